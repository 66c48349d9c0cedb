/-
  Contracts of the walk:NdM,NdL,NdN,Open,OpenH,NdO,NdP,NdQ,NdR.
-/
import Derived.Test.YtimhagicagdkfaaGreatNf25
import Derived.Test.YtimhagicagdkfaaGreatNf10
import Derived.Test.YtimhagicagdkfaaGreatNf9
import Derived.Test.YtimhagicagdkfaaGreatNf13
set_option linter.unusedVariables false
set_option linter.unusedSimpArgs false
set_option maxHeartbeats 16000000
set_option maxRecDepth 100000
namespace Go.Proofs.YtimhagicagdkfaaGreat
section
open Go.RowKit
theorem J4 {c:aZ} {r:Nat} (hr:r<5) {v:Ev} (h1:v.r=(r:Int)) (h2:v.n=c.at r+1) (h3:v.c.le c=true) (h0:0≤c.at r):wB c [v]=([v],[],c.inc r):=by
 have hh:hasB c v.r v.n=false:=by
  unfold hasB
  rw[h1,h2]
  refine decide_eq_false fun h=> ?_
  have:c.get (r:Int)=c.at r:=by
   rcases(show r=0∨r=1∨r=2∨r=3∨r=4 by omega)with rfl|rfl|rfl|rfl|rfl<;>rfl
  omega
 have hw:lZ c [v]=[v]:=by
  unfold lZ
  rw[List.foldl_cons,List.foldl_nil]
  unfold qY
  rw[hh]
  rfl
 have hn:sS c [v]=some v:=by
  refine Js hr (fun q hq=> ?_) ?_
  · unfold sQ Jr
    rw[List.find?_cons,show decide (v.r=(q:Int)∧v.n=c.at q+1)=false from decide_eq_false fun h=>by omega]
    rfl
  · unfold sQ Jr
    rw[List.find?_cons,show decide (v.r=(r:Int)∧v.n=c.at r+1)=true from decide_eq_true ⟨h1,h2⟩]
    exact if_pos ⟨by omega,h3⟩
 have hm:DT [v] v=[]:=by simp[DT]
 unfold wB
 rw[hw]
 show Yi 1 c [v] []=_
 unfold Yi
 rw[hn]
 dsimp only
 rw[hm,h1,Int.toNat_natCast]
 rfl
theorem V5 {bs:List UInt8} {l:List Rc} {x:Rc} (h:Gz bs l []) (hx:mX x=true):Gz (bs++aS x) (l++[x]) []:=by
 have e:=h.eq
 rw[List.append_nil]at e
 refine⟨fun r hr=> ?_, ?_,J3⟩
 · rcases List.mem_append.1 hr with hr|hr
   · exact h.may r hr
   · rw[List.mem_singleton.1 hr];exact hx
 · rw[e,List.append_nil,JF]
theorem V6 {bs:List UInt8} {l:List Rc} {x:Rc} (h:Gz bs l []) (hx:mX x=true) {i:Nat} (hi:i<(aS x).length):Gz (bs++(aS x).take i) l ((aS x).take i):=by
 have e:=h.eq
 rw[List.append_nil]at e
 exact⟨h.may,by rw[e],V4 x hx i hi⟩
theorem abf:Gz [] [] []:=⟨by simp,rfl,J3⟩
def Zt:kZ:=⟨2,1,4,4,4,3⟩
def Zu:ByteArray:=⟨#[99,121]⟩
def ed1:Ed:=⟨1,Zu,0,⟨#[]⟩⟩
def ed2:Ed:=⟨2,Zu,0,⟨#[]⟩⟩
def yG:Ev:=⟨1,1,dX,1,1,Zu,0,⟨#[]⟩⟩
def nv2:Ev:=⟨1,2,⟨0,1,0,0,0⟩,2,2,Zu,0,⟨#[]⟩⟩
def Uc:Rc:=⟨1,1,0,dX,[yG]⟩
def rc2:Rc:=⟨1,1,0,dX,[nv2]⟩
def nS1:Nd:=⟨Zt,1,true,⟨aS Uc,false,false,0⟩,[yG],0,⟨0,1,0,0,0⟩,[],[yG]⟩
def nS2:Nd:=⟨Zt,1,true,⟨aS Uc,false,true,3⟩,[yG],0,⟨0,1,0,0,0⟩,[],[yG]⟩
def nS3:Nd:=⟨Zt,1,false,⟨aS Uc++(aS rc2).take 3,true,false,3⟩,[yG],0,⟨0,1,0,0,0⟩,[],[yG]⟩
def nS4:Nd:=⟨Zt,1,true,⟨lq [Uc],false,false,3⟩,[yG],0,⟨0,1,0,0,0⟩,[],[yG]⟩
theorem Ud {e:Ev} (h1:aN e e=false) (h2:1≤e.k∧e.k≤5):Dp (lV (eqK e.key) []) e:=⟨fun x hx=>(by cases hx),fun x hx=>(by cases hx),h1,fun x hx=>(by cases hx),h2,fun x hx=>(by cases hx)⟩
theorem JK.mk' {P:List Ev} (one:tC P) (hi: ∀a∈P,∀b∈P,aN a b=true→a.h<b.h) (tr: ∀a∈P,∀b∈P,∀c∈P,aN a b=true→aN b c=true→aN a c=true) (key:ByteArray):JK (lV (eqK key) P) key:=by
 have hs: ∀x∈lV (eqK key) P,x∈P:=fun x hx=>(List.mem_filter.1 hx).1
 exact⟨LY,fun a ha b hb=>one a (hs a ha) b (hs b hb),fun a ha b hb=>hi a (hs a ha) b (hs b hb),fun a ha b hb c hc=>tr a (hs a ha) b (hs b hb) c (hs c hc)⟩
theorem abg (key:ByteArray):JK (lV (eqK key) []) key:=JK.mk' (fun a ha=>by cases ha) (fun a ha=>by cases ha) (fun a ha=>by cases ha) key
theorem Ue {e:Ev} (h:aN e e=false) (key:ByteArray):JK (lV (eqK key) [e]) key:=
 JK.mk' (fun a ha b hb _=>by rw[List.mem_singleton.1 ha,List.mem_singleton.1 hb]) (fun a ha b hb hq=>by rw[List.mem_singleton.1 ha,List.mem_singleton.1 hb,h]at hq;cases hq)
  (fun a ha b hb c hc hq _=>by rw[List.mem_singleton.1 ha,List.mem_singleton.1 hc,h];rw[List.mem_singleton.1 ha,List.mem_singleton.1 hb,h]at hq;cases hq) key
theorem Uf:oP []=[]:=by rw[of_same (l:=[]) (key:=Zu) (fun x hx=>by cases hx)];rfl
theorem Ei:oP [yG]=[fE Zu (bH [yG] (aF [yG]))]:=by
 rw[of_same (l:=[yG]) (key:=Zu) (fun x hx=>by rw[List.mem_singleton.1 hx];rfl)]
 rw[if_neg (fun h=>absurd (show (aF [yG]).length=0 by rw[h];rfl) (by decide))]
theorem J5 (A:List Ev):(valsF A).length≤A.length:=by
 unfold valsF
 refine Nat.le_trans (uz _) ?_
 unfold sortL
 rw[List.length_mergeSort,List.length_map]
 exact Nat.le_refl _
theorem Pv (key:ByteArray) (l:Int) (ws:List Ev):(dW key l ws).length≤ws.length:=List.length_filter_le ..
theorem Ug (P:List Ev) (hP:P.length≤1000000): ∀x∈oP P,x.s0.length≤1000000∧x.s1.length≤1000000:=fun x hx=>by
 unfold oP at hx
 obtain⟨k,_,rfl⟩:=List.mem_map.1 hx
 have hc:(bH P (aF P)).length≤P.length:=List.length_filter_le ..
 exact⟨Nat.le_trans (Nat.le_trans (J5 _) (Pv _ _ _)) (by omega),Nat.le_trans (Nat.le_trans (J5 _) (Pv _ _ _)) (by omega)⟩
theorem abh (q:Nat):dX.at q=0:=by
 match q with
 |0=>rfl
 |1=>rfl
 |2=>rfl
 |3=>rfl
 |_+4=>rfl
theorem aeD (c:kZ) (r:Nat) (hr:r<5):NdB (nd0 c r) where
 r:=hr
 ic q:=by show 0≤dX.at q∧dX.at q≤1000000;rw[abh];decide
 pst:=abg
 len:=Nat.zero_le _
 hh e he:=by cases he
 cs x hx:=by rw[show oP (nd0 c r).log=[]from Uf]at hx;cases hx
 bs:=Nat.zero_le _
 wl:=Nat.zero_le _
 sent:=⟨Int.le_refl _,by show(0:Int)≤1000000;decide⟩
 wn j:=by show 0≤(([]:List Ev).getD j default).n∧(([]:List Ev).getD j default).n≤1000000;rw[List.getD_nil];decide
end
section
open Go.RowKit
theorem RF (h:Nd) (hup:h.up=false) (l:List Rc) (t:List UInt8) (hr:Gz h.d.bs l t) (hl:h.d.bs.length≤1000000000) (hb: ∀j,j≤l.length→(Ru (l.take j)).1.length≤1000000) (hev: ∀j,j<l.length→(l.getD j default).ev.length≤1000000) (hG:abP (Ru l).1) (hs:0≤(Ru l).2∧(Ru l).2≤1000000):
  aY Tryz.prog 26 [(0,.obs (oU h))] [.box 0 0] (.v (.int .i64 0)) [(0,.obs (oU ⟨h.c,h.r,true,⟨lq l,false,false,h.d.keep⟩,(Ru l).1,(Ru l).2,Rw (Ru l).1,[],rE h.c.q (Ru l).2 h.r (Ru l).1⟩))]:=by
 refine MC (ho:=[]) 15 16 17 18 19 20 ⟨_,_,Tryz.func26,rfl,rfl⟩ rfl ?_ rfl
 rw[List.append_nil]
 have hcl:=fun d=>Vr d h.d.bs (bF.bytes _) rfl hl
 have hall:=OX h.d.bs (bF.bytes _) rfl hl hr
 have hbl:(lq l).length≤h.d.bs.length:=by rw[hr.eq,List.length_append];omega
 have htk : h.d.bs.take (lq l).length = lq l :=by
  conv=>lhs;rw[hr.eq]
  rw[List.take_left]
 have htr:=Vs ⟨h.d.bs,false,false,h.d.keep⟩ (lq l).length hbl hl
 dsimp only at htr
 rw[htk]at htr
 have hll:=GI l
 obtain⟨c,r,up,⟨bs,down,cut,keep⟩,adZ,ad1,ic0,abQ,lZ⟩:=h
 dsimp only[Hy,ndN,PX,PW,GK]at*
 subst hup
 generalize lq l=w at*
 clear hr htk
 refine K1.M 0x40c7800008bd Tryz.func26 40 ?_
 repeat' ((conv=>whnf);first|refine K1.w ?_|refine K1.u ?_|refine K1.F1 (hcl _) rfl ?_|refine K1.P1 (hall) rfl ?_|refine K1.C 2 [(0,_),(1,_)] (htr) rfl ?_|refine K1.I 0x85 Tryz.func47 ?_|refine K1.I 0x1 Tryz.func59 ?_|refine K1.I 0x5 Tryz.func61 ?_|refine HY.scope dR 0x40c7800008bd ?_|refine HY.label ?_|refine K1.o (id:=15) [(0,none),(1,none),(2,none),(3,none),(4,none),(5,none),(6,some [4]),(7,none),(8,none),(9,some [4,3,7])] [(5,[4]),(6,[4]),(7,[4,3]),(8,[4,3,7]),(9,[4,3,7])] ?_|refine K1.o (id:=16) [(0,none),(1,none),(2,none),(3,none),(4,none),(5,none),(6,none),(7,some [6,4,2]),(8,none),(9,none),(10,some [6,4,2,8])] [(3,[2]),(4,[2]),(7,[6,4,2]),(8,[6,4,2]),(9,[6,4,2,8]),(10,[6,4,2,8])] ?_|refine K1.z ?_|refine K1.y (fun _=> ?_) (fun _=> ?_)|fail)
 all_goals(conv=>whnf)
 refine aJ.Xe 0 9 45 42 12 (dV []) (by decide) rfl rfl ?_
 refine aJ.mk {j:Nat//j≤l.length} (fun j=>⟨[(33,.v (.int .i64 (j.1:Int))),(32,.v (.int .i64 (l.length:Int))),(31,.sl 9 l.length false (rcF l)),(0,.box 0 0),(2,.v (.int .i64 0))],
   [(0,.box 82 [.v (.int .i64 c.n),.v (.int .i64 c.w),.v (.int .i64 c.q),.v (.int .i64 c.h),.v (.int .i64 c.l),.v (.int .i64 c.p),.v (.int .i64 (r:Int)),.v (.bool false),.box 8 0,.own 45,.v (.int .i64 (Ru (l.take j.1)).2),.box 11 0,.box 12 0,.box 13 0]),(8,.box 146 [.own 41,.v (.bool false),.v (.bool false),.v (.int .i64 keep)]),(41,.row 5 1 w.length true (aX w)),(11,.obs (xg adZ adZ.length)),(12,Oy c.h ic0 (Pq abQ)),(13,QN c.q c.w ad1 (.own 14)),(14,jd lZ),(45,jd (Ru (l.take j.1)).1)],
   [[(0,.box 0 0),(1,.box 8 0),(2,.own 11),(3,.box 12 0),(4,.box 13 0),(5,.own 9),(6,.own 10),(7,.own 14)]],50⟩) (fun j=>l.length-j.1) ⟨0,Nat.zero_le _⟩ _
  (dB.mk' [] _ _ _ rfl ⟨aj.int rfl,aj.refl _,aj.refl _,aj.refl _,aj.refl _,trivial⟩ ⟨⟨_,rfl,au.refl _⟩,⟨_,rfl,au.refl _⟩,⟨_,rfl,au.refl _⟩,⟨_,rfl,au.refl _⟩,⟨_,rfl,au.refl _⟩,⟨_,rfl,au.refl _⟩,⟨_,rfl,au.refl _⟩,⟨_,rfl,au.refl _⟩,trivial⟩ rfl) ?_
 rintro⟨j,hj⟩
 dsimp only
 by_cases hjl:j<l.length
 · have hst:=Zq hjl
   have hb0:=hb j hj
   have hb1:=hev j hjl
   rw[show l.getD j default=l.getD (j:Int).toNat default from rfl]at hst hb1
   generalize Ru (l.take j)=q at hst hb0⊢
   obtain⟨q1,q2⟩:=q
   unfold ac5 at hst
   dsimp only at hst hb0⊢
   by_cases hk3:(l.getD (j:Int).toNat default).k=3
   · rw[if_pos hk3]at hst
     repeat' ((conv=>whnf);first|refine K1.w ?_|refine K1.u ?_|refine K1.o (id:=15) [(0,none),(1,none),(2,none),(3,none),(4,none),(5,none),(6,some [4]),(7,none),(8,none),(9,some [4,3,7])] [(5,[4]),(6,[4]),(7,[4,3]),(8,[4,3,7]),(9,[4,3,7])] ?_|refine K1.o (id:=16) [(0,none),(1,none),(2,none),(3,none),(4,none),(5,none),(6,none),(7,some [6,4,2]),(8,none),(9,none),(10,some [6,4,2,8])] [(3,[2]),(4,[2]),(7,[6,4,2]),(8,[6,4,2]),(9,[6,4,2,8]),(10,[6,4,2,8])] ?_|refine K1.z ?_|refine K1.y (fun _=> ?_) (fun _=> ?_)|fail)
     all_goals(conv=>whnf)
     exact⟨⟨j+1,hjl⟩,_,dB.mk' [] _ _ _ rfl ⟨aj.int rfl,aj.refl _,aj.refl _,aj.refl _,aj.refl _,trivial⟩ ⟨⟨_,rfl,by dsimp only;rw[hst];exact au.refl _⟩,⟨_,rfl,au.refl _⟩,⟨_,rfl,au.refl _⟩,⟨_,rfl,au.refl _⟩,⟨_,rfl,au.refl _⟩,⟨_,rfl,au.refl _⟩,⟨_,rfl,au.refl _⟩,⟨_,rfl,by dsimp only;rw[hst];exact au.refl _⟩,trivial⟩ rfl,by show l.length-(j+1)<l.length-j;omega⟩
   · rw[if_neg hk3]at hst
     by_cases hk4:(l.getD (j:Int).toNat default).k=4
     · rw[if_pos hk4]at hst
       repeat' ((conv=>whnf);first|refine K1.w ?_|refine K1.u ?_|refine K1.o (id:=15) [(0,none),(1,none),(2,none),(3,none),(4,none),(5,none),(6,some [4]),(7,none),(8,none),(9,some [4,3,7])] [(5,[4]),(6,[4]),(7,[4,3]),(8,[4,3,7]),(9,[4,3,7])] ?_|refine K1.o (id:=16) [(0,none),(1,none),(2,none),(3,none),(4,none),(5,none),(6,none),(7,some [6,4,2]),(8,none),(9,none),(10,some [6,4,2,8])] [(3,[2]),(4,[2]),(7,[6,4,2]),(8,[6,4,2]),(9,[6,4,2,8]),(10,[6,4,2,8])] ?_|refine K1.z ?_|refine K1.y (fun _=> ?_) (fun _=> ?_)|fail)
       all_goals(conv=>whnf)
       exact⟨⟨j+1,hjl⟩,_,dB.mk' [(51,45)] _ _ _ rfl ⟨aj.int rfl,aj.refl _,aj.refl _,aj.refl _,aj.refl _,trivial⟩ ⟨⟨_,rfl,by dsimp only;rw[hst];exact au.refl _⟩,⟨_,rfl,au.refl _⟩,⟨_,rfl,au.refl _⟩,⟨_,rfl,au.refl _⟩,⟨_,rfl,au.refl _⟩,⟨_,rfl,au.refl _⟩,⟨_,rfl,au.refl _⟩,⟨_,rfl,by dsimp only;rw[hst];exact au.refl _⟩,trivial⟩ rfl,by show l.length-(j+1)<l.length-j;omega⟩
     · rw[if_neg hk4]at hst
       repeat' ((conv=>whnf);first|refine K1.w ?_|refine K1.u ?_|refine K1.o (id:=15) [(0,none),(1,none),(2,none),(3,none),(4,none),(5,none),(6,some [4]),(7,none),(8,none),(9,some [4,3,7])] [(5,[4]),(6,[4]),(7,[4,3]),(8,[4,3,7]),(9,[4,3,7])] ?_|refine K1.o (id:=16) [(0,none),(1,none),(2,none),(3,none),(4,none),(5,none),(6,none),(7,some [6,4,2]),(8,none),(9,none),(10,some [6,4,2,8])] [(3,[2]),(4,[2]),(7,[6,4,2]),(8,[6,4,2]),(9,[6,4,2,8]),(10,[6,4,2,8])] ?_|refine K1.z ?_|refine K1.y (fun _=> ?_) (fun _=> ?_)|fail)
       all_goals(conv=>whnf)
       exact⟨⟨j+1,hjl⟩,_,dB.mk' [(51,45)] _ _ _ rfl ⟨aj.int rfl,aj.refl _,aj.refl _,aj.refl _,aj.refl _,trivial⟩ ⟨⟨_,rfl,by dsimp only;rw[hst];exact au.refl _⟩,⟨_,rfl,au.refl _⟩,⟨_,rfl,au.refl _⟩,⟨_,rfl,au.refl _⟩,⟨_,rfl,au.refl _⟩,⟨_,rfl,au.refl _⟩,⟨_,rfl,au.refl _⟩,⟨_,rfl,by dsimp only;rw[hst];exact au.row (by rw[List.length_append]) fun m _=>els_app rfl m⟩,trivial⟩ rfl,by show l.length-(j+1)<l.length-j;omega⟩
 · obtain rfl:j=l.length:=by omega
   rw[List.take_length]
   have hgl:=hG.len
   generalize Ru l=q at hG hs hgl⊢
   obtain⟨L,sn⟩:=q
   dsimp only at hG hs hgl⊢
   clear hall hcl htr hb hev
   repeat' ((conv=>whnf);first|refine K1.w ?_|refine K1.u ?_|refine K1.C 0 [] (abO) rfl ?_|refine K1.C 0 [] (OA c.q c.w sn) rfl ?_|refine K1.I 0x80000003c0000015 Tryz.func63 ?_|refine K1.o (id:=15) [(0,none),(1,none),(2,none),(3,none),(4,none),(5,none),(6,some [4]),(7,none),(8,none),(9,some [4,3,7])] [(5,[4]),(6,[4]),(7,[4,3]),(8,[4,3,7]),(9,[4,3,7])] ?_|refine K1.o (id:=16) [(0,none),(1,none),(2,none),(3,none),(4,none),(5,none),(6,none),(7,some [6,4,2]),(8,none),(9,none),(10,some [6,4,2,8])] [(3,[2]),(4,[2]),(7,[6,4,2]),(8,[6,4,2]),(9,[6,4,2,8]),(10,[6,4,2,8])] ?_|refine K1.o (id:=2) [(0,none),(1,none),(2,none),(3,none),(4,none),(5,none),(6,none),(7,none),(8,none),(9,none),(10,none),(11,none),(12,none),(13,none),(14,none),(15,some [14,12,10,7,5,2]),(16,none),(17,none),(18,some [14,12,10,7,5,2,16])] [(3,[2]),(4,[2]),(5,[2]),(8,[7]),(9,[7]),(10,[7]),(13,[12]),(14,[12]),(15,[14,12,10,7,5,2]),(16,[14,12,10,7,5,2]),(17,[14,12,10,7,5,2,16]),(18,[14,12,10,7,5,2,16])] ?_|refine K1.o (id:=7) [(0,none),(1,none),(2,none),(3,none),(4,none),(5,some [4,3,1])] [(2,[1]),(3,[1]),(5,[4,3,1])] ?_|refine K1.o (id:=9) [(0,none),(1,none),(2,none),(3,none),(4,none),(5,some [4,3,1])] [(2,[1]),(3,[1]),(5,[4,3,1])] ?_|refine K1.o (id:=11) [(0,none),(1,none),(2,none),(3,none),(4,none),(5,none),(6,none),(7,some [6,5,2]),(8,none),(9,none),(10,some [6,5,2,8])] [(3,[2]),(4,[2]),(5,[2]),(7,[6,5,2]),(8,[6,5,2]),(9,[6,5,2,8]),(10,[6,5,2,8])] ?_|refine K1.z ?_|refine K1.y (fun _=> ?_) (fun _=> ?_)|fail)
   all_goals(conv=>whnf)
   refine aJ.Xe 52 3 55 42 12 (dV []) (by decide) rfl rfl ?_
   refine aJ.mk {i:Nat//i≤L.length} (fun i=>⟨[(32,.v (.int .i64 (i.1:Int))),(31,.v (.int .i64 (L.length:Int))),(30,.own 45),(2,.box 50 0),(0,.box 0 0)],
    [(52,.box 132 [.v (.int .i64 c.q),.v (.int .i64 c.w),.v (.int .i64 sn),.own 55]),(51,.obs (xg (L.take i.1) i.1)),(50,.box 31 (Rw (L.take i.1)).cs),(0,.box 82 [.v (.int .i64 c.n),.v (.int .i64 c.w),.v (.int .i64 c.q),.v (.int .i64 c.h),.v (.int .i64 c.l),.v (.int .i64 c.p),.v (.int .i64 (r:Int)),.v (.bool false),.box 8 0,.own 45,.v (.int .i64 sn),.box 51 0,.box 12 0,.box 52 0]),(8,.box 146 [.own 41,.v (.bool false),.v (.bool false),.v (.int .i64 keep)]),(41,.row 5 1 w.length true (aX w)),(12,Oy c.h ic0 (Pq abQ)),(45,jd L),(55,jd (rE c.q sn r (L.take i.1)))],
    [[(67,.box 0 0),(34,.v (.bool false)),(33,.v (.int .i64 (l.length:Int))),(32,.v (.int .i64 (l.length:Int))),(31,.sl 9 l.length false (rcF l)),(0,.box 0 0),(2,.v (.int .i64 0))],[(0,.box 0 0),(1,.box 8 0),(2,.own 11),(3,.box 12 0),(4,.box 13 0),(5,.own 9),(6,.own 10),(7,.own 14)]],60⟩) (fun i=>L.length-i.1) ⟨0,Nat.zero_le _⟩ _
    (dB.mk' [] _ _ _ rfl ⟨aj.int rfl,aj.refl _,aj.refl _,aj.refl _,aj.refl _,trivial⟩ ⟨⟨_,rfl,au.refl _⟩,⟨_,rfl,au.refl _⟩,⟨_,rfl,au.refl _⟩,⟨_,rfl,au.refl _⟩,⟨_,rfl,au.refl _⟩,⟨_,rfl,au.refl _⟩,⟨_,rfl,au.refl _⟩,⟨_,rfl,au.refl _⟩,⟨_,rfl,au.refl _⟩,trivial⟩ rfl) ?_
   rintro⟨i,hi⟩
   dsimp only[aZ.cs]
   have hcb:=abe (L.take i)
   rw[List.length_take,Nat.min_eq_left hi]at hcb
   by_cases hil:i<L.length
   · have hap:=Ua (hG.nx i hil) (hG.may i hil) (by rw[List.length_take];omega) i
     have her:=hG.r i hil
     have hct:=V3 hil
     have hwt:=Rz (q:=c.q) (sent:=sn) (r:=r) hil
     have hwl:=JZ (q:=c.q) (sent:=sn) (r:=r) (L.take i) []
     have hwn:=fun j=>ac6 (q:=c.q) (sent:=sn) (r:=r) (l:=L.take i) (fun e he=>hG.n e (List.mem_of_mem_take he)) j
     rw[List.length_take,Nat.min_eq_left hi,List.length_nil,Nat.zero_add]at hwl
     rw[←take_snoc hil]at hap
     rw[show L.getD i default=L.getD (i:Int).toNat default from rfl]at hap her hct hwt
     obtain⟨⟨w',x⟩,hwx⟩: ∃z,LD c.q sn (rE c.q sn r (L.take i)) (L.getD (i:Int).toNat default)=z:=⟨_,rfl⟩
     have had:=OC c.q c.w sn _ w' (L.getD (i:Int).toNat default) x (by show(rE c.q sn r (L.take i)).length≤_;unfold rE;omega) (by omega) (fun j=>by have:=hwn j;omega) hwx
     unfold yQ at hwt
     rw[hwx]at hwt
     clear hwx hwn hwl hG
     generalize rE c.q sn r (L.take i)=wt at hwt had⊢
     generalize Rw (L.take i)=ck at hct hcb⊢
     obtain⟨c0,c1,c2,c3,c4⟩:=ck
     unfold aZ.upto at hcb
     dsimp only[Ev.av,Ev.cs,QN]at*
     have Gf:Nat.ble ((i:Int).toNat+1) L.length=true:=Nat.ble_eq_true_of_le (by omega)
     rcases(show(L.getD (i:Int).toNat default).r=0∨(L.getD (i:Int).toNat default).r=1∨(L.getD (i:Int).toNat default).r=2∨(L.getD (i:Int).toNat default).r=3∨(L.getD (i:Int).toNat default).r=4 by omega)with hr0|hr0|hr0|hr0|hr0
     all_goals
      rw[hr0]at hct
      simp only[aZ.inc,Int.toNat_zero,Int.toNat_one,Int.reduceToNat]at hct
      by_cases ho:(L.getD (i:Int).toNat default).r=(r:Int)
      · by_cases hn:sn<(L.getD (i:Int).toNat default).n
        · rw[if_pos ⟨ho,hn⟩]at hwt
          repeat' ((conv=>whnf);first|refine K1.w ?_|refine K1.u ?_|refine K1.C 1 [(0,_)] (hap) rfl ?_|refine K1.C 2 [(0,_),(1,_)] (had) rfl ?_|refine iC.yes Gf ?_|refine qM.lit 0 hr0 rfl ?_|refine qM.lit 1 hr0 rfl ?_|refine qM.lit 2 hr0 rfl ?_|refine qM.lit 3 hr0 rfl ?_|refine qM.lit 4 hr0 rfl ?_|refine K1.I 0x80000003c0000015 Tryz.func63 ?_|refine K1.o (id:=15) [(0,none),(1,none),(2,none),(3,none),(4,none),(5,none),(6,some [4]),(7,none),(8,none),(9,some [4,3,7])] [(5,[4]),(6,[4]),(7,[4,3]),(8,[4,3,7]),(9,[4,3,7])] ?_|refine K1.o (id:=16) [(0,none),(1,none),(2,none),(3,none),(4,none),(5,none),(6,none),(7,some [6,4,2]),(8,none),(9,none),(10,some [6,4,2,8])] [(3,[2]),(4,[2]),(7,[6,4,2]),(8,[6,4,2]),(9,[6,4,2,8]),(10,[6,4,2,8])] ?_|refine K1.o (id:=2) [(0,none),(1,none),(2,none),(3,none),(4,none),(5,none),(6,none),(7,none),(8,none),(9,none),(10,none),(11,none),(12,none),(13,none),(14,none),(15,some [14,12,10,7,5,2]),(16,none),(17,none),(18,some [14,12,10,7,5,2,16])] [(3,[2]),(4,[2]),(5,[2]),(8,[7]),(9,[7]),(10,[7]),(13,[12]),(14,[12]),(15,[14,12,10,7,5,2]),(16,[14,12,10,7,5,2]),(17,[14,12,10,7,5,2,16]),(18,[14,12,10,7,5,2,16])] ?_|refine K1.o (id:=7) [(0,none),(1,none),(2,none),(3,none),(4,none),(5,some [4,3,1])] [(2,[1]),(3,[1]),(5,[4,3,1])] ?_|refine K1.o (id:=9) [(0,none),(1,none),(2,none),(3,none),(4,none),(5,some [4,3,1])] [(2,[1]),(3,[1]),(5,[4,3,1])] ?_|refine K1.o (id:=11) [(0,none),(1,none),(2,none),(3,none),(4,none),(5,none),(6,none),(7,some [6,5,2]),(8,none),(9,none),(10,some [6,5,2,8])] [(3,[2]),(4,[2]),(5,[2]),(7,[6,5,2]),(8,[6,5,2]),(9,[6,5,2,8]),(10,[6,5,2,8])] ?_|refine K1.z ?_|refine K1.y (fun _=> ?_) (fun _=> ?_)|fail)
          all_goals(conv=>whnf)
          exact⟨⟨i+1,hil⟩,_,dB.mk' [(62,55)] _ _ _ rfl ⟨aj.int rfl,aj.refl _,aj.refl _,aj.refl _,aj.refl _,trivial⟩ ⟨⟨_,rfl,au.refl _⟩,⟨_,rfl,au.refl _⟩,⟨_,rfl,by dsimp only;rw[hct];exact au.refl _⟩,⟨_,rfl,au.refl _⟩,⟨_,rfl,au.refl _⟩,⟨_,rfl,au.refl _⟩,⟨_,rfl,au.refl _⟩,⟨_,rfl,au.refl _⟩,⟨_,rfl,by dsimp only;rw[hwt];exact au.refl _⟩,trivial⟩ rfl,by show L.length-(i+1)<L.length-i;omega⟩
        · rw[if_neg (fun h=>hn h.2)]at hwt
          clear had
          repeat' ((conv=>whnf);first|refine K1.w ?_|refine K1.u ?_|refine K1.C 1 [(0,_)] (hap) rfl ?_|refine K1.C 2 [(0,_),(1,_)] (had) rfl ?_|refine iC.yes Gf ?_|refine qM.lit 0 hr0 rfl ?_|refine qM.lit 1 hr0 rfl ?_|refine qM.lit 2 hr0 rfl ?_|refine qM.lit 3 hr0 rfl ?_|refine qM.lit 4 hr0 rfl ?_|refine K1.I 0x80000003c0000015 Tryz.func63 ?_|refine K1.o (id:=15) [(0,none),(1,none),(2,none),(3,none),(4,none),(5,none),(6,some [4]),(7,none),(8,none),(9,some [4,3,7])] [(5,[4]),(6,[4]),(7,[4,3]),(8,[4,3,7]),(9,[4,3,7])] ?_|refine K1.o (id:=16) [(0,none),(1,none),(2,none),(3,none),(4,none),(5,none),(6,none),(7,some [6,4,2]),(8,none),(9,none),(10,some [6,4,2,8])] [(3,[2]),(4,[2]),(7,[6,4,2]),(8,[6,4,2]),(9,[6,4,2,8]),(10,[6,4,2,8])] ?_|refine K1.o (id:=2) [(0,none),(1,none),(2,none),(3,none),(4,none),(5,none),(6,none),(7,none),(8,none),(9,none),(10,none),(11,none),(12,none),(13,none),(14,none),(15,some [14,12,10,7,5,2]),(16,none),(17,none),(18,some [14,12,10,7,5,2,16])] [(3,[2]),(4,[2]),(5,[2]),(8,[7]),(9,[7]),(10,[7]),(13,[12]),(14,[12]),(15,[14,12,10,7,5,2]),(16,[14,12,10,7,5,2]),(17,[14,12,10,7,5,2,16]),(18,[14,12,10,7,5,2,16])] ?_|refine K1.o (id:=7) [(0,none),(1,none),(2,none),(3,none),(4,none),(5,some [4,3,1])] [(2,[1]),(3,[1]),(5,[4,3,1])] ?_|refine K1.o (id:=9) [(0,none),(1,none),(2,none),(3,none),(4,none),(5,some [4,3,1])] [(2,[1]),(3,[1]),(5,[4,3,1])] ?_|refine K1.o (id:=11) [(0,none),(1,none),(2,none),(3,none),(4,none),(5,none),(6,none),(7,some [6,5,2]),(8,none),(9,none),(10,some [6,5,2,8])] [(3,[2]),(4,[2]),(5,[2]),(7,[6,5,2]),(8,[6,5,2]),(9,[6,5,2,8]),(10,[6,5,2,8])] ?_|refine K1.z ?_|refine K1.y (fun _=> ?_) (fun _=> ?_)|fail)
          all_goals(conv=>whnf)
          exact⟨⟨i+1,hil⟩,_,dB.mk' [] _ _ _ rfl ⟨aj.int rfl,aj.refl _,aj.refl _,aj.refl _,aj.refl _,trivial⟩ ⟨⟨_,rfl,au.refl _⟩,⟨_,rfl,au.refl _⟩,⟨_,rfl,by dsimp only;rw[hct];exact au.refl _⟩,⟨_,rfl,au.refl _⟩,⟨_,rfl,au.refl _⟩,⟨_,rfl,au.refl _⟩,⟨_,rfl,au.refl _⟩,⟨_,rfl,au.refl _⟩,⟨_,rfl,by dsimp only;rw[hwt];exact au.refl _⟩,trivial⟩ rfl,by show L.length-(i+1)<L.length-i;omega⟩
      · rw[if_neg (fun h=>ho h.1)]at hwt
        clear had
        repeat' ((conv=>whnf);first|refine K1.w ?_|refine K1.u ?_|refine K1.C 1 [(0,_)] (hap) rfl ?_|refine K1.C 2 [(0,_),(1,_)] (had) rfl ?_|refine iC.yes Gf ?_|refine qM.lit 0 hr0 rfl ?_|refine qM.lit 1 hr0 rfl ?_|refine qM.lit 2 hr0 rfl ?_|refine qM.lit 3 hr0 rfl ?_|refine qM.lit 4 hr0 rfl ?_|refine K1.I 0x80000003c0000015 Tryz.func63 ?_|refine K1.o (id:=15) [(0,none),(1,none),(2,none),(3,none),(4,none),(5,none),(6,some [4]),(7,none),(8,none),(9,some [4,3,7])] [(5,[4]),(6,[4]),(7,[4,3]),(8,[4,3,7]),(9,[4,3,7])] ?_|refine K1.o (id:=16) [(0,none),(1,none),(2,none),(3,none),(4,none),(5,none),(6,none),(7,some [6,4,2]),(8,none),(9,none),(10,some [6,4,2,8])] [(3,[2]),(4,[2]),(7,[6,4,2]),(8,[6,4,2]),(9,[6,4,2,8]),(10,[6,4,2,8])] ?_|refine K1.o (id:=2) [(0,none),(1,none),(2,none),(3,none),(4,none),(5,none),(6,none),(7,none),(8,none),(9,none),(10,none),(11,none),(12,none),(13,none),(14,none),(15,some [14,12,10,7,5,2]),(16,none),(17,none),(18,some [14,12,10,7,5,2,16])] [(3,[2]),(4,[2]),(5,[2]),(8,[7]),(9,[7]),(10,[7]),(13,[12]),(14,[12]),(15,[14,12,10,7,5,2]),(16,[14,12,10,7,5,2]),(17,[14,12,10,7,5,2,16]),(18,[14,12,10,7,5,2,16])] ?_|refine K1.o (id:=7) [(0,none),(1,none),(2,none),(3,none),(4,none),(5,some [4,3,1])] [(2,[1]),(3,[1]),(5,[4,3,1])] ?_|refine K1.o (id:=9) [(0,none),(1,none),(2,none),(3,none),(4,none),(5,some [4,3,1])] [(2,[1]),(3,[1]),(5,[4,3,1])] ?_|refine K1.o (id:=11) [(0,none),(1,none),(2,none),(3,none),(4,none),(5,none),(6,none),(7,some [6,5,2]),(8,none),(9,none),(10,some [6,5,2,8])] [(3,[2]),(4,[2]),(5,[2]),(7,[6,5,2]),(8,[6,5,2]),(9,[6,5,2,8]),(10,[6,5,2,8])] ?_|refine K1.z ?_|refine K1.y (fun _=> ?_) (fun _=> ?_)|fail)
        all_goals(conv=>whnf)
        exact⟨⟨i+1,hil⟩,_,dB.mk' [] _ _ _ rfl ⟨aj.int rfl,aj.refl _,aj.refl _,aj.refl _,aj.refl _,trivial⟩ ⟨⟨_,rfl,au.refl _⟩,⟨_,rfl,au.refl _⟩,⟨_,rfl,by dsimp only;rw[hct];exact au.refl _⟩,⟨_,rfl,au.refl _⟩,⟨_,rfl,au.refl _⟩,⟨_,rfl,au.refl _⟩,⟨_,rfl,au.refl _⟩,⟨_,rfl,au.refl _⟩,⟨_,rfl,by dsimp only;rw[hwt];exact au.refl _⟩,trivial⟩ rfl,by show L.length-(i+1)<L.length-i;omega⟩
   · obtain rfl:i=L.length:=by omega
     rw[List.take_length]
     generalize Rw L=ck at hcb⊢
     obtain⟨c0,c1,c2,c3,c4⟩:=ck
     dsimp only
     repeat' ((conv=>whnf);first|refine K1.w ?_|refine K1.u ?_|refine K1.C 0 [] (Oz c.h ⟨c0,c1,c2,c3,c4⟩) rfl ?_|refine K1.I 0x80000003c0000015 Tryz.func63 ?_|refine K1.o (id:=15) [(0,none),(1,none),(2,none),(3,none),(4,none),(5,none),(6,some [4]),(7,none),(8,none),(9,some [4,3,7])] [(5,[4]),(6,[4]),(7,[4,3]),(8,[4,3,7]),(9,[4,3,7])] ?_|refine K1.o (id:=16) [(0,none),(1,none),(2,none),(3,none),(4,none),(5,none),(6,none),(7,some [6,4,2]),(8,none),(9,none),(10,some [6,4,2,8])] [(3,[2]),(4,[2]),(7,[6,4,2]),(8,[6,4,2]),(9,[6,4,2,8]),(10,[6,4,2,8])] ?_|refine K1.o (id:=2) [(0,none),(1,none),(2,none),(3,none),(4,none),(5,none),(6,none),(7,none),(8,none),(9,none),(10,none),(11,none),(12,none),(13,none),(14,none),(15,some [14,12,10,7,5,2]),(16,none),(17,none),(18,some [14,12,10,7,5,2,16])] [(3,[2]),(4,[2]),(5,[2]),(8,[7]),(9,[7]),(10,[7]),(13,[12]),(14,[12]),(15,[14,12,10,7,5,2]),(16,[14,12,10,7,5,2]),(17,[14,12,10,7,5,2,16]),(18,[14,12,10,7,5,2,16])] ?_|refine K1.o (id:=7) [(0,none),(1,none),(2,none),(3,none),(4,none),(5,some [4,3,1])] [(2,[1]),(3,[1]),(5,[4,3,1])] ?_|refine K1.o (id:=9) [(0,none),(1,none),(2,none),(3,none),(4,none),(5,some [4,3,1])] [(2,[1]),(3,[1]),(5,[4,3,1])] ?_|refine K1.o (id:=11) [(0,none),(1,none),(2,none),(3,none),(4,none),(5,none),(6,none),(7,some [6,5,2]),(8,none),(9,none),(10,some [6,5,2,8])] [(3,[2]),(4,[2]),(5,[2]),(7,[6,5,2]),(8,[6,5,2]),(9,[6,5,2,8]),(10,[6,5,2,8])] ?_|refine K1.z ?_|refine K1.y (fun _=> ?_) (fun _=> ?_)|fail)
     all_goals(conv=>whnf)
     exact⟨[(41,15),(45,16),(51,17),(60,18),(52,19),(55,20)],rfl,rfl,⟨⟨_,rfl,au.refl _⟩,⟨_,rfl,au.refl _⟩,⟨_,rfl,au.refl _⟩,⟨_,rfl,au.box fun X us h=>aI.wz (k:=6) (x:= .v (.slice none 0 0)) (y:=Pq []) rfl (fun X u h=>C1.uo (s:=12) (by decide) (show C1 X (.v (.slice none 0 0)) u from h)) h⟩,⟨_,rfl,au.refl _⟩,⟨_,rfl,au.refl _⟩,⟨_,rfl,au.refl _⟩,⟨_,rfl,au.refl _⟩,trivial⟩,rfl,rfl,aj.refl _⟩
end
section
open Go.RowKit
theorem aeE {d:Dk} {u:Bool} (hd:d.bs.length≤100000000):NdB ⟨Zt,1,u,d,[yG],0,⟨0,1,0,0,0⟩,[],[yG]⟩ where
 r:=by show(1:Nat)<5;decide
 ic q:=by
  show 0≤(aZ.mk 0 1 0 0 0).at q∧(aZ.mk 0 1 0 0 0).at q≤1000000
  match q with
  |0=>decide
  |1=>decide
  |2=>decide
  |3=>decide
  |_+4=>exact⟨Int.le_refl 0,(by decide:(0:Int)≤1000000)⟩
 pst:=Ue (by decide)
 len:=by show 1≤1000000;decide
 hh e he:=by rw[List.mem_singleton.1 he];decide
 cs x hx:=by
  rw[show oP _=oP [yG]from rfl,Ei]at hx
  rw[←Ei]at hx
  exact Ug [yG] (by decide) x hx
 bs:=hd
 wl:=by show 1≤1000000;decide
 sent:=⟨Int.le_refl _,(by decide:(0:Int)≤1000000)⟩
 wn j:=by
  show 0≤([yG].getD j default).n∧([yG].getD j default).n≤1000000
  match j with
  |0=>decide
  |_+1=>rw[List.getD_cons_succ,List.getD_nil];decide
theorem may1:mX Uc=true:=by decide
theorem ad2:mX rc2=true:=by decide
theorem len1:(aS Uc).length≤900000:=by have:=qZ Uc may1;exact Nat.le_trans this (by decide)
theorem len2:3<(aS rc2).length:=by decide+kernel
theorem wr1:rY dk0 (aS Uc)=(⟨aS Uc,false,false,0⟩,0):=by unfold rY;rfl
theorem wr2:rY ⟨aS Uc,false,true,3⟩ (aS rc2)=(⟨aS Uc++(aS rc2).take 3,true,false,3⟩,18):=by
 have h:=len2
 have hk:Dl 3 (aS rc2).length=3:=by unfold Dl;rw[if_neg (by omega),if_neg (by omega)]
 unfold rY
 rw[if_neg (by simp),if_pos rfl]
 dsimp only
 rw[hk]
 rfl
theorem aeF:nT 4 3 (oP []) ed1=0:=by rw[Uf];rfl
theorem aeG:nT 4 3 (oP [yG]) ed2=0:=by
 rw[Ei]
 unfold nT
 rw[show Aw [fE Zu (bH [yG] (aF [yG]))] ed2.key=0 from Td (j:=0) (by decide) (fun i h=>absurd h (Nat.not_lt_zero i)) rfl]
 rfl
theorem aeH:abP [yG] where
 len:=by show 1≤1000000;decide
 nx j hj:=by
  obtain rfl:j=0:=by have:j<1:=hj;omega
  exact Ud (e:=yG) (by decide) (by decide)
 may j hj:=by
  obtain rfl:j=0:=by have:j<1:=hj;omega
  decide
 r j hj:=by
  obtain rfl:j=0:=by have:j<1:=hj;omega
  decide
 n e he:=by rw[List.mem_singleton.1 he];decide
theorem uO:aH Tryz.prog 8 [] (.v (.bool true)) []:=by
 have h0:=Bl Zt 1 (by decide) (by decide)
 have h1:aY Tryz.prog 22 [(0,.obs (oU (nd0 Zt 1)))] [.box 0 0,ed1.av] (.dM [yG.av,.v (.int .i64 0)]) [(0,.obs (oU nS1))]:=
  Hg (nd0 Zt 1) ed1 ⟨aS Uc,false,false,0⟩ (aeD Zt 1 (by decide)) rfl aeF (by decide) (by decide) may1 wr1 (J4 (r:=1) (by decide) rfl rfl (by decide) (by decide)) rfl (Ud (e:=yG) (by decide) (by decide)) (by decide)
 have h2:aY Tryz.prog 21 [(0,.obs (oU nS1))] [.box 0 0,.v (.int .i64 3)] (.dM []) [(0,.obs (oU nS2))]:=Zo nS1 3
 have h3:aY Tryz.prog 22 [(0,.obs (oU nS2))] [.box 0 0,ed2.av] (.dM [Zr.av,.v (.int .i64 18)]) [(0,.obs (oU nS3))]:=
  MG nS2 ed2 _ 18 (by decide) (aeE (Nat.le_trans len1 (by decide))) rfl aeG (by decide) (by decide) ad2 wr2
 have hb:(aS Uc++(aS rc2).take 3).length≤1000000000:=by
  have:=len1
  rw[List.length_append,List.length_take]
  omega
 have h4:aY Tryz.prog 26 [(0,.obs (oU nS3))] [.box 0 0] (.v (.int .i64 0)) [(0,.obs (oU nS4))]:=
  RF nS3 rfl [Uc] ((aS rc2).take 3) (V6 (V5 (l:=[]) abf may1) ad2 len2) hb (fun j hj=>by
   rcases(show j=0∨j=1 by have:j≤1:=hj;omega)with rfl|rfl<;>decide) (fun j hj=>by
   obtain rfl:j=0:=by have:j<1:=hj;omega
   decide) aeH (by decide)
 have h5:=VX nS4 rfl (Ue (by decide)) (by decide)
 rw[show oP nS4.log=oP [yG]from rfl,Ei]at h5
 have hk:([fE Zu (bH [yG] (aF [yG]))].getD (0:Int).toNat default).key=Zu:=rfl
 generalize bH [yG] (aF [yG])=W at h5 hk
 generalize oU (nd0 Zt 1)=b0 at*
 generalize oU nS1=b1 at*
 generalize oU nS2=b2 at*
 generalize oU nS3=b3 at*
 generalize oU nS4=b4 at*
 dsimp only[Ev.av,Ev.cs,Ed.av,kZ.av,kZ.cs,yG,ed1,ed2,Zr,dX,Zt,Zu]at h0 h1 h3 h5 hk
 refine K1.E 0x1003df Tryz.func8 ?_
 repeat' ((conv=>whnf);first|refine K1.w ?_|refine K1.u ?_|refine K1.C 0 [] (h0) rfl ?_|refine K1.C 1 [(0,_)] (h1) rfl ?_|refine K1.C 1 [(0,_)] (h2) rfl ?_|refine K1.C 1 [(0,_)] (h3) rfl ?_|refine K1.C 1 [(0,_)] (h4) rfl ?_|refine K1.C 3 [(0,_)] (h5) rfl ?_|refine aG.cO ?_|refine K1.z ?_|refine K1.y (fun _=> ?_) (fun _=> ?_)|fail)
 all_goals(conv=>whnf)
 all_goals first
   |exact aW.mk (aj.refl _)
   |exact absurd rfl (by assumption)
end
section
open Go.ChangeShapes Go.WideShapes Go.ChangeAt Go.RowKit
def Px (n:Int):Prop:= -9223372036854775808≤n∧n≤9223372036854775807
theorem tJ {n:Int} (h:(Lit.int .i64 n).wf=true):Px n:=by
 simpa[Px,Lit.wf,IntKind.min,IntKind.max,IntKind.signed,IntKind.bits]using h
structure kZ.rng (c:kZ):Prop where
 n:Px c.n
 w:Px c.w
 q:Px c.q
 h:Px c.h
 l:Px c.l
 p:Px c.p
theorem ac7:Sh 23 (fun bP=> ∃c:kZ,bP=c.cs∧c.rng):=
 (xZ Tryz.underlying23 (by kernel_rfl) rfl (.cons (kK Tryz.underlying3) (.cons (kK Tryz.underlying3) (.cons (kK Tryz.underlying3) (.cons (kK Tryz.underlying3) (.cons (kK Tryz.underlying3) (.cons (kK Tryz.underlying3) .nil))))))).imp fun bP h=>by
  obtain⟨_,_,rfl,⟨a,rfl,ha⟩,_,_,rfl,⟨b,rfl,hb⟩,_,_,rfl,⟨c,rfl,hc⟩,_,_,rfl,⟨d,rfl,hd⟩,_,_,rfl,⟨e,rfl,he⟩,_,_,rfl,⟨f,rfl,hf⟩,rfl⟩:=h
  exact⟨⟨a,b,c,d,e,f⟩,rfl,tJ ha,tJ hb,tJ hc,tJ hd,tJ he,tJ hf⟩
section
variable {H:Type} {enc:TypeId×Value→H} {w:World} {spare:Nat→Bool} {held:Bool} {v:Value} {d:DataW H} {p:List MemPlace} {r:Reach} {b0:Nat}
theorem MH (hv:Value.okWide Tryz.prog w r b0 23 v) (h:DataW.Trod enc Tryz.prog w 0 spare held 23 v d p) (hw: ∀n∈d.weights Tryz.prog 23,n≤reachBytes): ∃c:kZ,c.rng∧C1 ⟨w,allOf w,fun _=>undef⟩ c.av v:=by
 obtain⟨cs,rfl,_⟩:=okWide_struct Tryz.underlying23 hv
 obtain⟨xs,⟨e,rfl,he⟩,hc⟩:=Tc ac7 h hw ⟨_,rfl⟩
 exact⟨e,he,hc⟩
end
end
section
open Go.RowKit
theorem MI (c:kZ) (r:Int) (_:c.rng) (_: -9223372036854775808≤r∧r≤9223372036854775807):aH Tryz.prog 3 [c.av,.v (.int .i64 r)] (.v (.bool true)) []:=by
 have hsh:=uO
 have hm:=QI c
 by_cases h:zu c=true∧0≤r∧r<c.n
 · obtain⟨h1,h2,h3⟩:=h
   obtain⟨k,rfl⟩: ∃k:Nat,r=(k:Int):=⟨r.toNat,by omega⟩
   have hn:=Bl c k h1 h3
   have hs:=CO (nd0 c k) (Nat.zero_le _) (Nat.zero_le _)
   rw[h1]at hm
   generalize oU (nd0 c k)=b at hn hs
   obtain⟨cn,cw,cq,ch,cl,cp⟩:=c
   dsimp only[kZ.av,kZ.cs,JW,nd0,dX,cond_true]at*
   refine K1.E 0x200400003f7 Tryz.func3 ?_
   repeat' ((conv=>whnf);first|refine K1.w ?_|refine K1.u ?_|refine K1.P1 (hsh) rfl ?_|refine K1.P1 (hm) rfl ?_|refine K1.C 0 [] (hn) rfl ?_|refine K1.C 1 [(0,_)] (hs) rfl ?_|refine IC.mk (aZ.vs dX) (aZ.vs dX) (dX=dX) rfl rfl (nU _ _) ?_|refine yC.yes rfl ?_|refine aG.cO ?_|refine K1.z ?_|refine K1.y (fun _=> ?_) (fun _=> ?_)|fail)
   all_goals(conv=>whnf)
   exact aW.mk (aj.refl _)
 · have hn:=VW c r (by
    cases hq:zu c with
    |false=>exact .inl rfl
    | true=>
      rw[hq]at h
      simp only[true_and]at h
      omega)
   cases hq:zu c with
   | false=>
     rw[hq]at hm
     clear h hq
     obtain⟨cn,cw,cq,ch,cl,cp⟩:=c
     dsimp only[kZ.av,kZ.cs]at*
     refine K1.E 0x200400003f7 Tryz.func3 ?_
     repeat' ((conv=>whnf);first|refine K1.w ?_|refine K1.u ?_|refine K1.P1 (hsh) rfl ?_|refine K1.P1 (hm) rfl ?_|refine K1.P1 (hn) rfl ?_|refine aG.cO ?_|refine K1.z ?_|refine K1.y (fun _=> ?_) (fun _=> ?_)|fail)
     all_goals(conv=>whnf)
     exact aW.mk (aj.refl _)
   | true=>
     rw[hq]at hm h
     simp only[true_and]at h
     clear hq
     obtain⟨cn,cw,cq,ch,cl,cp⟩:=c
     dsimp only[kZ.av,kZ.cs]at*
     by_cases h0:0≤r
     · have h:cn≤r:=by omega
       refine K1.E 0x200400003f7 Tryz.func3 ?_
       repeat' ((conv=>whnf);first|refine K1.w ?_|refine K1.u ?_|refine K1.P1 (hsh) rfl ?_|refine K1.P1 (hm) rfl ?_|refine K1.P1 (hn) rfl ?_|refine aG.cO ?_|refine K1.z ?_|refine K1.y (fun _=> ?_) (fun _=> ?_)|fail)
       all_goals(conv=>whnf)
       all_goals exact aW.mk (aj.refl _)
     · clear h
       refine K1.E 0x200400003f7 Tryz.func3 ?_
       repeat' ((conv=>whnf);first|refine K1.w ?_|refine K1.u ?_|refine K1.P1 (hsh) rfl ?_|refine K1.P1 (hm) rfl ?_|refine K1.P1 (hn) rfl ?_|refine aG.cO ?_|refine K1.z ?_|refine K1.y (fun _=> ?_) (fun _=> ?_)|fail)
       all_goals(conv=>whnf)
       all_goals exact aW.mk (aj.refl _)
end
section
open Go.RowKit
def lW (r:Nat) (x:Int):aZ:=⟨if r=0 then x else 0,if r=1 then x else 0,if r=2 then x else 0,if r=3 then x else 0,if r=4 then x else 0⟩
def lu (r m:Nat) (e:Ed):Ev:=⟨r,(m:Int)+1,lW r m,(m:Int)+1,e.k,e.key,e.l,e.v⟩
structure Own (r:Nat) (L:List Ev):Prop where
 at_: ∀j,j<L.length→L.getD j default=lu r j (L.getD j default).ed
 ok: ∀e∈L,jE e.ed=0
theorem abj {C:Nat→Prop} {r:Nat} (hr:r<5) (h0:C 0) (h1:C 1) (h2:C 2) (h3:C 3) (h4:C 4):C r:=by
 rcases(show r=0∨r=1∨r=2∨r=3∨r=4 by omega)with rfl|rfl|rfl|rfl|rfl<;>assumption
theorem Py {r:Nat} (hr:r<5) (x:Int):(lW r x).get (r:Int)=x:=abj (C:=fun r=>(lW r x).get (r:Int)=x) hr rfl rfl rfl rfl rfl
theorem Ej {r:Nat} (hr:r<5) (x:Int):(lW r x).at r=x:=abj (C:=fun r=>(lW r x).at r=x) hr rfl rfl rfl rfl rfl
theorem Zv {r:Nat} (hr:r<5) (x:Int):(lW r x).inc r=lW r (x+1):=abj (C:=fun r=>(lW r x).inc r=lW r (x+1)) hr rfl rfl rfl rfl rfl
theorem ac8 {r:Nat} (hr:r<5):lW r 0=dX:=abj (C:=fun r=>lW r 0=dX) hr rfl rfl rfl rfl rfl
theorem Zw {r:Nat} {x:Int} (hx:0≤x) (q:Nat):0≤(lW r x).at q∧(lW r x).at q≤x:=by
 unfold lW
 match q with
 |0=>simp only[aZ.at];split<;>omega
 |1=>simp only[aZ.at];split<;>omega
 |2=>simp only[aZ.at];split<;>omega
 |3=>simp only[aZ.at];split<;>omega
 |_+4=>simp only[aZ.at];split<;>omega
theorem Uh {r:Nat} (hr:r<5) (m i:Nat):hasB (lW r m) r ((i:Int)+1)=decide (i<m):=by
 unfold hasB
 rw[Py hr]
 exact decide_eq_decide.2 ⟨fun h=>by omega,fun h=>by omega⟩
theorem qH {r:Nat} (hr:r<5) (m i:Nat) (x y:Ed):aN (lu r i x) (lu r m y)=decide (i<m):=Uh hr m i
theorem nJ {r:Nat} {L:List Ev} (h:Own r L) {e:Ev} (he:e∈L): ∃i,i<L.length∧e=lu r i e.ed∧L.getD i default=e:=by
 obtain⟨i,hi,rfl⟩:=List.getElem_of_mem he
 have hg:L.getD i default=L[i]:=by simp[List.getD,hi]
 exact⟨i,hi,by have:=h.at_ i hi;rwa [hg]at this,hg⟩
theorem Own.nil (r:Nat):Own r []:=⟨fun j hj=>absurd hj (Nat.not_lt_zero j),fun e he=>by cases he⟩
theorem Own.snoc {r:Nat} {L:List Ev} (h:Own r L) {e:Ed} (he:jE e=0):Own r (L++[lu r L.length e]):=by
 refine⟨fun j hj=> ?_,fun x hx=> ?_⟩
 · rw[List.length_append]at hj
   by_cases hl:j<L.length
   · rw[show(L++[lu r L.length e]).getD j default=L.getD j default by simp[List.getD,List.getElem?_append_left hl]]
     exact h.at_ j hl
   · obtain rfl:j=L.length:=by have:j<L.length+1:=hj;omega
     rw[show(L++[lu r L.length e]).getD L.length default=lu r L.length e by simp[List.getD]]
     rfl
 · rcases List.mem_append.1 hx with hx|hx
   · exact h.ok x hx
   · rw[List.mem_singleton.1 hx];exact he
theorem J6 {e:Ed} (h:jE e=0):1≤e.k∧e.k≤5:=by
 unfold jE at h
 split at h
 · omega
 · omega
theorem abk {r:Nat} (hr:r<5) {L:List Ev} (h:Own r L) {e:Ed} (he:jE e=0):Dp (lV (eqK (lu r L.length e).key) L) (lu r L.length e):=by
 have hs: ∀ {key:ByteArray} {x:Ev},x∈lV (eqK key) L→x∈L:=fun hx=>(List.mem_filter.1 hx).1
 refine⟨LY,fun x hx=> ?_, ?_,fun a ha b hb _ _=> ?_,J6 he,fun x hx=> ?_⟩
 · obtain⟨i,hi,hx,_⟩:=nJ h (hs hx)
   rw[hx,qH hr]
   exact decide_eq_false (by omega)
 · rw[qH hr]
   exact decide_eq_false (by omega)
 · obtain⟨i,hi,ha,_⟩:=nJ h (hs ha)
   rw[ha,qH hr]
   exact decide_eq_true hi
 · exact J6 (h.ok x (hs hx))
theorem abl {r:Nat} (hr:r<5) {L:List Ev} (h:Own r L) (key:ByteArray):JK (lV (eqK key) L) key:=by
 refine JK.mk' (fun a ha b hb hq=> ?_) (fun a ha b hb hq=> ?_) (fun a ha b hb c hc h1 h2=> ?_) key
 · obtain⟨i,hi,ea,ga⟩:=nJ h ha
   obtain⟨j,hj,eb,gb⟩:=nJ h hb
   rw[ea,eb]at hq
   have:(i:Int)+1=(j:Int)+1:=congrArg Prod.fst hq
   obtain rfl:i=j:=by omega
   rw[←ga,←gb]
 · obtain⟨i,hi,ea,ga⟩:=nJ h ha
   obtain⟨j,hj,eb,gb⟩:=nJ h hb
   rw[ea,eb,qH hr]at hq
   have:=of_decide_eq_true hq
   rw[ea,eb]
   show(i:Int)+1<(j:Int)+1
   omega
 · obtain⟨i,hi,ea,ga⟩:=nJ h ha
   obtain⟨j,hj,eb,gb⟩:=nJ h hb
   obtain⟨k,hk,ec,gc⟩:=nJ h hc
   rw[ea,eb,qH hr]at h1
   rw[eb,ec,qH hr]at h2
   have:=of_decide_eq_true h1
   have:=of_decide_eq_true h2
   rw[ea,ec,qH hr]
   exact decide_eq_true (by omega)
theorem Ui {r:Nat} (hr:r<5) {L:List Ev} (h:Own r L) (m:Nat): ∀j,j≤L.length→j≤m→FV (lW r m) (L.take j)=((j:Int),decide (0<j))
  |0,_,_=>by rw[List.take_zero];rfl
  | j+1,hj,hm=>by
    unfold FV
    rw[pV hj]
    rw[show(L.take j).foldl (oW (lW r m)) (0,false)=((j:Int),decide (0<j))from Ui hr h m j (by omega) (by omega)]
    rw[h.at_ j hj]
    unfold oW
    rw[show hasB (lW r m) (lu r j (L.getD j default).ed).r (lu r j (L.getD j default).ed).n=true from(Uh hr m j).trans (decide_eq_true (by omega))]
    rw[if_pos (by rw[Bool.true_and,Bool.or_eq_true];exact .inr (decide_eq_true (by show(j:Int)<(j:Int)+1;omega)))]
    rw[show decide (0<j+1)=true from decide_eq_true (by omega)]
    show(((j:Int)+1),true)=_
    rw[show(((j+1:Nat):Int))=(j:Int)+1 by omega]
theorem RG {r:Nat} (hr:r<5) {L:List Ev} (h:Own r L):hgt L (lW r L.length)=(L.length:Int)+1:=by
 unfold hgt
 have:=Ui hr h L.length L.length (Nat.le_refl _) (Nat.le_refl _)
 rw[List.take_length]at this
 rw[this]
theorem abm {r:Nat} {L:List Ev} (h:Own r L) {q:Int} (hq:(L.length:Int)<q) (e:Ed):LD q 0 L (lu r L.length e)=(L++[lu r L.length e],0):=by
 unfold LD x9
 rw[if_neg (by omega)]
 by_cases h0:L.length=0
 · rw[if_pos h0,if_pos (by show(L.length:Int)+1=0+1;omega)]
 · rw[if_neg h0,h.at_ (L.length-1) (by omega),if_pos (by show(L.length:Int)+1=((L.length-1:Nat):Int)+1+1;omega)]
theorem aZ.le_refl (c:aZ):c.le c=true:=decide_eq_true ⟨Int.le_refl _,Int.le_refl _,Int.le_refl _,Int.le_refl _,Int.le_refl _⟩
theorem V7 {r:Nat} (hr:r<5) (m:Nat) (e:Ed):wB (lW r m) [lu r m e]=([lu r m e],[],(lW r m).inc r):=
 J4 hr rfl (by rw[Ej hr];rfl) (aZ.le_refl _) (by rw[Ej hr];omega)
theorem Uj {r:Nat} (hr:r<5) {m:Nat} (hm:m≤1000000) {e:Ed} (he:jE e=0):eG (lu r m e)=0:=by
 have hk: ∀x:Int,0≤x→x≤1000001→oJ x=true:=fun x h1 h2=>by unfold oJ gG;rw[decide_eq_true h1,decide_eq_true (by omega)];rfl
 have h0: ∀b:Prop,∀ [Decidable b],oJ (if b then(m:Int)else 0)=true:=fun b _=>by split<;>exact hk _ (by omega) (by omega)
 unfold eG
 rw[if_neg,if_neg,if_neg]
 · exact he
 · show¬ ((lW r m).get (r:Int) !=((m:Int)+1)-1)=true
   rw[Py hr]
   simp
 · show¬ (!(oJ (if r=0 then(m:Int)else 0)&&oJ (if r=1 then(m:Int)else 0)&&oJ (if r=2 then(m:Int)else 0)&&oJ (if r=3 then(m:Int)else 0)&&oJ (if r=4 then(m:Int)else 0)))=true
   rw[h0,h0,h0,h0,h0]
   simp
 · show¬ (!(gG (r:Int) 0 4&&gG ((m:Int)+1) 1 1048576&&gG ((m:Int)+1) 1 16777216))=true
   unfold gG
   rw[decide_eq_true (show(0:Int)≤r by omega),decide_eq_true (show(r:Int)≤4 by omega),decide_eq_true (show(1:Int)≤(m:Int)+1 by omega),decide_eq_true (show(m:Int)+1≤1048576 by omega),decide_eq_true (show(m:Int)+1≤16777216 by omega)]
   simp
end
section
open Go.RowKit
def rcO (r:Nat) (v:Ev):Rc:=⟨1,r,0,dX,[v]⟩
def Pz (r:Nat) (L:List Ev):List UInt8:=L.flatMap fun v=>aS (rcO r v)
def yH (c:kZ) (r:Nat) (L:List Ev):Nd:=⟨c,r,true,⟨Pz r L,false,false,0⟩,L,0,lW r L.length,[],L⟩
theorem ad3 (c:kZ) {r:Nat} (hr:r<5):yH c r []=nd0 c r:=by
 unfold yH nd0
 rw[show lW r ((([]:List Ev).length:Nat):Int)=dX from ac8 hr]
 rfl
theorem Uk {r:Nat} (hr:r<5) {v:Ev} (hv:eG v=0):mX (rcO r v)=true:=by
 unfold mX rcO
 dsimp only
 rw[decide_eq_true (show(0:Int)≤r by omega),decide_eq_true (show(r:Int)<5 by omega)]
 simp only[List.all_cons,List.all_nil,hv,decide_true,List.length_singleton,Bool.and_true]
 first|rfl|decide+revert
theorem PD {r:Nat} (hr:r<5): ∀ {L:List Ev},(∀e∈L,eG e=0)→(Pz r L).length≤200100*L.length
  |[],_=>Nat.zero_le _
  | v::L,h=>by
    have h1:=qZ (rcO r v) (Uk hr (h v List.mem_cons_self))
    have h2:=PD hr (L:=L) fun e he=>h e (List.mem_cons_of_mem _ he)
    unfold Pz at*
    rw[List.flatMap_cons,List.length_append,List.length_cons]
    omega
theorem Zx {r:Nat} (hr:r<5) {L:List Ev} (h:Own r L) (hl:L.length≤1000000): ∀e∈L,eG e=0:=fun e he=>by
 obtain⟨i,hi,e1,_⟩:=nJ h he
 rw[e1]
 exact Uj hr (by omega) (h.ok e he)
theorem ad4 {c:kZ} {r:Nat} (hr:r<5) {L:List Ev} (h:Own r L) (hl:L.length≤30):NdB (yH c r L) where
 r:=hr
 ic q:=by have:=Zw (r:=r) (x:=L.length) (by omega) q;exact⟨this.1,by show(lW r L.length).at q≤1000000;omega⟩
 pst:=abl hr h
 len:=by show L.length≤_;omega
 hh e he:=by
  obtain⟨i,hi,e1,_⟩:=nJ h he
  rw[e1]
  show 0≤(i:Int)+1∧(i:Int)+1≤1000000
  omega
 cs:=Ug L (by omega)
 bs:=by
  have:=PD hr (Zx hr h (by omega))
  show(Pz r L).length≤100000000
  omega
 wl:=by show L.length≤_;omega
 sent:=⟨Int.le_refl _,(by decide:(0:Int)≤1000000)⟩
 wn j:=by
  show 0≤(L.getD j default).n∧(L.getD j default).n≤1000000
  by_cases hj:j<L.length
  · rw[h.at_ j hj]
    show 0≤(j:Int)+1∧(j:Int)+1≤1000000
    omega
  · rw[show L.getD j default=default by simp[List.getD,hj]]
    decide
def Bq (c:kZ) (r:Nat) (L:List Ev) (e:Ed):List Ev×Ev×Int:=
 if nT c.l c.p (oP L) e≠0 then(L,Zr,nT c.l c.p (oP L) e)else if(L.length:Int)<c.q then(L++[lu r L.length e],lu r L.length e,0)else(L,Zr,17)
theorem Zy {c:kZ} {r:Nat} (hr:r<5) {L:List Ev} (h:Own r L) (hl:L.length≤30) {e:Ed} (he:jE e=0) {L':List Ev} {v:Ev} {x:Int} (hs:Bq c r L e=(L',v,x)):
  aY Tryz.prog 22 [(0,.obs (oU (yH c r L)))] [.box 0 0,e.av] (.dM [v.av,.v (.int .i64 x)]) [(0,.obs (oU (yH c r L')))]:=by
 have hB:=ad4 (c:=c) hr h hl
 unfold Bq at hs
 by_cases hc:nT c.l c.p (oP L) e=0
 · rw [if_neg (by simp[hc])]at hs
   by_cases hq:(L.length:Int)<c.q
   · rw[if_pos hq]at hs
     cases hs
     have hH:hgt (yH c r L).log (yH c r L).ic=(L.length:Int)+1:=RG hr h
     have hv:jf (yH c r L) e=lu r L.length e:=by
      unfold jf
      rw[hH]
      unfold lu yH
      dsimp only
      rw[Ej hr]
     have hm:=Uj hr (m:=L.length) (by omega) he
     have hw:rY (yH c r L).d (aS (rcO r (lu r L.length e)))=(⟨Pz r (L++[lu r L.length e]),false,false,0⟩,0):=by
      unfold rY yH Pz
      rw[if_neg (by simp),if_neg (by simp),List.flatMap_append]
      simp
     have:=Hg (yH c r L) e ⟨Pz r (L++[lu r L.length e]),false,false,0⟩ hB rfl hc hq (by rw[hH];omega) (by rw[hv];exact Uk hr hm) (by rw[hv];exact hw) (by rw[hv];exact V7 hr L.length e) (by rw[hv];exact abm h hq e)
      (by rw[hv];exact abk hr h he) (by rw[hv];exact hm)
     rw[hv]at this
     have e1:(⟨(yH c r L).c,(yH c r L).r,true,⟨Pz r (L++[lu r L.length e]),false,false,0⟩,(yH c r L).log++[lu r L.length e],(yH c r L).sent,(yH c r L).ic.inc (yH c r L).r,(yH c r L).held,(yH c r L).wait++[lu r L.length e]⟩:Nd)=yH c r (L++[lu r L.length e]):=by
      unfold yH
      dsimp only
      rw[Zv hr,List.length_append,show((L.length+[lu r L.length e].length:Nat):Int)=(L.length:Int)+1 by simp]
     rw[e1]at this
     exact this
   · rw[if_neg hq]at hs
     cases hs
     exact MF (yH c r L) e hB rfl hc hq
 · rw[if_pos hc]at hs
   cases hs
   exact RD (yH c r L) e hB rfl _ rfl hc
end
section
open Go.RowKit
instance:Inhabited Ed:=⟨⟨0,⟨#[]⟩,0,⟨#[]⟩⟩⟩
abbrev edF (l:List Ed):Nat→List AV:=qK Ed.cs l
def Ed.rng (e:Ed):Prop:=e.key.size≤140737488355328∧e.v.size≤140737488355328
def xq (c:kZ) (r:Nat) (l:List Ed):List Ev:=l.foldl (fun L e=>(Bq c r L (kC e)).1) []
theorem J7 (c:kZ) (r:Nat) {l:List Ed} {i:Nat} (h:i<l.length):xq c r (l.take (i+1))=(Bq c r (xq c r (l.take i)) (kC (l.getD i default))).1:=by
 unfold xq
 rw[pV h]
theorem Dy (c:kZ) (r:Nat) (L:List Ev) (e:Ed):(Bq c r L e=(L++[lu r L.length e],lu r L.length e,0)∧(L.length:Int)<c.q)∨ ∃x,x≠0∧Bq c r L e=(L,Zr,x):=by
 unfold Bq
 by_cases h:nT c.l c.p (oP L) e≠0
 · rw[if_pos h];exact .inr ⟨_,h,rfl⟩
 · rw[if_neg h]
   by_cases h':(L.length:Int)<c.q
   · rw[if_pos h'];exact .inl ⟨rfl,h'⟩
   · rw[if_neg h'];exact .inr ⟨17,by decide,rfl⟩
theorem Hl {c:kZ} {r:Nat} (hq:0≤c.q) (l:List Ed): ∀i,i≤l.length→Own r (xq c r (l.take i))∧(xq c r (l.take i)).length≤i∧((xq c r (l.take i)).length:Int)≤c.q
  |0,_=>⟨Own.nil r,Nat.le_refl _,hq⟩
  | i +1,h=>by
    obtain⟨h1,h2,h3⟩:=Hl (r:=r) hq l i (by omega)
    rw[J7 c r h]
    rcases Dy c r (xq c r (l.take i)) (kC (l.getD i default))with⟨e,hlt⟩|⟨x,hx,e⟩
    · rw[e]
      refine⟨h1.snoc (Gl _), ?_, ?_⟩<;>(simp only[List.length_append,List.length_singleton];omega)
    · rw[e]
      exact⟨h1,by dsimp only;omega,h3⟩
end
end Go.Proofs.YtimhagicagdkfaaGreat
