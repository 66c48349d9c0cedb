/-
  Contracts of the walk:FrT,FrU,FrLaw,FrN,RcLaw,RcV.
-/
import Derived.Test.YtimhagicagdkfaaGreatNh13
import Derived.Test.YtimhagicagdkfaaGreatNh14
set_option maxHeartbeats 16000000
set_option maxRecDepth 100000
set_option linter.unusedVariables false
set_option linter.unusedSimpArgs false
namespace Go.Proofs.YtimhagicagdkfaaGreat
section
open Go.RowKit
def kX (b:List UInt8):Option (Nat×Nat):=if(dG b).2.2=0∧(dG b).1≤1048576 then some ((dG b).1,(dG b).2.1)else none
theorem qp {n:Nat} {F:Nat→List AV} (l:List UInt8) {m k:Nat} (h:kX l=some (m,k)) (hF:bg F l) (hn:n=l.length):aH Tryz.prog 82 [.sl 1 n true F] (.dF [.v (.int .i64 (m:Int)),.v (.int .i64 (k:Int)),.v (.bool true)]) []:=by
 obtain⟨⟨a,c,e⟩,hv⟩: ∃p,dG l=p:=⟨_,rfl⟩
 have hs:=jd l hF hn
 unfold kX at h
 rw[hv]at hs h
 dsimp only at hs h
 split at h
 · rename_i h0
   obtain⟨h0,h1⟩:=h0
   simp only[Option.some.injEq,Prod.mk.injEq]at h
   obtain⟨rfl,rfl⟩:=h
   subst h0
   refine K1.E 0x800fd Tryz.func82 ?_
   repeat' ((conv=>whnf);first|refine K1.w ?_|refine K1.u ?_|refine K1.P1 hs rfl ?_|refine aJ.dO ?_|refine K1.z ?_|refine K1.y (fun _=>?_) (fun _=>?_)|fail)
   conv=>whnf
   exact bF.mk (aj)
 · cases h
theorem qw {n:Nat} {F:Nat→List AV} (l:List UInt8) (h:kX l=none) (hF:bg F l) (hn:n=l.length):aH Tryz.prog 82 [.sl 1 n true F] (.dF [.v (.int .i64 0),.v (.int .i64 0),.v (.bool false)]) []:=by
 obtain⟨⟨a,c,e⟩,hv⟩: ∃p,dG l=p:=⟨_,rfl⟩
 have hs:=jd l hF hn
 unfold kX at h
 rw[hv]at hs h
 dsimp only at hs h
 split at h
 · cases h
 · rename_i h0
   refine K1.E 0x800fd Tryz.func82 ?_
   repeat' ((conv=>whnf);first|refine K1.w ?_|refine K1.u ?_|refine K1.P1 hs rfl ?_|refine aJ.dO ?_|refine K1.z ?_|refine K1.y (fun _=>?_) (fun _=>?_)|fail)
   all_goals(conv=>whnf)
   all_goals first
     |exact bF.mk (aj)
     |(exfalso;apply h0;constructor<;>omega)
def jl (b:List UInt8):Nat→Option (List Ev×List UInt8)
  |0=>some ([],b)
  | j+1=>match jl b j with
    |none=>none
    |some (l,r)=>if(nK r).2.2=0 then some (l++[(nK r).1],r.drop (nK r).2.1)else none
def Jc:List UInt8→Option (List Ev)
  |[]=>none
  |c::r=>(jl r c.toNat).map (·.1)
theorem oD {b:List UInt8}: ∀ {j:Nat} {l:List Ev} {r:List UInt8},jl b j=some (l,r)→l.length=j∧r.length≤b.length
  | 0,l,r,h=>by
    simp only[jl,Option.some.injEq,Prod.mk.injEq]at h
    obtain⟨rfl,rfl⟩:=h
    exact⟨rfl,Nat.le_refl _⟩
  | j + 1,l,r,h=>by
    unfold jl at h
    cases h0:jl b j with
    |none=>rw[h0]at h;cases h
    | some p=>
      obtain⟨l0,r0⟩:=p
      rw[h0]at h
      dsimp only at h
      have ih:=oD h0
      split at h
      · simp only[Option.some.injEq,Prod.mk.injEq]at h
        obtain⟨rfl,rfl⟩:=h
        refine⟨by simp[ih.1], ?_⟩
        rw[List.length_drop]
        omega
      · cases h
theorem qO {b:List UInt8} {j:Nat} {l:List Ev} {r:List UInt8} {e:Ev} {m:Nat} (h:jl b j=some (l,r)) (ht:nK r=(e,m,0)):jl b (j+1)=some (l++[e],r.drop m):=by
 unfold jl
 rw[h]
 dsimp only
 rw[ht]
 rfl
theorem uT {b:List UInt8} {j:Nat} {l:List Ev} {r:List UInt8} (h:jl b j=some (l,r)) (ht:(nK r).2.2≠0):jl b (j+1)=none:=by
 unfold jl
 rw[h]
 dsimp only
 rw[if_neg ht]
theorem uU {b:List UInt8} {j:Nat} (h:jl b j=none): ∀n,j≤n→jl b n=none:=by
 intro n hn
 obtain⟨d,rfl⟩:=Nat.le.dest hn
 clear hn
 induction d with
 |zero=>exact h
 | succ d ih=>
   show jl b (j+d+1)=none
   unfold jl
   rw[ih]
theorem C1.aeb {X:CX} {f:Nat→List AV} {u:Value} (h:C1 X (.v (.slice none 0 0)) u):C1 X (.sl 12 0 true f) u:=by
 have h:u= .slice none 0 0:=h
 subst h
 exact(show C0 X (.sl 12 0 true f) (.slice none 0 0)from .sl 12 0 true f none 0 [] (by omega) (Nat.le_refl _) (by simp[maxLen]) (by simp) (fun i hi=>absurd hi (Nat.not_lt_zero i)) (fun _ x hx=>by simp[flat]at hx) (fun i x u hx=>by simp[flat]at hx) (.inl rfl))
theorem aI.hd {R:AV→Value→Prop} {x y:AV} {xs:List AV} {us:List Value} (h:aI R (x::xs) us) (hi: ∀u,R x u→R y u):aI R (y::xs) us:=by
 rcases us with _|⟨u,us⟩
 · have:=h.1;simp at this
 · exact aI.cons (hi u (h.2 0 _ _ rfl rfl)) ⟨by have:=h.1;simpa using this,fun i a b ha hb=>h.2 (i+1) a b (by simpa using ha) (by simpa using hb)⟩
theorem aS.abf {b:AV} (f:Nat→List AV):aS (.dF [.v (.slice none 0 0),b]) (.dF [.sl 12 0 true f,b]):=by
 rintro X u ⟨us,e,ha⟩
 exact⟨us,e,ha.hd fun u hu=>C1.aeb hu⟩
def Jd:Option (List Ev)→AV
  |none=> .dF [.v (.slice none 0 0),.v (.bool false)]
  |some l=> .dF [.sl 12 l.length true (dX l),.v (.bool true)]
theorem Hq {n m:Nat} {F G:Nat→List AV} (a b:List UInt8) (hF:bg F a) (hn:n=a.length) (hG:bg G b) (hm:m=b.length):aH Tryz.prog 46 [.sl 1 n true F,.sl 1 m true G] (.v (.bool (decide (a=b)))) []:=by
 refine K1.E 0x13 Tryz.func46 ?_
 repeat' ((conv=>whnf);first|refine K1.w ?_|refine K1.u ?_|refine Bs.of a hF hn ?_|refine Bs.of b hG hm ?_|refine aJ.dO ?_|refine K1.z ?_|refine K1.y (fun _=>?_) (fun _=>?_)|fail)
 all_goals(conv=>whnf)
 all_goals(refine bF.mk (aS.of ?_))
 · have h:(⟨a.toArray⟩:ByteArray)=⟨b.toArray⟩:=by assumption
   have:a=b:=by simpa using h
   simp[this]
 · have h: ¬ (⟨a.toArray⟩:ByteArray)=⟨b.toArray⟩:=by assumption
   have: ¬a=b:=by simpa using h
   simp[this]
theorem Zd (b:List UInt8) (hl:b.length≤1000000000):aH Tryz.prog 81 [.sl 1 b.length true (aU b)] (Jd (Jc b)) []:=by
 rcases b with _|⟨c,t⟩
 · show aH Tryz.prog 81 [.sl 1 0 true (aU [])] _ []
   refine K1.E 0x101c09fd Tryz.func81 ?_
   repeat' ((conv=>whnf);first|refine K1.w ?_|refine K1.u ?_|refine aJ.dO ?_|refine K1.z ?_|refine K1.y (fun _=>?_) (fun _=>?_)|fail)
   all_goals(conv=>whnf)
   all_goals exact bF.mk (aj)
 · have hc:=UInt8.toNat_lt c
   rw[List.length_cons]at hl⊢
   refine K1.E 0x101c09fd Tryz.func81 ?_
   repeat' ((conv=>whnf);first|refine K1.w ?_|refine K1.u ?_|refine aJ.dO ?_|refine K1.z ?_|refine K1.y (fun _=>?_) (fun _=>?_)|fail)
   conv=>whnf
   refine aN.mk {p:Nat×List Ev×List UInt8//jl t p.1=some p.2∧p.1≤c.toNat} (fun p=>match p with
     |⟨(0,_,r),_⟩=>⟨[(0,.sl 1 r.length true (aU r)),(4,.v (.slice none 0 0)),(18,.v (.int .i64 (c.toNat:Int))),(19,.v (.int .i64 0))],[],[],0⟩
     |⟨(i+1,l,r),_⟩=>⟨[(0,.sl 1 r.length true (aU r)),(4,.own 90),(18,.v (.int .i64 (c.toNat:Int))),(19,.v (.int .i64 ((i:Int)+1)))],[(90,.row 42 12 l.length true (dX l))],[],91⟩)
     (fun p=>c.toNat-p.1.1) ⟨(0,[],t),rfl,Nat.zero_le _⟩ _
     (dL.mk' [] _ _ _ rfl ⟨aS.nT (bg.drop (bg.bytes (c::t)) 1) (by simp),aj,aj,aS.int rfl,trivial⟩ trivial rfl) ?_
   rintro⟨⟨_|i,l,r⟩,hp,hj⟩
   · dsimp only at hp hj
     obtain⟨hl0,hr0⟩:=oD hp
     obtain rfl:l=[]:=List.eq_nil_of_length_eq_zero hl0
     have hz:c.toNat=0→Jc (c::t)=some []:=fun h=>by show(jl t c.toNat).map (·.1)=_;rw[h,hp];rfl
     rcases uS r with⟨e,m,ht,-,hm,-⟩|ht|ht
     · dsimp only
       repeat' ((conv=>whnf);first|refine K1.w ?_|refine K1.u ?_|refine K1.P1 (take_any r ht (bg.bytes r) rfl (by omega)) rfl ?_|refine aJ.dO ?_|refine K1.z ?_|refine K1.y (fun _=>?_) (fun _=>?_)|fail)
       all_goals(conv=>whnf)
       · refine⟨⟨(0+1,[]++[e],r.drop m),qO hp ht,by omega⟩,_,dL.mk' [(2,90)] _ _ _ rfl ⟨aS.nT (bg.drop (bg.bytes r) m) (by simp),aj,aj,aS.int rfl,trivial⟩ ⟨⟨_,rfl,bW.row rfl (fun i hi=>?_)⟩,trivial⟩ rfl,by show c.toNat-(0+1)<c.toNat-0;omega⟩
         have hi:i<1:=hi
         obtain rfl:i=0:=by omega
         rfl
       · rw[hz (by omega)]
         exact bF.mk (aS.abf _)
     all_goals
      have hno:0<c.toNat→Jc (c::t)=none:=fun h=>by show(jl t c.toNat).map (·.1)=_;rw[uU (uT hp (by rw[ht];decide)) c.toNat (by omega)];rfl
      dsimp only
      repeat' ((conv=>whnf);first|refine K1.w ?_|refine K1.u ?_|refine K1.P1 (take_any r ht (bg.bytes r) rfl (by omega)) rfl ?_|refine aJ.dO ?_|refine K1.z ?_|refine K1.y (fun _=>?_) (fun _=>?_)|fail)
      all_goals(conv=>whnf)
      · rw[hno (by omega)]
        exact bF.mk (aj)
      · rw[hz (by omega)]
        exact bF.mk (aS.abf _)
   · dsimp only at hp hj
     obtain⟨hl0,hr0⟩:=oD hp
     have hz:c.toNat=i+1→Jc (c::t)=some l:=fun h=>by show(jl t c.toNat).map (·.1)=_;rw[h,hp];rfl
     rcases uS r with⟨e,m,ht,-,hm,-⟩|ht|ht
     · dsimp only
       repeat' ((conv=>whnf);first|refine K1.w ?_|refine K1.u ?_|refine K1.P1 (take_any r ht (bg.bytes r) rfl (by omega)) rfl ?_|refine aJ.dO ?_|refine K1.z ?_|refine K1.y (fun _=>?_) (fun _=>?_)|fail)
       all_goals(conv=>whnf)
       · refine⟨⟨(i+1+1,l++[e],r.drop m),qO hp ht,by omega⟩,_,dL.mk' [(93,90)] _ _ _ rfl ⟨aS.nT (bg.drop (bg.bytes r) m) (by simp),aj,aj,aS.int rfl,trivial⟩ ⟨⟨_,rfl,bW.row (by simp) (fun m hm=>bJ (c:=Ev.cs) rfl rfl m hm)⟩,trivial⟩ rfl,by show c.toNat-(i+1+1)<c.toNat-(i+1);omega⟩
       · rw[hz (by omega)]
         exact bF.mk (aj)
     all_goals
      have hno:i+1<c.toNat→Jc (c::t)=none:=fun h=>by show(jl t c.toNat).map (·.1)=_;rw[uU (uT hp (by rw[ht];decide)) c.toNat (by omega)];rfl
      dsimp only
      repeat' ((conv=>whnf);first|refine K1.w ?_|refine K1.u ?_|refine K1.P1 (take_any r ht (bg.bytes r) rfl (by omega)) rfl ?_|refine aJ.dO ?_|refine K1.z ?_|refine K1.y (fun _=>?_) (fun _=>?_)|fail)
      all_goals(conv=>whnf)
      · rw[hno (by omega)]
        exact bF.mk (aj)
      · rw[hz (by omega)]
        exact bF.mk (aj)
theorem Ph {n:Nat} {F:Nat→List AV} (b:List UInt8) (hF:bg F b) (hn:n=b.length) (hl:b.length≤1000000000):aH Tryz.prog 81 [.sl 1 n true F] (Jd (Jc b)) []:=
 (Zd b hl).args (Ch.nT hF hn .nil)
end
section
open Go.RowKit
end
def zZ (b:List UInt8):aW×Bool:=
 match kX b with
 |none=>(⟨0,0,0,0,0⟩,false)
 | some (n0,k0)=>match kX (b.drop k0)with
   |none=>(⟨n0,0,0,0,0⟩,false)
   | some (n1,k1)=>match kX ((b.drop k0).drop k1)with
     |none=>(⟨n0,n1,0,0,0⟩,false)
     | some (n2,k2)=>match kX (((b.drop k0).drop k1).drop k2)with
       |none=>(⟨n0,n1,n2,0,0⟩,false)
       | some (n3,k3)=>match kX ((((b.drop k0).drop k1).drop k2).drop k3)with
         |none=>(⟨n0,n1,n2,n3,0⟩,false)
         |some (n4,_)=>(⟨n0,n1,n2,n3,n4⟩,true)
def Ze:Rc:=⟨0,0,0,bY,[]⟩
def rdB (k r:Int) (t:List UInt8):Rc×Bool:=
 if k=1∨k=4 then(match Jc t with|none=>(⟨k,r,0,bY,[]⟩,false)|some l=>(⟨k,r,0,bY,l⟩,true))
 else if k=2 then(match kX t with|none=>(⟨k,r,0,bY,[]⟩,false)|some (n,_)=>(⟨k,r,n,bY,[]⟩,true))
 else if k=3∨k=5 then(⟨k,r,0,(zZ t).1,[]⟩,(zZ t).2)
 else(⟨k,r,0,bY,[]⟩,false)
def jB (b:List UInt8):Rc×Bool:=
 if(dG b).2.2≠0∨b.length<(dG b).2.1+2 then(Ze,false)
 else rdB ((b.getD (dG b).2.1 default).toNat:Int) ((b.getD ((dG b).2.1+1) default).toNat:Int) (b.drop ((dG b).2.1+2))
theorem nM {n:Nat} (h:n≤1048576) (t:List UInt8):kX (ak n++t)=some (n,(ak n).length):=by
 unfold kX
 rw[uf n t (by omega),if_pos ⟨rfl,h⟩]
theorem Dp (l:List Ev) (h: ∀e∈l,eG e=0) (t:List UInt8): ∀j,j≤l.length→jl (dY l++t) j=some (l.take j,dY (l.drop j)++t)
  |0,_=>by simp[jl]
  | j+1,hj=>by
    have ih:=Dp l h t j (by omega)
    have e0:l.drop j=l[j]::l.drop (j+1):=List.drop_eq_getElem_cons (by omega)
    have e1:dY (l.drop j)++t=aT l[j]++(dY (l.drop (j+1))++t):=by
     rw[e0]
     show aT l[j]++dY (l.drop (j+1))++t=_
     rw[List.append_assoc]
    have ht:=VQ l[j] (h _ (List.getElem_mem _)) (dY (l.drop (j+1))++t)
    rw[←e1]at ht
    rw[qO ih ht,e1,List.drop_left]
    congr 2
    exact List.take_append_getElem (by omega)
theorem Zf (l:List Ev) (h: ∀e∈l,eG e=0) (hl:l.length≤255) (t:List UInt8):Jc (UInt8.ofNat l.length::(dY l++t))=some l:=by
 show(jl (dY l++t) (UInt8.ofNat l.length).toNat).map (·.1)=_
 rw[O8 (by omega),Dp l h t _ (Nat.le_refl _),List.take_length]
 rfl
theorem Ut {c0 c1 c2 c3 c4:Nat} (h0:c0≤1048576) (h1:c1≤1048576) (h2:c2≤1048576) (h3:c3≤1048576) (h4:c4≤1048576) (t:List UInt8):
  zZ (ak c0++(ak c1++(ak c2++(ak c3++(ak c4++t)))))=(⟨c0,c1,c2,c3,c4⟩,true):=by
 unfold zZ
 rw[nM h0]
 dsimp only
 rw[List.drop_left,nM h1]
 dsimp only
 rw[List.drop_left,nM h2]
 dsimp only
 rw[List.drop_left,nM h3]
 dsimp only
 rw[List.drop_left,nM h4]
theorem VR (x:Rc) (h:jY x=true) (n:Nat) (hn:n≤4294967296) (t:List UInt8):jB (ak n++(jZ x++t))=(x,true):=by
 have m:=oN h
 obtain⟨k,r,u,⟨c0,c1,c2,c3,c4⟩,ev⟩:=x
 obtain⟨mk,mr,mu,sU,qV,me0,⟨m0,m1,m2,m3,m4⟩,ml,G7,yN⟩:=m
 dsimp only at mk mr mu ml m0 m1 m2 m3 m4 sU qV me0 yN G7
 have wP:=BF yN
 obtain⟨rest,hrest⟩: ∃rest,rest=(if zJ k then UInt8.ofNat ev.length::dY ev else [])++(if zK k then iF u else [])++(if zL k then yM ⟨c0,c1,c2,c3,c4⟩else [])++t:=⟨_,rfl⟩
 have hb:ak n++(jZ ⟨k,r,u,⟨c0,c1,c2,c3,c4⟩,ev⟩++t)=ak n++([byteOf k,byteOf r]++rest):=by
  rw[hrest];simp[jZ]
 have g0:((ak n++([byteOf k,byteOf r]++rest)).getD (ak n).length default)=byteOf k:=by
  rw[List.getD,List.getElem?_append_right (Nat.le_refl _),Nat.sub_self];rfl
 have g1:((ak n++([byteOf k,byteOf r]++rest)).getD ((ak n).length+1) default)=byteOf r:=by
  rw[List.getD,List.getElem?_append_right (by omega),Nat.add_sub_cancel_left];rfl
 have g2:(ak n++([byteOf k,byteOf r]++rest)).drop ((ak n).length+2)=rest:=by
  rw[←List.drop_drop,List.drop_left];rfl
 rw[hb]
 unfold jB
 rw[uf n _ hn]
 rw[if_neg (by simp)]
 dsimp only
 rw[g0,g1,g2,fP (by omega) (by omega),fP (by omega) (by omega)]
 clear g0 g1 g2 hb
 unfold rdB
 rcases(show(k=1∨k=4)∨k=2∨(k=3∨k=5) by omega)with hk|hk|hk
 · have hU:zK k=false:=by simp[zK];omega
   have hC:zL k=false:=by simp[zL];omega
   have hE:zJ k=true:=by simp[zJ];omega
   rw[hU]at sU hrest;rw[hC]at qV hrest;rw[hE]at hrest
   simp only[Bool.false_eq_true,false_or]at sU qV
   rw[if_pos hk,hrest]
   simp only[if_true,Bool.false_eq_true,if_false,List.append_nil,List.cons_append]
   rw[Zf ev (nJ wP) (by omega)]
   rw[sU,qV]
 · have hU:zK k=true:=by simp[zK];omega
   have hC:zL k=false:=by simp[zL];omega
   have hE:zJ k=false:=by simp[zJ];omega
   rw[hU]at hrest;rw[hC]at qV hrest;rw[hE]at me0 hrest
   simp only[Bool.false_eq_true,false_or]at me0 qV
   obtain⟨un,rfl,hun⟩:=eU mu
   rw[if_neg (by omega),if_pos hk,hrest]
   simp only[if_true,Bool.false_eq_true,if_false,List.append_nil,List.nil_append]
   rw[dS,nM hun]
   dsimp only
   rw[List.eq_nil_of_length_eq_zero me0,qV]
 · have hU:zK k=false:=by simp[zK];omega
   have hC:zL k=true:=by simp[zL];omega
   have hE:zJ k=false:=by simp[zJ];omega
   rw[hU]at sU hrest;rw[hC]at hrest;rw[hE]at me0 hrest
   simp only[Bool.false_eq_true,false_or]at sU me0
   obtain⟨c0,rfl,hc0⟩:=eU m0
   obtain⟨c1,rfl,hc1⟩:=eU m1
   obtain⟨c2,rfl,hc2⟩:=eU m2
   obtain⟨c3,rfl,hc3⟩:=eU m3
   obtain⟨c4,rfl,hc4⟩:=eU m4
   rw[if_neg (by omega),if_neg (by omega),if_pos hk,hrest]
   simp only[if_true,Bool.false_eq_true,if_false,List.append_nil,List.nil_append,yM,dS,List.append_assoc]
   rw[Ut hc0 hc1 hc2 hc3 hc4]
   dsimp only
   rw[List.eq_nil_of_length_eq_zero me0,sU]
instance (l:List UInt8):Decidable (sS l):=inferInstanceAs (Decidable (_∧_))
def inner (l:List UInt8):List UInt8:=l.take (l.length-4)
theorem zM (m:List UInt8):inner (dW m)=m:=by
 unfold inner
 rw[dB,Nat.add_sub_cancel]
 simp[dW]
theorem Uu (m:List UInt8):sS (dW m):=by
 refine⟨by rw[dB];omega, ?_⟩
 have:=zM m
 unfold inner at this
 rw[this]
theorem BG {l:List UInt8} (h:sS l):l=dW (inner l):=h.2
def yY (l:List UInt8):Rc×Int:=
 if 2048<l.length then(Ze,5)else if sS l then
  if(jB (inner l)).2=true∧jY (jB (inner l)).1=true∧cO (jB (inner l)).1=l then((jB (inner l)).1,0)else(Ze,3)
 else(Ze,4)
theorem Hr (x:Rc) (h:jY x=true):2≤(jZ x).length∧(jZ x).length≤1000:=by
 have m:=oN h
 have hv (n:Nat):(ak n).length≤10:=bD 9 _
 have VT (n:Int):(iF n).length≤10:=hv _
 have he:=pq (nJ (BF m.ev))
 have hl:=m.l
 have e1:(jZ x).length=2+(if zJ x.k then 1+(dY x.ev).length else 0)+(if zK x.k then(iF x.u).length else 0)+(if zL x.k then(yM x.c).length else 0):=by
  unfold jZ
  simp only[List.length_append]
  congr 1
  · congr 1
    · congr 1
      split<;>simp
      omega
    · split<;>rfl
  · split<;>rfl
 have hc:(yM x.c).length≤50:=by
  have:=VT x.c.c0;have:=VT x.c.c1;have:=VT x.c.c2;have:=VT x.c.c3;have:=VT x.c.c4
  unfold yM
  simp only[List.length_append]
  omega
 have:=VT x.u
 rw[e1]
 refine⟨by omega, ?_⟩
 split<;>split<;>split<;>omega
theorem Pj (x:Rc) (h:jY x=true):(cO x).length≤2048:=by
 have:=Hr x h
 have hv:(ak (jZ x).length).length≤10:=bD 9 _
 unfold cO
 rw[dB,List.length_append]
 omega
theorem Dq (x:Rc) (h:jY x=true):yY (cO x)=(x,0):=by
 have hb:=Hr x h
 have hr:=VR x h (jZ x).length (by omega) []
 rw[List.append_nil]at hr
 have hi:inner (cO x)=ak (jZ x).length++jZ x:=zM _
 have ho:sS (cO x):=Uu _
 unfold yY
 rw[if_neg (by have:=Pj x h;omega),if_pos ho,hi,hr,if_pos ⟨rfl,h,rfl⟩]
section
open Go.RowKit
theorem aS.iq {a1 a2 a3 a4 a5 a6 a7 a8 b:AV} (f:Nat→List AV):aS (.dF [.agg [a1,a2,a3,a4,a5,a6,a7,a8,.v (.slice none 0 0)],b]) (.dF [.agg [a1,a2,a3,a4,a5,a6,a7,a8,.sl 12 0 true f],b]):=by
 rintro X u ⟨us,e,ha⟩
 exact⟨us,e,ha.hd fun u hu=>C1.Un hu⟩
theorem uV {b:List UInt8} {m k:Nat} (h:kX b=some (m,k)):k≤b.length∧m≤1048576:=by
 have hle:=wL b
 unfold kX at h
 split at h
 · rename_i h0
   simp only[Option.some.injEq,Prod.mk.injEq]at h
   omega
 · cases h
theorem aH.res {P:Program} {f:FuncId} {dn:List AV} {r r':AV} {h:List (Nat×AO)} (hs:aH P f dn r h) (hr:aS r r'):aH P f dn r' h:=
 ⟨hs.1,fun w keep args hk ha=>(hs.2 w keep args hk ha).mono fun _ _ ⟨u,ρ,h1,h2,h3,h4⟩=>⟨u,ρ,h1,h2,hr _ _ h3,h4⟩⟩
end
instance:Inhabited Rc:=⟨Ze⟩
def nN (b:List UInt8):Option (List Ev):=match kX b with
  |none=>none
  |some (m,k)=>if 4096<m then none else(jl (b.drop k) m).map (·.1)
def abg (k r:Int) (t:List UInt8):Rc×Bool:=match kX t with
  |none=>(⟨k,r,0,bY,[]⟩,false)
  |some (n,_)=>(⟨k,r,n,bY,[]⟩,true)
def Pm (k r u:Int) (t:List UInt8):Rc×Bool:=match nN t with
  |none=>(⟨k,r,u,bY,[]⟩,false)
  |some l=>(⟨k,r,u,bY,l⟩,true)
def rdR (k r:Int) (t:List UInt8):Rc×Bool:=
 if k=1∨k=2∨k=5 then Pm k r 0 t
 else if k=3 then abg k r t
 else if k=4 then(match kX t with|none=>(⟨k,r,0,bY,[]⟩,false)|some (n,j)=>Pm k r n (t.drop j))
 else if k=6 then(⟨k,r,0,(zZ t).1,[]⟩,(zZ t).2)
 else(⟨k,r,0,bY,[]⟩,false)
def jL (b:List UInt8):Rc×Bool:=
 if b.length<2 then(Ze,false)else rdR ((b.getD 0 default).toNat:Int) ((b.getD 1 default).toNat:Int) (b.drop 2)
theorem J5 (l:List Ev) (h: ∀e∈l,eG e=0) (hl:l.length≤4096) (t:List UInt8):nN (ak l.length++(dY l++t))=some l:=by
 unfold nN
 rw[nM (by omega)]
 dsimp only
 rw[if_neg (by omega),List.drop_left,Dp l h t _ (Nat.le_refl _),List.take_length]
 rfl
theorem VU (x:Rc) (h:iI x=true) (t:List UInt8):jL (fD x++t)=(x,true):=by
 have m:=lY h
 obtain⟨k,r,u,⟨c0,c1,c2,c3,c4⟩,ev⟩:=x
 obtain⟨mk,mr,mu,ml,⟨m0,m1,m2,m3,m4⟩,sU,qV,me0,wP,G7⟩:=m
 dsimp only at mk mr mu ml m0 m1 m2 m3 m4 sU qV me0 wP G7
 obtain⟨rest,hrest⟩: ∃rest,rest=(if Bl k then iF u else [])++(if Bq k then yM ⟨c0,c1,c2,c3,c4⟩else [])++(if Bo k then ak ev.length++dY ev else [])++t:=⟨_,rfl⟩
 have hb:fD ⟨k,r,u,⟨c0,c1,c2,c3,c4⟩,ev⟩++t=byteOf k::byteOf r::rest:=by
  rw[hrest];simp[fD]
 rw[hb]
 unfold jL
 rw[if_neg (by simp)]
 rw[show(byteOf k::byteOf r::rest).getD 0 default=byteOf k from rfl,show(byteOf k::byteOf r::rest).getD 1 default=byteOf r from rfl,show(byteOf k::byteOf r::rest).drop 2=rest from rfl,fP (by omega) (by omega),fP (by omega) (by omega)]
 clear hb
 unfold rdR
 rcases(show(k=1∨k=2∨k=5)∨k=3∨k=4∨k=6 by omega)with hk|hk|hk|hk
 · have hU:Bl k=false:=by simp[Bl];omega
   have hC:Bq k=false:=by simp[Bq];omega
   have hE:Bo k=true:=by simp[Bo];omega
   rw[hU]at sU hrest;rw[hC]at qV hrest;rw[hE]at hrest
   simp only[Bool.false_eq_true,false_or]at sU qV
   rw[if_pos hk,hrest]
   simp only[if_true,Bool.false_eq_true,if_false,List.nil_append,List.append_assoc]
   unfold Pm
   rw[J5 ev (nJ wP) ml t]
   dsimp only
   rw[sU,qV]
 · have hU:Bl k=true:=by simp[Bl];omega
   have hC:Bq k=false:=by simp[Bq];omega
   have hE:Bo k=false:=by simp[Bo];omega
   rw[hU]at hrest;rw[hC]at qV hrest;rw[hE]at me0 hrest
   simp only[Bool.false_eq_true,false_or]at me0 qV
   obtain⟨un,rfl,hun⟩:=eU mu
   rw[if_neg (by omega),if_pos hk,hrest]
   simp only[if_true,Bool.false_eq_true,if_false,List.append_nil]
   unfold abg
   rw[dS,nM hun]
   dsimp only
   rw[List.eq_nil_of_length_eq_zero me0,qV]
 · have hU:Bl k=true:=by simp[Bl];omega
   have hC:Bq k=false:=by simp[Bq];omega
   have hE:Bo k=true:=by simp[Bo];omega
   rw[hU]at hrest;rw[hC]at qV hrest;rw[hE]at hrest
   simp only[Bool.false_eq_true,false_or]at qV
   obtain⟨un,rfl,hun⟩:=eU mu
   rw[if_neg (by omega),if_neg (by omega),if_pos hk,hrest]
   simp only[if_true,Bool.false_eq_true,if_false,List.append_nil,List.append_assoc]
   rw[dS,nM hun]
   dsimp only
   rw[List.drop_left]
   unfold Pm
   rw[J5 ev (nJ wP) ml t]
   dsimp only
   rw[qV]
 · have hU:Bl k=false:=by simp[Bl];omega
   have hC:Bq k=true:=by simp[Bq];omega
   have hE:Bo k=false:=by simp[Bo];omega
   rw[hU]at sU hrest;rw[hC]at hrest;rw[hE]at me0 hrest
   simp only[Bool.false_eq_true,false_or]at sU me0
   obtain⟨c0,rfl,hc0⟩:=eU m0
   obtain⟨c1,rfl,hc1⟩:=eU m1
   obtain⟨c2,rfl,hc2⟩:=eU m2
   obtain⟨c3,rfl,hc3⟩:=eU m3
   obtain⟨c4,rfl,hc4⟩:=eU m4
   rw[if_neg (by omega),if_neg (by omega),if_neg (by omega),if_pos hk,hrest]
   simp only[if_true,Bool.false_eq_true,if_false,List.nil_append,yM,dS,List.append_assoc]
   rw[Ut hc0 hc1 hc2 hc3 hc4]
   dsimp only
   rw[List.eq_nil_of_length_eq_zero me0,sU]
def oG (b:List UInt8):Option (Rc×Nat):=
 if(dG b).2.2≠0∨b.length-(dG b).2.1<(dG b).1 then none
 else if sS ((b.drop (dG b).2.1).take (dG b).1)then
  if(jL (inner ((b.drop (dG b).2.1).take (dG b).1))).2=true∧iI (jL (inner ((b.drop (dG b).2.1).take (dG b).1))).1=true∧aB (jL (inner ((b.drop (dG b).2.1).take (dG b).1))).1=b.take ((dG b).2.1+(dG b).1)
  then some ((jL (inner ((b.drop (dG b).2.1).take (dG b).1))).1,(dG b).2.1+(dG b).1)else none
 else none
theorem zN (x:Rc) (h:iI x=true):2≤(fD x).length∧(fD x).length≤200000:=by
 have m:=lY h
 have hv (n:Nat):(ak n).length≤10:=bD 9 _
 have VT (n:Int):(iF n).length≤10:=hv _
 have he:=pq (nJ m.ev)
 have hl:=m.l
 have e1:(fD x).length=2+(if Bl x.k then(iF x.u).length else 0)+(if Bq x.k then(yM x.c).length else 0)+(if Bo x.k then(ak x.ev.length).length+(dY x.ev).length else 0):=by
  unfold fD
  simp only[List.length_append]
  congr 1
  · congr 1
    · congr 1
      split<;>rfl
    · split<;>rfl
  · split
    · rw[List.length_append]
    · rfl
 have hc:(yM x.c).length≤50:=by
  have:=VT x.c.c0;have:=VT x.c.c1;have:=VT x.c.c2;have:=VT x.c.c3;have:=VT x.c.c4
  unfold yM
  simp only[List.length_append]
  omega
 have:=VT x.u
 have:=hv x.ev.length
 rw[e1]
 refine⟨by omega, ?_⟩
 split<;>split<;>split<;>omega
theorem jC (x:Rc) (h:iI x=true):(aB x).length≤200100:=by
 have:=zN x h
 have hv:(ak (dW (fD x)).length).length≤10:=bD 9 _
 unfold aB
 rw[List.length_append,dB]
 rw[dB]at hv
 omega
theorem RH (x:Rc) (h:iI x=true) (t:List UInt8):oG (aB x++t)=some (x,(aB x).length):=by
 have hb:=zN x h
 have hs:=dB (fD x)
 have hr:=VU x h []
 rw[List.append_nil]at hr
 have e:aB x++t=ak (dW (fD x)).length++(dW (fD x)++t):=by unfold aB;rw[List.append_assoc]
 have hv:=uf (dW (fD x)).length (dW (fD x)++t) (by omega)
 have hl:(aB x).length=(ak (dW (fD x)).length).length+(dW (fD x)).length:=by unfold aB;rw[List.length_append]
 unfold oG
 rw[e,hv,List.drop_left,List.take_left,if_neg (by simp),if_pos (Uu _),zM,hr,if_pos ⟨rfl,h,by rw[←e,←hl,List.take_left]⟩,hl]
def kY (l:List Rc):List UInt8:=l.flatMap aB
structure Dt (b:List UInt8) (l:List Rc) (t:List UInt8):Prop where
 may: ∀r∈l,iI r=true
 eq:b=kY l++t
 no:oG t=none
theorem J6 (l:List Rc) (x:Rc):kY (l++[x])=kY l++aB x:=by simp[kY]
theorem VW {b:List UInt8} {l:List Rc} {t:List UInt8} (h:Dt b l t) (j:Nat) (hj:j<l.length):oG (b.drop (kY (l.take j)).length)=some (l.getD j default,(aB (l.getD j default)).length):=by
 have e:l=l.take j++l.getD j default::l.drop (j+1):=by
  rw[List.getD,List.getElem?_eq_getElem hj]
  simp
 have e2:b=kY (l.take j)++(aB (l.getD j default)++(kY (l.drop (j+1))++t)):=by
  rw[h.eq]
  conv=>lhs;rw[e]
  simp[kY]
 rw[e2,List.drop_left]
 refine RH _ (h.may _ ?_) _
 rw[List.getD,List.getElem?_eq_getElem hj]
 exact List.getElem_mem hj
theorem Zg {b:List UInt8} {l:List Rc} {t:List UInt8} (h:Dt b l t):oG (b.drop (kY l).length)=none:=by
 rw[h.eq,List.drop_left]
 exact h.no
theorem VX {l:List Rc} {j:Nat} (hj:j<l.length):kY (l.take (j+1))=kY (l.take j)++aB (l.getD j default):=by
 have:l.take (j+1)=l.take j++[l.getD j default]:=by
  rw[List.getD,List.getElem?_eq_getElem hj]
  simp
 rw[this,J6]
section
open Go.RowKit
theorem aS.dF {xs ys:List AV} (h:Ch xs ys):aS (.dF xs) (.dF ys):=fun _ _ ⟨us,e,ha⟩=>⟨us,e,h.all ha⟩
theorem rQ {n:Nat} {F:Nat→List AV} (l:List UInt8) {m k:Nat} (h:kX l=some (m,k)) (hF:bg F l) (hn:n=l.length):aH Tryz.prog 165 [.sl 1 n true F] (.dF [.v (.int .i64 (m:Int)),.sl 1 (l.drop k).length true (aU (l.drop k)),.v (.bool true)]) []:=by
 have hle:=uV h
 obtain⟨⟨a,c,e⟩,hv⟩: ∃p,dG l=p:=⟨_,rfl⟩
 have hs:=jd l hF hn
 unfold kX at h
 rw[hv]at hs h
 dsimp only at hs h
 split at h
 · rename_i h0
   obtain⟨h0,h1⟩:=h0
   simp only[Option.some.injEq,Prod.mk.injEq]at h
   obtain⟨rfl,rfl⟩:=h
   subst h0
   refine K1.E 0x800fd Tryz.func165 ?_
   repeat' ((conv=>whnf);first|refine K1.w ?_|refine K1.u ?_|refine K1.P1 hs rfl ?_|refine aJ.dO ?_|refine K1.o (id:=4) [(0,none),(1,none),(2,none),(3,none),(4,none),(5,none),(6,none),(7,none)] [] ?_|refine K1.z ?_|refine K1.y (fun _=>?_) (fun _=>?_)|fail)
   conv=>whnf
   exact bF.mk (aS.dF (.same (.nT (bg.drop hF _) (by simp[hn]) (.same .nil))))
 · cases h
theorem rU {n:Nat} {F:Nat→List AV} (l:List UInt8) (h:kX l=none) (hF:bg F l) (hn:n=l.length):aH Tryz.prog 165 [.sl 1 n true F] (.dF [.v (.int .i64 0),.v (.slice none 0 0),.v (.bool false)]) []:=by
 obtain⟨⟨a,c,e⟩,hv⟩: ∃p,dG l=p:=⟨_,rfl⟩
 have hs:=jd l hF hn
 unfold kX at h
 rw[hv]at hs h
 dsimp only at hs h
 split at h
 · cases h
 · rename_i h0
   refine K1.E 0x800fd Tryz.func165 ?_
   repeat' ((conv=>whnf);first|refine K1.w ?_|refine K1.u ?_|refine K1.P1 hs rfl ?_|refine aJ.dO ?_|refine K1.o (id:=4) [(0,none),(1,none),(2,none),(3,none),(4,none),(5,none),(6,none),(7,none)] [] ?_|refine K1.z ?_|refine K1.y (fun _=>?_) (fun _=>?_)|fail)
   all_goals(conv=>whnf)
   all_goals first
     |exact bF.mk (aj)
     |(exfalso;apply h0;constructor<;>omega)
theorem abh (b:List UInt8) (hl:b.length≤1000000000):aH Tryz.prog 166 [.sl 1 b.length true (aU b)] (Jd (nN b)) []:=by
 cases hN:kX b with
 | none=>
   have hnum:=rU b hN (bg.bytes b) rfl
   rw[show nN b=none by unfold nN;rw[hN]]
   refine K1.E 0x101e003fd Tryz.func166 ?_
   repeat' ((conv=>whnf);first|refine K1.w ?_|refine K1.u ?_|refine K1.P1 hnum rfl ?_|refine aJ.dO ?_|refine K1.o (id:=10) [(0,none),(1,none),(4,none),(5,none),(6,none),(2,some [1]),(3,some [1]),(7,none),(8,none)] [(2,[1]),(3,[1]),(7,[1]),(8,[1])] ?_|refine K1.z ?_|refine K1.y (fun _=>?_) (fun _=>?_)|fail)
   all_goals(conv=>whnf)
   all_goals exact bF.mk (aj)
 | some p =>
   obtain⟨c,k⟩:=p
   have hnum:=rQ b hN (bg.bytes b) rfl
   have hle:=uV hN
   have hdl:(b.drop k).length≤b.length:=by rw[List.length_drop];omega
   by_cases hc:4096<c
   · rw[show nN b=none by unfold nN;rw[hN];dsimp only;rw[if_pos hc]]
     refine K1.E 0x101e003fd Tryz.func166 ?_
     repeat' ((conv=>whnf);first|refine K1.w ?_|refine K1.u ?_|refine K1.P1 hnum rfl ?_|refine aJ.dO ?_|refine K1.o (id:=10) [(0,none),(1,none),(4,none),(5,none),(6,none),(2,some [1]),(3,some [1]),(7,none),(8,none)] [(2,[1]),(3,[1]),(7,[1]),(8,[1])] ?_|refine K1.z ?_|refine K1.y (fun _=>?_) (fun _=>?_)|fail)
     all_goals(conv=>whnf)
     all_goals exact bF.mk (aj)
   · have hlf:nN b=(jl (b.drop k) c).map (·.1):=by unfold nN;rw[hN];dsimp only;rw[if_neg hc]
     generalize b.drop k=t at hnum hdl hlf
     refine K1.E 0x101e003fd Tryz.func166 ?_
     repeat' ((conv=>whnf);first|refine K1.w ?_|refine K1.u ?_|refine K1.P1 hnum rfl ?_|refine aJ.dO ?_|refine K1.o (id:=10) [(0,none),(1,none),(4,none),(5,none),(6,none),(2,some [1]),(3,some [1]),(7,none),(8,none)] [(2,[1]),(3,[1]),(7,[1]),(8,[1])] ?_|refine K1.z ?_|refine K1.y (fun _=>?_) (fun _=>?_)|fail)
     conv=>whnf
     refine aN.mk {p:Nat×List Ev×List UInt8//jl t p.1=some p.2∧p.1≤c} (fun p=>match p with
       |⟨(0,_,r),_⟩=>⟨[(0,.sl 1 r.length true (aU r)),(6,.v (.slice none 0 0)),(22,.v (.int .i64 (c:Int))),(23,.v (.int .i64 0))],[],[],0⟩
       |⟨(i+1,l,r),_⟩=>⟨[(0,.sl 1 r.length true (aU r)),(6,.own 90),(22,.v (.int .i64 (c:Int))),(23,.v (.int .i64 ((i:Int)+1)))],[(90,.row 42 12 l.length true (dX l))],[],91⟩)
       (fun p=>c-p.1.1) ⟨(0,[],t),rfl,Nat.zero_le _⟩ _
       (dL.mk' [] _ _ _ rfl ⟨aj,aj,aj,aS.int rfl,trivial⟩ trivial rfl) ?_
     rintro⟨⟨_|i,l,r⟩,hp,hj⟩
     · dsimp only at hp hj
       obtain⟨hl0,hr0⟩:=oD hp
       obtain rfl:l=[]:=List.eq_nil_of_length_eq_zero hl0
       have hz:c=0→nN b=some []:=fun h=>by rw[hlf,h,hp];rfl
       rcases uS r with⟨e,m,ht,-,hm,-⟩|ht|ht
       · dsimp only
         repeat' ((conv=>whnf);first|refine K1.w ?_|refine K1.u ?_|refine K1.P1 (take_any r ht (bg.bytes r) rfl (by omega)) rfl ?_|refine aJ.dO ?_|refine K1.o (id:=10) [(0,none),(1,none),(4,none),(5,none),(6,none),(2,some [1]),(3,some [1]),(7,none),(8,none)] [(2,[1]),(3,[1]),(7,[1]),(8,[1])] ?_|refine K1.z ?_|refine K1.y (fun _=>?_) (fun _=>?_)|fail)
         all_goals(conv=>whnf)
         · refine⟨⟨(0+1,[]++[e],r.drop m),qO hp ht,by omega⟩,_,dL.mk' [(2,90)] _ _ _ rfl ⟨aS.nT (bg.drop (bg.bytes r) m) (by simp),aj,aj,aS.int rfl,trivial⟩ ⟨⟨_,rfl,bW.row rfl (fun i hi=>?_)⟩,trivial⟩ rfl,by show c-(0+1)<c-0;omega⟩
           have hi:i<1:=hi
           obtain rfl:i=0:=by omega
           rfl
         · rw[hz (by omega)]
           exact bF.mk (aS.abf _)
       all_goals
        have hno:0<c→nN b=none:=fun h=>by rw[hlf,uU (uT hp (by rw[ht];decide)) c (by omega)];rfl
        dsimp only
        repeat' ((conv=>whnf);first|refine K1.w ?_|refine K1.u ?_|refine K1.P1 (take_any r ht (bg.bytes r) rfl (by omega)) rfl ?_|refine aJ.dO ?_|refine K1.o (id:=10) [(0,none),(1,none),(4,none),(5,none),(6,none),(2,some [1]),(3,some [1]),(7,none),(8,none)] [(2,[1]),(3,[1]),(7,[1]),(8,[1])] ?_|refine K1.z ?_|refine K1.y (fun _=>?_) (fun _=>?_)|fail)
        all_goals(conv=>whnf)
        · rw[hno (by omega)]
          exact bF.mk (aj)
        · rw[hz (by omega)]
          exact bF.mk (aS.abf _)
     · dsimp only at hp hj
       obtain⟨hl0,hr0⟩:=oD hp
       have hz:c=i+1→nN b=some l:=fun h=>by rw[hlf,h,hp];rfl
       rcases uS r with⟨e,m,ht,-,hm,-⟩|ht|ht
       · dsimp only
         repeat' ((conv=>whnf);first|refine K1.w ?_|refine K1.u ?_|refine K1.P1 (take_any r ht (bg.bytes r) rfl (by omega)) rfl ?_|refine aJ.dO ?_|refine K1.o (id:=10) [(0,none),(1,none),(4,none),(5,none),(6,none),(2,some [1]),(3,some [1]),(7,none),(8,none)] [(2,[1]),(3,[1]),(7,[1]),(8,[1])] ?_|refine K1.z ?_|refine K1.y (fun _=>?_) (fun _=>?_)|fail)
         all_goals(conv=>whnf)
         · refine⟨⟨(i+1+1,l++[e],r.drop m),qO hp ht,by omega⟩,_,dL.mk' [(93,90)] _ _ _ rfl ⟨aS.nT (bg.drop (bg.bytes r) m) (by simp),aj,aj,aS.int rfl,trivial⟩ ⟨⟨_,rfl,bW.row (by simp) (fun m hm=>bJ (c:=Ev.cs) rfl rfl m hm)⟩,trivial⟩ rfl,by show c-(i+1+1)<c-(i+1);omega⟩
         · rw[hz (by omega)]
           exact bF.mk (aj)
       all_goals
        have hno:i+1<c→nN b=none:=fun h=>by rw[hlf,uU (uT hp (by rw[ht];decide)) c (by omega)];rfl
        dsimp only
        repeat' ((conv=>whnf);first|refine K1.w ?_|refine K1.u ?_|refine K1.P1 (take_any r ht (bg.bytes r) rfl (by omega)) rfl ?_|refine aJ.dO ?_|refine K1.o (id:=10) [(0,none),(1,none),(4,none),(5,none),(6,none),(2,some [1]),(3,some [1]),(7,none),(8,none)] [(2,[1]),(3,[1]),(7,[1]),(8,[1])] ?_|refine K1.z ?_|refine K1.y (fun _=>?_) (fun _=>?_)|fail)
        all_goals(conv=>whnf)
        · rw[hno (by omega)]
          exact bF.mk (aj)
        · rw[hz (by omega)]
          exact bF.mk (aj)
theorem Ht {n:Nat} {F:Nat→List AV} (b:List UInt8) (hF:bg F b) (hn:n=b.length) (hl:b.length≤1000000000):aH Tryz.prog 166 [.sl 1 n true F] (Jd (nN b)) []:=
 (abh b hl).args (Ch.nT hF hn .nil)
theorem Pn (k:Int) (h:k=1∨k=2∨k=5):aH Tryz.prog 127 [.v (.int .i64 k)] (.dF [.v (.bool false),.v (.bool true),.v (.bool false),.v (.bool true)]) []:=by
 have:=gW k
 rcases h with rfl|rfl|rfl<;>exact this
theorem Po (k:Int) (h:k=3):aH Tryz.prog 127 [.v (.int .i64 k)] (.dF [.v (.bool true),.v (.bool false),.v (.bool false),.v (.bool true)]) []:=by
 have:=gW k
 rcases h with rfl;exact this
theorem Du (k:Int) (h:k=4):aH Tryz.prog 127 [.v (.int .i64 k)] (.dF [.v (.bool true),.v (.bool true),.v (.bool false),.v (.bool true)]) []:=by
 have:=gW k
 rcases h with rfl;exact this
theorem uh (k:Int) (h:k=6):aH Tryz.prog 127 [.v (.int .i64 k)] (.dF [.v (.bool false),.v (.bool false),.v (.bool true),.v (.bool true)]) []:=by
 have:=gW k
 rcases h with rfl;exact this
theorem wV {b:List UInt8} (hu:2≤b.length):jL b=rdR ((b.getD 0 default).toNat:Int) ((b.getD 1 default).toNat:Int) (b.drop 2):=by
 unfold jL
 rw[if_neg (by omega)]
theorem Zh (b:List UInt8) (hl:b.length≤1000000000) (h:b.length<2):
  aH Tryz.prog 134 [.sl 1 b.length true (aU b)] (.dF [(jL b).1.av,.v (.bool (jL b).2)]) []:=by
 rw[show jL b=(Ze,false) by unfold jL;rw[if_pos h]]
 dsimp only[Rc.av,Rc.cs]
 refine K1.E 0x200042020000027fd Tryz.func134 ?_
 repeat' ((conv=>whnf);first|refine K1.w ?_|refine K1.u ?_|refine aN.qY 10 6 rfl ?_|refine aJ.dO ?_|refine K1.o (id:=3) [(0,none),(1,none),(2,none),(3,none),(4,none),(5,none),(6,none),(7,none),(8,none),(9,some []),(10,some [7,6,3,2])] [(3,[2]),(7,[6]),(8,[7,6,3,2]),(9,[]),(10,[7,6,3,2])] ?_|refine K1.z ?_|refine K1.y (fun _=>?_) (fun _=>?_)|fail)
 all_goals(conv=>whnf)
 all_goals exact bF.mk (aS.iq _)
theorem RI (b:List UInt8) (hl:b.length≤1000000000) (hu:2≤b.length) (hk: ¬ (((b.getD 0 default).toNat:Int)=1∨((b.getD 0 default).toNat:Int)=2∨((b.getD 0 default).toNat:Int)=5)∧ ¬ ((b.getD 0 default).toNat:Int)=3∧ ¬ ((b.getD 0 default).toNat:Int)=4∧ ¬ ((b.getD 0 default).toNat:Int)=6):
  aH Tryz.prog 134 [.sl 1 b.length true (aU b)] (.dF [(jL b).1.av,.v (.bool (jL b).2)]) []:=by
 rw[wV hu]
 unfold rdR
 rw[if_neg hk.1,if_neg hk.2.1,if_neg hk.2.2.1,if_neg hk.2.2.2]
 have hf:=D9 ((b.getD 0 default).toNat:Int) (by omega)
 dsimp only[Rc.av,Rc.cs]
 refine K1.E 0x200042020000027fd Tryz.func134 ?_
 repeat' ((conv=>whnf);first|refine K1.w ?_|refine K1.u ?_|refine K1.P1 hf rfl ?_|refine aN.qY 10 6 rfl ?_|refine aJ.dO ?_|refine K1.o (id:=3) [(0,none),(1,none),(2,none),(3,none),(4,none),(5,none),(6,none),(7,none),(8,none),(9,some []),(10,some [7,6,3,2])] [(3,[2]),(7,[6]),(8,[7,6,3,2]),(9,[]),(10,[7,6,3,2])] ?_|refine K1.z ?_|refine K1.y (fun _=>?_) (fun _=>?_)|fail)
 all_goals(conv=>whnf)
 all_goals exact bF.mk (aS.iq _)
theorem abj (b:List UInt8) (hl:b.length≤1000000000) (hu:2≤b.length) (hk:((b.getD 0 default).toNat:Int)=1∨((b.getD 0 default).toNat:Int)=2∨((b.getD 0 default).toNat:Int)=5):
  aH Tryz.prog 134 [.sl 1 b.length true (aU b)] (.dF [(jL b).1.av,.v (.bool (jL b).2)]) []:=by
 rw[wV hu]
 unfold rdR
 rw[if_pos hk]
 unfold Pm
 have he:=Ht (n:=b.length-2) (b.drop 2) (bg.drop (bg.bytes b) 2) (by simp) (by simp;omega)
 cases hE:nN (b.drop 2)with
 | none=>
   rw[hE]at he
   dsimp only[Jd]at he
   dsimp only[Rc.av,Rc.cs]
   refine K1.E 0x200042020000027fd Tryz.func134 ?_
   repeat' ((conv=>whnf);first|refine K1.w ?_|refine K1.u ?_|refine K1.P1 (Pn _ hk) rfl ?_|refine K1.P1 he rfl ?_|refine aN.qY 10 6 rfl ?_|refine aJ.dO ?_|refine K1.o (id:=3) [(0,none),(1,none),(2,none),(3,none),(4,none),(5,none),(6,none),(7,none),(8,none),(9,some []),(10,some [7,6,3,2])] [(3,[2]),(7,[6]),(8,[7,6,3,2]),(9,[]),(10,[7,6,3,2])] ?_|refine K1.z ?_|refine K1.y (fun _=>?_) (fun _=>?_)|fail)
   all_goals(conv=>whnf)
   all_goals exact bF.mk (aS.iq _)
 | some l=>
   rw[hE]at he
   dsimp only[Jd]at he
   dsimp only[Rc.av,Rc.cs]
   refine K1.E 0x200042020000027fd Tryz.func134 ?_
   repeat' ((conv=>whnf);first|refine K1.w ?_|refine K1.u ?_|refine K1.P1 (Pn _ hk) rfl ?_|refine K1.P1 he rfl ?_|refine aN.qY 10 6 rfl ?_|refine aJ.dO ?_|refine K1.o (id:=3) [(0,none),(1,none),(2,none),(3,none),(4,none),(5,none),(6,none),(7,none),(8,none),(9,some []),(10,some [7,6,3,2])] [(3,[2]),(7,[6]),(8,[7,6,3,2]),(9,[]),(10,[7,6,3,2])] ?_|refine K1.z ?_|refine K1.y (fun _=>?_) (fun _=>?_)|fail)
   all_goals(conv=>whnf)
   all_goals exact bF.mk (aj)
theorem abk (b:List UInt8) (hl:b.length≤1000000000) (hu:2≤b.length) (hk:((b.getD 0 default).toNat:Int)=3):
  aH Tryz.prog 134 [.sl 1 b.length true (aU b)] (.dF [(jL b).1.av,.v (.bool (jL b).2)]) []:=by
 rw[wV hu]
 unfold rdR
 rw[if_neg (by omega),if_pos hk]
 unfold abg
 cases hE:kX (b.drop 2)with
 | none=>
   have he:=rU (n:=b.length-2) (b.drop 2) hE (bg.drop (bg.bytes b) 2) (by simp)
   dsimp only[Rc.av,Rc.cs]
   refine K1.E 0x200042020000027fd Tryz.func134 ?_
   repeat' ((conv=>whnf);first|refine K1.w ?_|refine K1.u ?_|refine K1.P1 (Po _ hk) rfl ?_|refine K1.P1 he rfl ?_|refine aN.qY 10 6 rfl ?_|refine aJ.dO ?_|refine K1.o (id:=3) [(0,none),(1,none),(2,none),(3,none),(4,none),(5,none),(6,none),(7,none),(8,none),(9,some []),(10,some [7,6,3,2])] [(3,[2]),(7,[6]),(8,[7,6,3,2]),(9,[]),(10,[7,6,3,2])] ?_|refine K1.z ?_|refine K1.y (fun _=>?_) (fun _=>?_)|fail)
   all_goals(conv=>whnf)
   all_goals exact bF.mk (aS.iq _)
 | some p=>
   obtain⟨m,k⟩:=p
   have he:=rQ (n:=b.length-2) (b.drop 2) hE (bg.drop (bg.bytes b) 2) (by simp)
   dsimp only[Rc.av,Rc.cs]
   refine K1.E 0x200042020000027fd Tryz.func134 ?_
   repeat' ((conv=>whnf);first|refine K1.w ?_|refine K1.u ?_|refine K1.P1 (Po _ hk) rfl ?_|refine K1.P1 he rfl ?_|refine aN.qY 10 6 rfl ?_|refine aJ.dO ?_|refine K1.o (id:=3) [(0,none),(1,none),(2,none),(3,none),(4,none),(5,none),(6,none),(7,none),(8,none),(9,some []),(10,some [7,6,3,2])] [(3,[2]),(7,[6]),(8,[7,6,3,2]),(9,[]),(10,[7,6,3,2])] ?_|refine K1.z ?_|refine K1.y (fun _=>?_) (fun _=>?_)|fail)
   all_goals(conv=>whnf)
   all_goals exact bF.mk (aS.iq _)
theorem Zi (b:List UInt8) (hl:b.length≤1000000000) (hu:2≤b.length) (hk:((b.getD 0 default).toNat:Int)=4):
  aH Tryz.prog 134 [.sl 1 b.length true (aU b)] (.dF [(jL b).1.av,.v (.bool (jL b).2)]) []:=by
 rw[wV hu]
 unfold rdR
 rw[if_neg (by omega),if_neg (by omega),if_pos hk]
 cases hE:kX (b.drop 2)with
 | none=>
   have he:=rU (n:=b.length-2) (b.drop 2) hE (bg.drop (bg.bytes b) 2) (by simp)
   dsimp only[Rc.av,Rc.cs]
   refine K1.E 0x200042020000027fd Tryz.func134 ?_
   repeat' ((conv=>whnf);first|refine K1.w ?_|refine K1.u ?_|refine K1.P1 (Du _ hk) rfl ?_|refine K1.P1 he rfl ?_|refine aN.qY 10 6 rfl ?_|refine aJ.dO ?_|refine K1.o (id:=3) [(0,none),(1,none),(2,none),(3,none),(4,none),(5,none),(6,none),(7,none),(8,none),(9,some []),(10,some [7,6,3,2])] [(3,[2]),(7,[6]),(8,[7,6,3,2]),(9,[]),(10,[7,6,3,2])] ?_|refine K1.z ?_|refine K1.y (fun _=>?_) (fun _=>?_)|fail)
   all_goals(conv=>whnf)
   all_goals exact bF.mk (aS.iq _)
 | some p=>
   obtain⟨m,k⟩:=p
   have he:=rQ (n:=b.length-2) (b.drop 2) hE (bg.drop (bg.bytes b) 2) (by simp)
   dsimp only
   have hdl:((b.drop 2).drop k).length≤b.length:=by rw[List.length_drop,List.length_drop];omega
   generalize(b.drop 2).drop k=t at he hdl
   have BH:=Ht t (bg.bytes t) rfl (by omega)
   unfold Pm
   cases hL:nN t with
   | none=>
     rw[hL]at BH
     dsimp only[Jd]at BH
     dsimp only[Rc.av,Rc.cs]
     refine K1.E 0x200042020000027fd Tryz.func134 ?_
     repeat' ((conv=>whnf);first|refine K1.w ?_|refine K1.u ?_|refine K1.P1 (Du _ hk) rfl ?_|refine K1.P1 he rfl ?_|refine K1.P1 BH rfl ?_|refine aN.qY 10 6 rfl ?_|refine aJ.dO ?_|refine K1.o (id:=3) [(0,none),(1,none),(2,none),(3,none),(4,none),(5,none),(6,none),(7,none),(8,none),(9,some []),(10,some [7,6,3,2])] [(3,[2]),(7,[6]),(8,[7,6,3,2]),(9,[]),(10,[7,6,3,2])] ?_|refine K1.z ?_|refine K1.y (fun _=>?_) (fun _=>?_)|fail)
     all_goals(conv=>whnf)
     all_goals exact bF.mk (aS.iq _)
   | some l=>
     rw[hL]at BH
     dsimp only[Jd]at BH
     dsimp only[Rc.av,Rc.cs]
     refine K1.E 0x200042020000027fd Tryz.func134 ?_
     repeat' ((conv=>whnf);first|refine K1.w ?_|refine K1.u ?_|refine K1.P1 (Du _ hk) rfl ?_|refine K1.P1 he rfl ?_|refine K1.P1 BH rfl ?_|refine aN.qY 10 6 rfl ?_|refine aJ.dO ?_|refine K1.o (id:=3) [(0,none),(1,none),(2,none),(3,none),(4,none),(5,none),(6,none),(7,none),(8,none),(9,some []),(10,some [7,6,3,2])] [(3,[2]),(7,[6]),(8,[7,6,3,2]),(9,[]),(10,[7,6,3,2])] ?_|refine K1.z ?_|refine K1.y (fun _=>?_) (fun _=>?_)|fail)
     all_goals(conv=>whnf)
     all_goals exact bF.mk (aj)
theorem abl (b:List UInt8) (hl:b.length≤1000000000) (hu:2≤b.length) (hk:((b.getD 0 default).toNat:Int)=6):
  aH Tryz.prog 134 [.sl 1 b.length true (aU b)] (.dF [(jL b).1.av,.v (.bool (jL b).2)]) []:=by
 rw[wV hu]
 unfold rdR
 rw[if_neg (by omega),if_neg (by omega),if_neg (by omega),if_pos hk]
 cases g0:kX (b.drop 2)with
 | none=>
   have e0:=rU (n:=b.length-2) (b.drop 2) g0 (bg.drop (bg.bytes b) 2) (by simp)
   have hr:zZ (b.drop 2)=(⟨0,0,0,0,0⟩,false):=by unfold zZ;simp only[g0]
   rw[hr]
   dsimp only[Rc.av,Rc.cs]
   refine K1.E 0x200042020000027fd Tryz.func134 ?_
   repeat' ((conv=>whnf);first|refine K1.w ?_|refine K1.u ?_|refine K1.P1 (uh _ hk) rfl ?_|refine K1.P1 e0 rfl ?_|refine aN.qY 10 6 rfl ?_|refine aJ.dO ?_|refine K1.o (id:=3) [(0,none),(1,none),(2,none),(3,none),(4,none),(5,none),(6,none),(7,none),(8,none),(9,some []),(10,some [7,6,3,2])] [(3,[2]),(7,[6]),(8,[7,6,3,2]),(9,[]),(10,[7,6,3,2])] ?_|refine K1.z ?_|refine K1.y (fun _=>?_) (fun _=>?_)|fail)
   all_goals(conv=>whnf)
   all_goals exact bF.mk (aS.iq _)
 | some p0 =>
   obtain⟨m0,k0⟩:=p0
   have e0:=rQ (n:=b.length-2) (b.drop 2) g0 (bg.drop (bg.bytes b) 2) (by simp)
   cases g1:kX ((b.drop 2).drop k0)with
   | none=>
     have e1:=rU ((b.drop 2).drop k0) g1 (bg.bytes _) rfl
     have hr:zZ (b.drop 2)=(⟨m0,0,0,0,0⟩,false):=by unfold zZ;simp only[g0,g1]
     rw[hr]
     dsimp only[Rc.av,Rc.cs]
     refine K1.E 0x200042020000027fd Tryz.func134 ?_
     repeat' ((conv=>whnf);first|refine K1.w ?_|refine K1.u ?_|refine K1.P1 (uh _ hk) rfl ?_|refine K1.P1 e0 rfl ?_|refine K1.P1 e1 rfl ?_|refine aN.qY 10 6 rfl ?_|refine aJ.dO ?_|refine K1.o (id:=3) [(0,none),(1,none),(2,none),(3,none),(4,none),(5,none),(6,none),(7,none),(8,none),(9,some []),(10,some [7,6,3,2])] [(3,[2]),(7,[6]),(8,[7,6,3,2]),(9,[]),(10,[7,6,3,2])] ?_|refine K1.z ?_|refine K1.y (fun _=>?_) (fun _=>?_)|fail)
     all_goals(conv=>whnf)
     all_goals exact bF.mk (aS.iq _)
   | some p1=>
     obtain⟨m1,k1⟩:=p1
     have e1:=rQ ((b.drop 2).drop k0) g1 (bg.bytes _) rfl
     cases g2:kX (((b.drop 2).drop k0).drop k1)with
     | none=>
       have e2:=rU (((b.drop 2).drop k0).drop k1) g2 (bg.bytes _) rfl
       have hr:zZ (b.drop 2)=(⟨m0,m1,0,0,0⟩,false):=by unfold zZ;simp only[g0,g1,g2]
       rw[hr]
       dsimp only[Rc.av,Rc.cs]
       refine K1.E 0x200042020000027fd Tryz.func134 ?_
       repeat' ((conv=>whnf);first|refine K1.w ?_|refine K1.u ?_|refine K1.P1 (uh _ hk) rfl ?_|refine K1.P1 e0 rfl ?_|refine K1.P1 e1 rfl ?_|refine K1.P1 e2 rfl ?_|refine aN.qY 10 6 rfl ?_|refine aJ.dO ?_|refine K1.o (id:=3) [(0,none),(1,none),(2,none),(3,none),(4,none),(5,none),(6,none),(7,none),(8,none),(9,some []),(10,some [7,6,3,2])] [(3,[2]),(7,[6]),(8,[7,6,3,2]),(9,[]),(10,[7,6,3,2])] ?_|refine K1.z ?_|refine K1.y (fun _=>?_) (fun _=>?_)|fail)
       all_goals(conv=>whnf)
       all_goals exact bF.mk (aS.iq _)
     | some p2=>
       obtain⟨m2,k2⟩:=p2
       have e2:=rQ (((b.drop 2).drop k0).drop k1) g2 (bg.bytes _) rfl
       cases g3:kX ((((b.drop 2).drop k0).drop k1).drop k2)with
       | none=>
         have e3:=rU ((((b.drop 2).drop k0).drop k1).drop k2) g3 (bg.bytes _) rfl
         have hr:zZ (b.drop 2)=(⟨m0,m1,m2,0,0⟩,false):=by unfold zZ;simp only[g0,g1,g2,g3]
         rw[hr]
         dsimp only[Rc.av,Rc.cs]
         refine K1.E 0x200042020000027fd Tryz.func134 ?_
         repeat' ((conv=>whnf);first|refine K1.w ?_|refine K1.u ?_|refine K1.P1 (uh _ hk) rfl ?_|refine K1.P1 e0 rfl ?_|refine K1.P1 e1 rfl ?_|refine K1.P1 e2 rfl ?_|refine K1.P1 e3 rfl ?_|refine aN.qY 10 6 rfl ?_|refine aJ.dO ?_|refine K1.o (id:=3) [(0,none),(1,none),(2,none),(3,none),(4,none),(5,none),(6,none),(7,none),(8,none),(9,some []),(10,some [7,6,3,2])] [(3,[2]),(7,[6]),(8,[7,6,3,2]),(9,[]),(10,[7,6,3,2])] ?_|refine K1.z ?_|refine K1.y (fun _=>?_) (fun _=>?_)|fail)
         all_goals(conv=>whnf)
         all_goals exact bF.mk (aS.iq _)
       | some p3=>
         obtain⟨m3,k3⟩:=p3
         have e3:=rQ ((((b.drop 2).drop k0).drop k1).drop k2) g3 (bg.bytes _) rfl
         cases g4:kX (((((b.drop 2).drop k0).drop k1).drop k2).drop k3)with
         | none=>
           have e4:=rU (((((b.drop 2).drop k0).drop k1).drop k2).drop k3) g4 (bg.bytes _) rfl
           have hr:zZ (b.drop 2)=(⟨m0,m1,m2,m3,0⟩,false):=by unfold zZ;simp only[g0,g1,g2,g3,g4]
           rw[hr]
           dsimp only[Rc.av,Rc.cs]
           refine K1.E 0x200042020000027fd Tryz.func134 ?_
           repeat' ((conv=>whnf);first|refine K1.w ?_|refine K1.u ?_|refine K1.P1 (uh _ hk) rfl ?_|refine K1.P1 e0 rfl ?_|refine K1.P1 e1 rfl ?_|refine K1.P1 e2 rfl ?_|refine K1.P1 e3 rfl ?_|refine K1.P1 e4 rfl ?_|refine aN.qY 10 6 rfl ?_|refine aJ.dO ?_|refine K1.o (id:=3) [(0,none),(1,none),(2,none),(3,none),(4,none),(5,none),(6,none),(7,none),(8,none),(9,some []),(10,some [7,6,3,2])] [(3,[2]),(7,[6]),(8,[7,6,3,2]),(9,[]),(10,[7,6,3,2])] ?_|refine K1.z ?_|refine K1.y (fun _=>?_) (fun _=>?_)|fail)
           all_goals(conv=>whnf)
           all_goals exact bF.mk (aS.iq _)
         | some p4=>
           obtain⟨m4,k4⟩:=p4
           have e4:=rQ (((((b.drop 2).drop k0).drop k1).drop k2).drop k3) g4 (bg.bytes _) rfl
           have hr:zZ (b.drop 2)=(⟨m0,m1,m2,m3,m4⟩,true):=by unfold zZ;simp only[g0,g1,g2,g3,g4]
           rw[hr]
           dsimp only[Rc.av,Rc.cs]
           refine K1.E 0x200042020000027fd Tryz.func134 ?_
           repeat' ((conv=>whnf);first|refine K1.w ?_|refine K1.u ?_|refine K1.P1 (uh _ hk) rfl ?_|refine K1.P1 e0 rfl ?_|refine K1.P1 e1 rfl ?_|refine K1.P1 e2 rfl ?_|refine K1.P1 e3 rfl ?_|refine K1.P1 e4 rfl ?_|refine aN.qY 10 6 rfl ?_|refine aJ.dO ?_|refine K1.o (id:=3) [(0,none),(1,none),(2,none),(3,none),(4,none),(5,none),(6,none),(7,none),(8,none),(9,some []),(10,some [7,6,3,2])] [(3,[2]),(7,[6]),(8,[7,6,3,2]),(9,[]),(10,[7,6,3,2])] ?_|refine K1.z ?_|refine K1.y (fun _=>?_) (fun _=>?_)|fail)
           all_goals(conv=>whnf)
           all_goals exact bF.mk (aS.iq _)
theorem RJ {n:Nat} {F:Nat→List AV} (b:List UInt8) (hF:bg F b) (hn:n=b.length) (hl:b.length≤1000000000):aH Tryz.prog 134 [.sl 1 n true F] (.dF [(jL b).1.av,.v (.bool (jL b).2)]) []:=by
 refine aH.args ?_ (Ch.nT hF hn .nil)
 by_cases h:b.length<2
 · exact Zh b hl h
 · have hu:2≤b.length:=by omega
   by_cases h1:((b.getD 0 default).toNat:Int)=1∨((b.getD 0 default).toNat:Int)=2∨((b.getD 0 default).toNat:Int)=5
   · exact abj b hl hu h1
   · by_cases h2:((b.getD 0 default).toNat:Int)=3
     · exact abk b hl hu h2
     · by_cases h3:((b.getD 0 default).toNat:Int)=4
       · exact Zi b hl hu h3
       · by_cases h4:((b.getD 0 default).toNat:Int)=6
         · exact abl b hl hu h4
         · exact RI b hl hu ⟨h1,h2,h3,h4⟩
end
end Go.Proofs.YtimhagicagdkfaaGreat
