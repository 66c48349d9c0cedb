/-
  Contracts of the walk:FrT,FrU,FrLaw,FrN,RcLaw,RcV.
-/
import Derived.Test.YtimhagicagdkfaaGreatNf14
import Derived.Test.YtimhagicagdkfaaGreatNf15
set_option linter.unusedVariables false
set_option linter.unusedSimpArgs false
set_option maxHeartbeats 16000000
set_option maxRecDepth 100000
namespace Go.Proofs.YtimhagicagdkfaaGreat
section
open Go.RowKit
def kT (b:List UInt8):Option (Nat×Nat):=if(dF b).2.2=0∧(dF b).1≤1048576 then some ((dF b).1,(dF b).2.1)else none
theorem pX {n:Nat} {F:Nat→List AV} (l:List UInt8) {m k:Nat} (h:kT l=some (m,k)) (hF:bF F l) (hn:n=l.length):aH Tryz.prog 82 [.sl 1 n true F] (.dM [.v (.int .i64 (m:Int)),.v (.int .i64 (k:Int)),.v (.bool true)]) []:=by
 obtain⟨⟨a,c,e⟩,hv⟩: ∃p,dF l=p:=⟨_,rfl⟩
 have hs:=iU l hF hn
 unfold kT at h
 rw[hv]at hs h
 dsimp only at hs h
 split at h
 · rename_i h0
   obtain⟨h0,h1⟩:=h0
   simp only[Option.some.injEq,Prod.mk.injEq]at h
   obtain⟨rfl,rfl⟩:=h
   subst h0
   refine K1.E 0x800fd Tryz.func82 ?_
   repeat' ((conv=>whnf);first|refine K1.w ?_|refine K1.u ?_|refine K1.P1 (hs) rfl ?_|refine aG.cO ?_|refine K1.z ?_|refine K1.y (fun _=> ?_) (fun _=> ?_)|fail)
   conv=>whnf
   exact aW.mk (aj.refl _)
 · cases h
theorem pY {n:Nat} {F:Nat→List AV} (l:List UInt8) (h:kT l=none) (hF:bF F l) (hn:n=l.length):aH Tryz.prog 82 [.sl 1 n true F] (.dM [.v (.int .i64 0),.v (.int .i64 0),.v (.bool false)]) []:=by
 obtain⟨⟨a,c,e⟩,hv⟩: ∃p,dF l=p:=⟨_,rfl⟩
 have hs:=iU l hF hn
 unfold kT at h
 rw[hv]at hs h
 dsimp only at hs h
 split at h
 · cases h
 · rename_i h0
   refine K1.E 0x800fd Tryz.func82 ?_
   repeat' ((conv=>whnf);first|refine K1.w ?_|refine K1.u ?_|refine K1.P1 (hs) rfl ?_|refine aG.cO ?_|refine K1.z ?_|refine K1.y (fun _=> ?_) (fun _=> ?_)|fail)
   all_goals(conv=>whnf)
   all_goals first
     |exact aW.mk (aj.refl _)
     |(exfalso;apply h0;constructor<;>omega)
def je (b:List UInt8):Nat→Option (List Ev×List UInt8)
  |0=>some ([],b)
  | j+1=>match je b j with
    |none=>none
    |some (l,r)=>if(ni r).2.2=0 then some (l++[(ni r).1],r.drop (ni r).2.1)else none
def Il:List UInt8→Option (List Ev)
  |[]=>none
  |c::r=>(je r c.toNat).map (·.1)
theorem nX {b:List UInt8}: ∀ {j:Nat} {l:List Ev} {r:List UInt8},je b j=some (l,r)→l.length=j∧r.length≤b.length
  | 0,l,r,h=>by
    simp only[je,Option.some.injEq,Prod.mk.injEq]at h
    obtain⟨rfl,rfl⟩:=h
    exact⟨rfl,Nat.le_refl _⟩
  | j + 1,l,r,h=>by
    unfold je at h
    cases h0:je b j with
    |none=>rw[h0]at h;cases h
    | some p=>
      obtain⟨l0,r0⟩:=p
      rw[h0]at h
      dsimp only at h
      have ih:=nX h0
      split at h
      · simp only[Option.some.injEq,Prod.mk.injEq]at h
        obtain⟨rfl,rfl⟩:=h
        refine⟨by simp[ih.1], ?_⟩
        rw[List.length_drop]
        omega
      · cases h
theorem qC {b:List UInt8} {j:Nat} {l:List Ev} {r:List UInt8} {e:Ev} {m:Nat} (h:je b j=some (l,r)) (ht:ni r=(e,m,0)):je b (j+1)=some (l++[e],r.drop m):=by
 unfold je
 rw[h]
 dsimp only
 rw[ht]
 rfl
theorem uJ {b:List UInt8} {j:Nat} {l:List Ev} {r:List UInt8} (h:je b j=some (l,r)) (ht:(ni r).2.2≠0):je b (j+1)=none:=by
 unfold je
 rw[h]
 dsimp only
 rw[if_neg ht]
theorem uK {b:List UInt8} {j:Nat} (h:je b j=none): ∀n,j≤n→je b n=none:=by
 intro n hn
 obtain⟨d,rfl⟩:=Nat.le.dest hn
 clear hn
 induction d with
 |zero=>exact h
 | succ d ih=>
   show je b (j+d+1)=none
   unfold je
   rw[ih]
theorem C1.adM {X:CX} {f:Nat→List AV} {u:Value} (h:C1 X (.v (.slice none 0 0)) u):C1 X (.sl 12 0 true f) u:=by
 have h:u= .slice none 0 0:=h
 subst h
 exact(show C0 X (.sl 12 0 true f) (.slice none 0 0)from .sl 12 0 true f none 0 [] (by omega) (Nat.le_refl _) (by simp[maxLen]) (by simp) (fun i hi=>absurd hi (Nat.not_lt_zero i)) (fun _ x hx=>by simp[flat]at hx) (fun i x u hx=>by simp[flat]at hx) (.inl rfl))
theorem aI.hd {R:AV→Value→Prop} {x y:AV} {xs:List AV} {us:List Value} (h:aI R (x::xs) us) (hi: ∀u,R x u→R y u):aI R (y::xs) us:=by
 rcases us with _|⟨u,us⟩
 · have:=h.1;simp at this
 · exact aI.cons (hi u (h.2 0 _ _ rfl rfl)) ⟨by have:=h.1;simpa using this,fun i a b ha hb=>h.2 (i+1) a b (by simpa using ha) (by simpa using hb)⟩
theorem aj.aaL {b:AV} (f:Nat→List AV):aj (.dM [.v (.slice none 0 0),b]) (.dM [.sl 12 0 true f,b]):=by
 rintro X u ⟨us,e,ha⟩
 exact⟨us,e,ha.hd fun u hu=>C1.adM hu⟩
def Io:Option (List Ev)→AV
  |none=> .dM [.v (.slice none 0 0),.v (.bool false)]
  |some l=> .dM [.sl 12 l.length true (dV l),.v (.bool true)]
theorem Gx {n m:Nat} {F G:Nat→List AV} (a b:List UInt8) (hF:bF F a) (hn:n=a.length) (hG:bF G b) (hm:m=b.length):aH Tryz.prog 46 [.sl 1 n true F,.sl 1 m true G] (.v (.bool (decide (a=b)))) []:=by
 refine K1.E 0x13 Tryz.func46 ?_
 repeat' ((conv=>whnf);first|refine K1.w ?_|refine K1.u ?_|refine Bs.of a hF hn ?_|refine Bs.of b hG hm ?_|refine aG.cO ?_|refine K1.z ?_|refine K1.y (fun _=> ?_) (fun _=> ?_)|fail)
 all_goals(conv=>whnf)
 all_goals(refine aW.mk (aj.of ?_))
 · have h:(⟨a.toArray⟩:ByteArray)=⟨b.toArray⟩:=by assumption
   have:a=b:=by simpa using h
   simp[this]
 · have h: ¬ (⟨a.toArray⟩:ByteArray)=⟨b.toArray⟩:=by assumption
   have: ¬a=b:=by simpa using h
   simp[this]
theorem YH (b:List UInt8) (hl:b.length≤1000000000):aH Tryz.prog 81 [.sl 1 b.length true (aX b)] (Io (Il b)) []:=by
 rcases b with _|⟨c,t⟩
 · show aH Tryz.prog 81 [.sl 1 0 true (aX [])] _ []
   refine K1.E 0x101c09fd Tryz.func81 ?_
   repeat' ((conv=>whnf);first|refine K1.w ?_|refine K1.u ?_|refine aG.cO ?_|refine K1.z ?_|refine K1.y (fun _=> ?_) (fun _=> ?_)|fail)
   all_goals(conv=>whnf)
   all_goals exact aW.mk (aj.refl _)
 · have hc:=UInt8.toNat_lt c
   rw[List.length_cons]at hl⊢
   refine K1.E 0x101c09fd Tryz.func81 ?_
   repeat' ((conv=>whnf);first|refine K1.w ?_|refine K1.u ?_|refine aG.cO ?_|refine K1.z ?_|refine K1.y (fun _=> ?_) (fun _=> ?_)|fail)
   conv=>whnf
   refine aJ.mk {p:Nat×List Ev×List UInt8//je t p.1=some p.2∧p.1≤c.toNat} (fun p=>match p with
     |⟨(0,_,r),_⟩=>⟨[(0,.sl 1 r.length true (aX r)),(4,.v (.slice none 0 0)),(18,.v (.int .i64 (c.toNat:Int))),(19,.v (.int .i64 0))],[],[],0⟩
     |⟨(i+1,l,r),_⟩=>⟨[(0,.sl 1 r.length true (aX r)),(4,.own 90),(18,.v (.int .i64 (c.toNat:Int))),(19,.v (.int .i64 ((i:Int)+1)))],[(90,.row 42 12 l.length true (dV l))],[],91⟩)
     (fun p=>c.toNat-p.1.1) ⟨(0,[],t),rfl,Nat.zero_le _⟩ _
     (dB.mk' [] _ _ _ rfl ⟨aj.pz (bF.drop (bF.bytes (c::t)) 1) (by simp),aj.refl _,aj.refl _,aj.int rfl,trivial⟩ trivial rfl) ?_
   rintro⟨⟨_|i,l,r⟩,hp,hj⟩
   · dsimp only at hp hj
     obtain⟨hl0,hr0⟩:=nX hp
     obtain rfl:l=[]:=List.eq_nil_of_length_eq_zero hl0
     have hz:c.toNat=0→Il (c::t)=some []:=fun h=>by show(je t c.toNat).map (·.1)=_;rw[h,hp];rfl
     rcases uI r with⟨e,m,ht,-,hm,-⟩|ht|ht
     · dsimp only
       repeat' ((conv=>whnf);first|refine K1.w ?_|refine K1.u ?_|refine K1.P1 (take_any r ht (bF.bytes r) rfl (by omega)) rfl ?_|refine aG.cO ?_|refine K1.z ?_|refine K1.y (fun _=> ?_) (fun _=> ?_)|fail)
       all_goals(conv=>whnf)
       · refine⟨⟨(0+1,[]++[e],r.drop m),qC hp ht,by omega⟩,_,dB.mk' [(2,90)] _ _ _ rfl ⟨aj.pz (bF.drop (bF.bytes r) m) (by simp),aj.refl _,aj.refl _,aj.int rfl,trivial⟩ ⟨⟨_,rfl,au.row rfl (fun i hi=> ?_)⟩,trivial⟩ rfl,by show c.toNat-(0+1)<c.toNat-0;omega⟩
         have hi:i<1:=hi
         obtain rfl:i=0:=by omega
         rfl
       · rw[hz (by omega)]
         exact aW.mk (aj.aaL _)
     all_goals
      have hno:0<c.toNat→Il (c::t)=none:=fun h=>by show(je t c.toNat).map (·.1)=_;rw[uK (uJ hp (by rw[ht];decide)) c.toNat (by omega)];rfl
      dsimp only
      repeat' ((conv=>whnf);first|refine K1.w ?_|refine K1.u ?_|refine K1.P1 (take_any r ht (bF.bytes r) rfl (by omega)) rfl ?_|refine aG.cO ?_|refine K1.z ?_|refine K1.y (fun _=> ?_) (fun _=> ?_)|fail)
      all_goals(conv=>whnf)
      · rw[hno (by omega)]
        exact aW.mk (aj.refl _)
      · rw[hz (by omega)]
        exact aW.mk (aj.aaL _)
   · dsimp only at hp hj
     obtain⟨hl0,hr0⟩:=nX hp
     have hz:c.toNat=i+1→Il (c::t)=some l:=fun h=>by show(je t c.toNat).map (·.1)=_;rw[h,hp];rfl
     rcases uI r with⟨e,m,ht,-,hm,-⟩|ht|ht
     · dsimp only
       repeat' ((conv=>whnf);first|refine K1.w ?_|refine K1.u ?_|refine K1.P1 (take_any r ht (bF.bytes r) rfl (by omega)) rfl ?_|refine aG.cO ?_|refine K1.z ?_|refine K1.y (fun _=> ?_) (fun _=> ?_)|fail)
       all_goals(conv=>whnf)
       · refine⟨⟨(i+1+1,l++[e],r.drop m),qC hp ht,by omega⟩,_,dB.mk' [(93,90)] _ _ _ rfl ⟨aj.pz (bF.drop (bF.bytes r) m) (by simp),aj.refl _,aj.refl _,aj.int rfl,trivial⟩ ⟨⟨_,rfl,au.row (by simp) (fun m hm=>bn (c:=Ev.cs) rfl rfl m hm)⟩,trivial⟩ rfl,by show c.toNat-(i+1+1)<c.toNat-(i+1);omega⟩
       · rw[hz (by omega)]
         exact aW.mk (aj.refl _)
     all_goals
      have hno:i+1<c.toNat→Il (c::t)=none:=fun h=>by show(je t c.toNat).map (·.1)=_;rw[uK (uJ hp (by rw[ht];decide)) c.toNat (by omega)];rfl
      dsimp only
      repeat' ((conv=>whnf);first|refine K1.w ?_|refine K1.u ?_|refine K1.P1 (take_any r ht (bF.bytes r) rfl (by omega)) rfl ?_|refine aG.cO ?_|refine K1.z ?_|refine K1.y (fun _=> ?_) (fun _=> ?_)|fail)
      all_goals(conv=>whnf)
      · rw[hno (by omega)]
        exact aW.mk (aj.refl _)
      · rw[hz (by omega)]
        exact aW.mk (aj.refl _)
theorem OO {n:Nat} {F:Nat→List AV} (b:List UInt8) (hF:bF F b) (hn:n=b.length) (hl:b.length≤1000000000):aH Tryz.prog 81 [.sl 1 n true F] (Io (Il b)) []:=
 (YH b hl).args (Ch.pz hF hn .nil)
end
section
open Go.RowKit
end
def zI (b:List UInt8):aZ×Bool:=
 match kT b with
 |none=>(⟨0,0,0,0,0⟩,false)
 | some (n0,k0)=>match kT (b.drop k0)with
   |none=>(⟨n0,0,0,0,0⟩,false)
   | some (n1,k1)=>match kT ((b.drop k0).drop k1)with
     |none=>(⟨n0,n1,0,0,0⟩,false)
     | some (n2,k2)=>match kT (((b.drop k0).drop k1).drop k2)with
       |none=>(⟨n0,n1,n2,0,0⟩,false)
       | some (n3,k3)=>match kT ((((b.drop k0).drop k1).drop k2).drop k3)with
         |none=>(⟨n0,n1,n2,n3,0⟩,false)
         |some (n4,_)=>(⟨n0,n1,n2,n3,n4⟩,true)
def YI:Rc:=⟨0,0,0,dX,[]⟩
def rdB (k r:Int) (t:List UInt8):Rc×Bool:=
 if k=1∨k=4 then(match Il t with|none=>(⟨k,r,0,dX,[]⟩,false)|some l=>(⟨k,r,0,dX,l⟩,true))
 else if k=2 then(match kT t with|none=>(⟨k,r,0,dX,[]⟩,false)|some (n,_)=>(⟨k,r,n,dX,[]⟩,true))
 else if k=3∨k=5 then(⟨k,r,0,(zI t).1,[]⟩,(zI t).2)
 else(⟨k,r,0,dX,[]⟩,false)
def jr (b:List UInt8):Rc×Bool:=
 if(dF b).2.2≠0∨b.length<(dF b).2.1+2 then(YI,false)
 else rdB ((b.getD (dF b).2.1 default).toNat:Int) ((b.getD ((dF b).2.1+1) default).toNat:Int) (b.drop ((dF b).2.1+2))
theorem nC {n:Nat} (h:n≤1048576) (t:List UInt8):kT (aB n++t)=some (n,(aB n).length):=by
 unfold kT
 rw[sZ n t (by omega),if_pos ⟨rfl,h⟩]
theorem Ci (l:List Ev) (h: ∀e∈l,eG e=0) (t:List UInt8): ∀j,j≤l.length→je (fQ l++t) j=some (l.take j,fQ (l.drop j)++t)
  |0,_=>by simp[je]
  | j+1,hj=>by
    have ih:=Ci l h t j (by omega)
    have e0:l.drop j=l[j]::l.drop (j+1):=List.drop_eq_getElem_cons (by omega)
    have e1:fQ (l.drop j)++t=aQ l[j]++(fQ (l.drop (j+1))++t):=by
     rw[e0]
     show aQ l[j]++fQ (l.drop (j+1))++t=_
     rw[List.append_assoc]
    have ht:=Vh l[j] (h _ (List.getElem_mem _)) (fQ (l.drop (j+1))++t)
    rw[←e1]at ht
    rw[qC ih ht,e1,List.drop_left]
    congr 2
    exact List.take_append_getElem (by omega)
theorem YJ (l:List Ev) (h: ∀e∈l,eG e=0) (hl:l.length≤255) (t:List UInt8):Il (UInt8.ofNat l.length::(fQ l++t))=some l:=by
 show(je (fQ l++t) (UInt8.ofNat l.length).toNat).map (·.1)=_
 rw[OJ (by omega),Ci l h t _ (Nat.le_refl _),List.take_length]
 rfl
theorem TL {c0 c1 c2 c3 c4:Nat} (h0:c0≤1048576) (h1:c1≤1048576) (h2:c2≤1048576) (h3:c3≤1048576) (h4:c4≤1048576) (t:List UInt8):
  zI (aB c0++(aB c1++(aB c2++(aB c3++(aB c4++t)))))=(⟨c0,c1,c2,c3,c4⟩,true):=by
 unfold zI
 rw[nC h0]
 dsimp only
 rw[List.drop_left,nC h1]
 dsimp only
 rw[List.drop_left,nC h2]
 dsimp only
 rw[List.drop_left,nC h3]
 dsimp only
 rw[List.drop_left,nC h4]
theorem Vj (x:Rc) (h:kE x=true) (n:Nat) (hn:n≤4294967296) (t:List UInt8):jr (aB n++(jV x++t))=(x,true):=by
 have m:=ng h
 obtain⟨k,r,u,⟨c0,c1,c2,c3,c4⟩,ev⟩:=x
 obtain⟨mk,mr,mu,wF,uQ,me0,⟨m0,m1,m2,m3,m4⟩,ml,LM,yF⟩:=m
 dsimp only at mk mr mu ml m0 m1 m2 m3 m4 wF uQ me0 yF LM
 have Gn:=AZ yF
 obtain⟨rest,hrest⟩: ∃rest,rest=(if wG k then UInt8.ofNat ev.length::fQ ev else [])++(if wH k then iL u else [])++(if wI k then zy ⟨c0,c1,c2,c3,c4⟩else [])++t:=⟨_,rfl⟩
 have hb:aB n++(jV ⟨k,r,u,⟨c0,c1,c2,c3,c4⟩,ev⟩++t)=aB n++([byteOf k,byteOf r]++rest):=by
  rw[hrest];simp[jV]
 have g0:((aB n++([byteOf k,byteOf r]++rest)).getD (aB n).length default)=byteOf k:=by
  rw[List.getD,List.getElem?_append_right (Nat.le_refl _),Nat.sub_self];rfl
 have g1:((aB n++([byteOf k,byteOf r]++rest)).getD ((aB n).length+1) default)=byteOf r:=by
  rw[List.getD,List.getElem?_append_right (by omega),Nat.add_sub_cancel_left];rfl
 have g2:(aB n++([byteOf k,byteOf r]++rest)).drop ((aB n).length+2)=rest:=by
  rw[←List.drop_drop,List.drop_left];rfl
 rw[hb]
 unfold jr
 rw[sZ n _ hn]
 rw[if_neg (by simp)]
 dsimp only
 rw[g0,g1,g2,fM (by omega) (by omega),fM (by omega) (by omega)]
 clear g0 g1 g2 hb
 unfold rdB
 rcases(show(k=1∨k=4)∨k=2∨(k=3∨k=5) by omega)with hk|hk|hk
 · have hU:wH k=false:=by simp[wH];omega
   have hC:wI k=false:=by simp[wI];omega
   have hE:wG k=true:=by simp[wG];omega
   rw[hU]at wF hrest;rw[hC]at uQ hrest;rw[hE]at hrest
   simp only[Bool.false_eq_true,false_or]at wF uQ
   rw[if_pos hk,hrest]
   simp only[if_true,Bool.false_eq_true,if_false,List.append_nil,List.cons_append]
   rw[YJ ev (pJ Gn) (by omega)]
   rw[wF,uQ]
 · have hU:wH k=true:=by simp[wH];omega
   have hC:wI k=false:=by simp[wI];omega
   have hE:wG k=false:=by simp[wG];omega
   rw[hU]at hrest;rw[hC]at uQ hrest;rw[hE]at me0 hrest
   simp only[Bool.false_eq_true,false_or]at me0 uQ
   obtain⟨un,rfl,hun⟩:=fU mu
   rw[if_neg (by omega),if_pos hk,hrest]
   simp only[if_true,Bool.false_eq_true,if_false,List.append_nil,List.nil_append]
   rw[dO,nC hun]
   dsimp only
   rw[List.eq_nil_of_length_eq_zero me0,uQ]
 · have hU:wH k=false:=by simp[wH];omega
   have hC:wI k=true:=by simp[wI];omega
   have hE:wG k=false:=by simp[wG];omega
   rw[hU]at wF hrest;rw[hC]at hrest;rw[hE]at me0 hrest
   simp only[Bool.false_eq_true,false_or]at wF me0
   obtain⟨c0,rfl,hc0⟩:=fU m0
   obtain⟨c1,rfl,hc1⟩:=fU m1
   obtain⟨c2,rfl,hc2⟩:=fU m2
   obtain⟨c3,rfl,hc3⟩:=fU m3
   obtain⟨c4,rfl,hc4⟩:=fU m4
   rw[if_neg (by omega),if_neg (by omega),if_pos hk,hrest]
   simp only[if_true,Bool.false_eq_true,if_false,List.append_nil,List.nil_append,zy,dO,List.append_assoc]
   rw[TL hc0 hc1 hc2 hc3 hc4]
   dsimp only
   rw[List.eq_nil_of_length_eq_zero me0,wF]
instance (l:List UInt8):Decidable (rX l):=inferInstanceAs (Decidable (_∧_))
def inner (l:List UInt8):List UInt8:=l.take (l.length-4)
theorem zA (m:List UInt8):inner (eP m)=m:=by
 unfold inner
 rw[dY,Nat.add_sub_cancel]
 simp[eP]
theorem TM (m:List UInt8):rX (eP m):=by
 refine⟨by rw[dY];omega, ?_⟩
 have:=zA m
 unfold inner at this
 rw[this]
theorem A8 {l:List UInt8} (h:rX l):l=eP (inner l):=h.2
def Dj (l:List UInt8):Rc×Int:=
 if 2048<l.length then(YI,5)else if rX l then
  if(jr (inner l)).2=true∧kE (jr (inner l)).1=true∧dS (jr (inner l)).1=l then((jr (inner l)).1,0)else(YI,3)
 else(YI,4)
theorem Gy (x:Rc) (h:kE x=true):2≤(jV x).length∧(jV x).length≤1000:=by
 have m:=ng h
 have hv (n:Nat):(aB n).length≤10:=bQ 9 _
 have Vk (n:Int):(iL n).length≤10:=hv _
 have he:=sV (pJ (AZ m.ev))
 have hl:=m.l
 have e1:(jV x).length=2+(if wG x.k then 1+(fQ x.ev).length else 0)+(if wH x.k then(iL x.u).length else 0)+(if wI x.k then(zy x.c).length else 0):=by
  unfold jV
  simp only[List.length_append]
  congr 1
  · congr 1
    · congr 1
      split<;>simp
      omega
    · split<;>rfl
  · split<;>rfl
 have hc:(zy x.c).length≤50:=by
  have:=Vk x.c.c0;have:=Vk x.c.c1;have:=Vk x.c.c2;have:=Vk x.c.c3;have:=Vk x.c.c4
  unfold zy
  simp only[List.length_append]
  omega
 have:=Vk x.u
 rw[e1]
 refine⟨by omega, ?_⟩
 split<;>split<;>split<;>omega
theorem OQ (x:Rc) (h:kE x=true):(dS x).length≤2048:=by
 have:=Gy x h
 have hv:(aB (jV x).length).length≤10:=bQ 9 _
 unfold dS
 rw[dY,List.length_append]
 omega
theorem Vl (x:Rc) (h:kE x=true):Dj (dS x)=(x,0):=by
 have hb:=Gy x h
 have hr:=Vj x h (jV x).length (by omega) []
 rw[List.append_nil]at hr
 have hi:inner (dS x)=aB (jV x).length++jV x:=zA _
 have ho:rX (dS x):=TM _
 unfold Dj
 rw[if_neg (by have:=OQ x h;omega),if_pos ho,hi,hr,if_pos ⟨rfl,h,rfl⟩]
section
open Go.RowKit
theorem aj.gX {a1 a2 a3 a4 a5 a6 a7 a8 b:AV} (f:Nat→List AV):aj (.dM [.agg [a1,a2,a3,a4,a5,a6,a7,a8,.v (.slice none 0 0)],b]) (.dM [.agg [a1,a2,a3,a4,a5,a6,a7,a8,.sl 12 0 true f],b]):=by
 rintro X u ⟨us,e,ha⟩
 exact⟨us,e,ha.hd fun u hu=>C1.AY hu⟩
theorem uM {b:List UInt8} {m k:Nat} (h:kT b=some (m,k)):k≤b.length∧m≤1048576:=by
 have hle:=wu b
 unfold kT at h
 split at h
 · rename_i h0
   simp only[Option.some.injEq,Prod.mk.injEq]at h
   omega
 · cases h
theorem aH.res {P:Program} {f:FuncId} {bP:List AV} {r r':AV} {h:List (Nat×AO)} (hs:aH P f bP r h) (hr:aj r r'):aH P f bP r' h:=
 ⟨hs.1,fun w keep args hk ha=>(hs.2 w keep args hk ha).mono fun _ _ ⟨u,ρ,h1,h2,h3,h4⟩=>⟨u,ρ,h1,h2,hr _ _ h3,h4⟩⟩
end
instance:Inhabited Rc:=⟨YI⟩
def nD (b:List UInt8):Option (List Ev):=match kT b with
  |none=>none
  |some (m,k)=>if 4096<m then none else(je (b.drop k) m).map (·.1)
def aaM (k r:Int) (t:List UInt8):Rc×Bool:=match kT t with
  |none=>(⟨k,r,0,dX,[]⟩,false)
  |some (n,_)=>(⟨k,r,n,dX,[]⟩,true)
def OT (k r u:Int) (t:List UInt8):Rc×Bool:=match nD t with
  |none=>(⟨k,r,u,dX,[]⟩,false)
  |some l=>(⟨k,r,u,dX,l⟩,true)
def rdR (k r:Int) (t:List UInt8):Rc×Bool:=
 if k=1∨k=2∨k=5 then OT k r 0 t
 else if k=3 then aaM k r t
 else if k=4 then(match kT t with|none=>(⟨k,r,0,dX,[]⟩,false)|some (n,j)=>OT k r n (t.drop j))
 else if k=6 then(⟨k,r,0,(zI t).1,[]⟩,(zI t).2)
 else(⟨k,r,0,dX,[]⟩,false)
def jH (b:List UInt8):Rc×Bool:=
 if b.length<2 then(YI,false)else rdR ((b.getD 0 default).toNat:Int) ((b.getD 1 default).toNat:Int) (b.drop 2)
theorem JE (l:List Ev) (h: ∀e∈l,eG e=0) (hl:l.length≤4096) (t:List UInt8):nD (aB l.length++(fQ l++t))=some l:=by
 unfold nD
 rw[nC (by omega)]
 dsimp only
 rw[if_neg (by omega),List.drop_left,Ci l h t _ (Nat.le_refl _),List.take_length]
 rfl
theorem Vm (x:Rc) (h:mX x=true) (t:List UInt8):jH (fK x++t)=(x,true):=by
 have m:=uG h
 obtain⟨k,r,u,⟨c0,c1,c2,c3,c4⟩,ev⟩:=x
 obtain⟨mk,mr,mu,ml,⟨m0,m1,m2,m3,m4⟩,wF,uQ,me0,Gn,LM⟩:=m
 dsimp only at mk mr mu ml m0 m1 m2 m3 m4 wF uQ me0 Gn LM
 obtain⟨rest,hrest⟩: ∃rest,rest=(if Gg k then iL u else [])++(if Gi k then zy ⟨c0,c1,c2,c3,c4⟩else [])++(if Gh k then aB ev.length++fQ ev else [])++t:=⟨_,rfl⟩
 have hb:fK ⟨k,r,u,⟨c0,c1,c2,c3,c4⟩,ev⟩++t=byteOf k::byteOf r::rest:=by
  rw[hrest];simp[fK]
 rw[hb]
 unfold jH
 rw[if_neg (by simp)]
 rw[show(byteOf k::byteOf r::rest).getD 0 default=byteOf k from rfl,show(byteOf k::byteOf r::rest).getD 1 default=byteOf r from rfl,show(byteOf k::byteOf r::rest).drop 2=rest from rfl,fM (by omega) (by omega),fM (by omega) (by omega)]
 clear hb
 unfold rdR
 rcases(show(k=1∨k=2∨k=5)∨k=3∨k=4∨k=6 by omega)with hk|hk|hk|hk
 · have hU:Gg k=false:=by simp[Gg];omega
   have hC:Gi k=false:=by simp[Gi];omega
   have hE:Gh k=true:=by simp[Gh];omega
   rw[hU]at wF hrest;rw[hC]at uQ hrest;rw[hE]at hrest
   simp only[Bool.false_eq_true,false_or]at wF uQ
   rw[if_pos hk,hrest]
   simp only[if_true,Bool.false_eq_true,if_false,List.nil_append,List.append_assoc]
   unfold OT
   rw[JE ev (pJ Gn) ml t]
   dsimp only
   rw[wF,uQ]
 · have hU:Gg k=true:=by simp[Gg];omega
   have hC:Gi k=false:=by simp[Gi];omega
   have hE:Gh k=false:=by simp[Gh];omega
   rw[hU]at hrest;rw[hC]at uQ hrest;rw[hE]at me0 hrest
   simp only[Bool.false_eq_true,false_or]at me0 uQ
   obtain⟨un,rfl,hun⟩:=fU mu
   rw[if_neg (by omega),if_pos hk,hrest]
   simp only[if_true,Bool.false_eq_true,if_false,List.append_nil]
   unfold aaM
   rw[dO,nC hun]
   dsimp only
   rw[List.eq_nil_of_length_eq_zero me0,uQ]
 · have hU:Gg k=true:=by simp[Gg];omega
   have hC:Gi k=false:=by simp[Gi];omega
   have hE:Gh k=true:=by simp[Gh];omega
   rw[hU]at hrest;rw[hC]at uQ hrest;rw[hE]at hrest
   simp only[Bool.false_eq_true,false_or]at uQ
   obtain⟨un,rfl,hun⟩:=fU mu
   rw[if_neg (by omega),if_neg (by omega),if_pos hk,hrest]
   simp only[if_true,Bool.false_eq_true,if_false,List.append_nil,List.append_assoc]
   rw[dO,nC hun]
   dsimp only
   rw[List.drop_left]
   unfold OT
   rw[JE ev (pJ Gn) ml t]
   dsimp only
   rw[uQ]
 · have hU:Gg k=false:=by simp[Gg];omega
   have hC:Gi k=true:=by simp[Gi];omega
   have hE:Gh k=false:=by simp[Gh];omega
   rw[hU]at wF hrest;rw[hC]at hrest;rw[hE]at me0 hrest
   simp only[Bool.false_eq_true,false_or]at wF me0
   obtain⟨c0,rfl,hc0⟩:=fU m0
   obtain⟨c1,rfl,hc1⟩:=fU m1
   obtain⟨c2,rfl,hc2⟩:=fU m2
   obtain⟨c3,rfl,hc3⟩:=fU m3
   obtain⟨c4,rfl,hc4⟩:=fU m4
   rw[if_neg (by omega),if_neg (by omega),if_neg (by omega),if_pos hk,hrest]
   simp only[if_true,Bool.false_eq_true,if_false,List.nil_append,zy,dO,List.append_assoc]
   rw[TL hc0 hc1 hc2 hc3 hc4]
   dsimp only
   rw[List.eq_nil_of_length_eq_zero me0,wF]
def nY (b:List UInt8):Option (Rc×Nat):=
 if(dF b).2.2≠0∨b.length-(dF b).2.1<(dF b).1 then none
 else if rX ((b.drop (dF b).2.1).take (dF b).1)then
  if(jH (inner ((b.drop (dF b).2.1).take (dF b).1))).2=true∧mX (jH (inner ((b.drop (dF b).2.1).take (dF b).1))).1=true∧aS (jH (inner ((b.drop (dF b).2.1).take (dF b).1))).1=b.take ((dF b).2.1+(dF b).1)
  then some ((jH (inner ((b.drop (dF b).2.1).take (dF b).1))).1,(dF b).2.1+(dF b).1)else none
 else none
theorem zB (x:Rc) (h:mX x=true):2≤(fK x).length∧(fK x).length≤200000:=by
 have m:=uG h
 have hv (n:Nat):(aB n).length≤10:=bQ 9 _
 have Vk (n:Int):(iL n).length≤10:=hv _
 have he:=sV (pJ m.ev)
 have hl:=m.l
 have e1:(fK x).length=2+(if Gg x.k then(iL x.u).length else 0)+(if Gi x.k then(zy x.c).length else 0)+(if Gh x.k then(aB x.ev.length).length+(fQ x.ev).length else 0):=by
  unfold fK
  simp only[List.length_append]
  congr 1
  · congr 1
    · congr 1
      split<;>rfl
    · split<;>rfl
  · split
    · rw[List.length_append]
    · rfl
 have hc:(zy x.c).length≤50:=by
  have:=Vk x.c.c0;have:=Vk x.c.c1;have:=Vk x.c.c2;have:=Vk x.c.c3;have:=Vk x.c.c4
  unfold zy
  simp only[List.length_append]
  omega
 have:=Vk x.u
 have:=hv x.ev.length
 rw[e1]
 refine⟨by omega, ?_⟩
 split<;>split<;>split<;>omega
theorem qZ (x:Rc) (h:mX x=true):(aS x).length≤200100:=by
 have:=zB x h
 have hv:(aB (eP (fK x)).length).length≤10:=bQ 9 _
 unfold aS
 rw[List.length_append,dY]
 rw[dY]at hv
 omega
theorem QX (x:Rc) (h:mX x=true) (t:List UInt8):nY (aS x++t)=some (x,(aS x).length):=by
 have hb:=zB x h
 have hs:=dY (fK x)
 have hr:=Vm x h []
 rw[List.append_nil]at hr
 have e:aS x++t=aB (eP (fK x)).length++(eP (fK x)++t):=by unfold aS;rw[List.append_assoc]
 have hv:=sZ (eP (fK x)).length (eP (fK x)++t) (by omega)
 have hl:(aS x).length=(aB (eP (fK x)).length).length+(eP (fK x)).length:=by unfold aS;rw[List.length_append]
 unfold nY
 rw[e,hv,List.drop_left,List.take_left,if_neg (by simp),if_pos (TM _),zA,hr,if_pos ⟨rfl,h,by rw[←e,←hl,List.take_left]⟩,hl]
def lq (l:List Rc):List UInt8:=l.flatMap aS
structure Gz (b:List UInt8) (l:List Rc) (t:List UInt8):Prop where
 may: ∀r∈l,mX r=true
 eq:b=lq l++t
 no:nY t=none
theorem JF (l:List Rc) (x:Rc):lq (l++[x])=lq l++aS x:=by simp[lq]
theorem Vo {b:List UInt8} {l:List Rc} {t:List UInt8} (h:Gz b l t) (j:Nat) (hj:j<l.length):nY (b.drop (lq (l.take j)).length)=some (l.getD j default,(aS (l.getD j default)).length):=by
 have e:l=l.take j++l.getD j default::l.drop (j+1):=by
  rw[List.getD,List.getElem?_eq_getElem hj]
  simp
 have e2:b=lq (l.take j)++(aS (l.getD j default)++(lq (l.drop (j+1))++t)):=by
  rw[h.eq]
  conv=>lhs;rw[e]
  simp[lq]
 rw[e2,List.drop_left]
 refine QX _ (h.may _ ?_) _
 rw[List.getD,List.getElem?_eq_getElem hj]
 exact List.getElem_mem hj
theorem YK {b:List UInt8} {l:List Rc} {t:List UInt8} (h:Gz b l t):nY (b.drop (lq l).length)=none:=by
 rw[h.eq,List.drop_left]
 exact h.no
theorem Vp {l:List Rc} {j:Nat} (hj:j<l.length):lq (l.take (j+1))=lq (l.take j)++aS (l.getD j default):=by
 have:l.take (j+1)=l.take j++[l.getD j default]:=by
  rw[List.getD,List.getElem?_eq_getElem hj]
  simp
 rw[this,JF]
section
open Go.RowKit
theorem aj.dM {xs ys:List AV} (h:Ch xs ys):aj (.dM xs) (.dM ys):=fun _ _ ⟨us,e,ha⟩=>⟨us,e,h.all ha⟩
theorem ru {n:Nat} {F:Nat→List AV} (l:List UInt8) {m k:Nat} (h:kT l=some (m,k)) (hF:bF F l) (hn:n=l.length):aH Tryz.prog 165 [.sl 1 n true F] (.dM [.v (.int .i64 (m:Int)),.sl 1 (l.drop k).length true (aX (l.drop k)),.v (.bool true)]) []:=by
 have hle:=uM h
 obtain⟨⟨a,c,e⟩,hv⟩: ∃p,dF l=p:=⟨_,rfl⟩
 have hs:=iU l hF hn
 unfold kT at h
 rw[hv]at hs h
 dsimp only at hs h
 split at h
 · rename_i h0
   obtain⟨h0,h1⟩:=h0
   simp only[Option.some.injEq,Prod.mk.injEq]at h
   obtain⟨rfl,rfl⟩:=h
   subst h0
   refine K1.E 0x800fd Tryz.func165 ?_
   repeat' ((conv=>whnf);first|refine K1.w ?_|refine K1.u ?_|refine K1.P1 (hs) rfl ?_|refine aG.cO ?_|refine K1.o (id:=4) [(0,none),(1,none),(2,none),(3,none),(4,none),(5,none),(6,none),(7,none)] [] ?_|refine K1.z ?_|refine K1.y (fun _=> ?_) (fun _=> ?_)|fail)
   conv=>whnf
   exact aW.mk (aj.dM (.same (.pz (bF.drop hF _) (by simp[hn]) (.same .nil))))
 · cases h
theorem rC {n:Nat} {F:Nat→List AV} (l:List UInt8) (h:kT l=none) (hF:bF F l) (hn:n=l.length):aH Tryz.prog 165 [.sl 1 n true F] (.dM [.v (.int .i64 0),.v (.slice none 0 0),.v (.bool false)]) []:=by
 obtain⟨⟨a,c,e⟩,hv⟩: ∃p,dF l=p:=⟨_,rfl⟩
 have hs:=iU l hF hn
 unfold kT at h
 rw[hv]at hs h
 dsimp only at hs h
 split at h
 · cases h
 · rename_i h0
   refine K1.E 0x800fd Tryz.func165 ?_
   repeat' ((conv=>whnf);first|refine K1.w ?_|refine K1.u ?_|refine K1.P1 (hs) rfl ?_|refine aG.cO ?_|refine K1.o (id:=4) [(0,none),(1,none),(2,none),(3,none),(4,none),(5,none),(6,none),(7,none)] [] ?_|refine K1.z ?_|refine K1.y (fun _=> ?_) (fun _=> ?_)|fail)
   all_goals(conv=>whnf)
   all_goals first
     |exact aW.mk (aj.refl _)
     |(exfalso;apply h0;constructor<;>omega)
theorem aaN (b:List UInt8) (hl:b.length≤1000000000):aH Tryz.prog 166 [.sl 1 b.length true (aX b)] (Io (nD b)) []:=by
 cases hN:kT b with
 | none=>
   have hnum:=rC b hN (bF.bytes b) rfl
   rw[show nD b=none by unfold nD;rw[hN]]
   refine K1.E 0x101e003fd Tryz.func166 ?_
   repeat' ((conv=>whnf);first|refine K1.w ?_|refine K1.u ?_|refine K1.P1 (hnum) rfl ?_|refine aG.cO ?_|refine K1.o (id:=10) [(0,none),(1,none),(4,none),(5,none),(6,none),(2,some [1]),(3,some [1]),(7,none),(8,none)] [(2,[1]),(3,[1]),(7,[1]),(8,[1])] ?_|refine K1.z ?_|refine K1.y (fun _=> ?_) (fun _=> ?_)|fail)
   all_goals(conv=>whnf)
   all_goals exact aW.mk (aj.refl _)
 | some p =>
   obtain⟨c,k⟩:=p
   have hnum:=ru b hN (bF.bytes b) rfl
   have hle:=uM hN
   have hdl:(b.drop k).length≤b.length:=by rw[List.length_drop];omega
   by_cases hc:4096<c
   · rw[show nD b=none by unfold nD;rw[hN];dsimp only;rw[if_pos hc]]
     refine K1.E 0x101e003fd Tryz.func166 ?_
     repeat' ((conv=>whnf);first|refine K1.w ?_|refine K1.u ?_|refine K1.P1 (hnum) rfl ?_|refine aG.cO ?_|refine K1.o (id:=10) [(0,none),(1,none),(4,none),(5,none),(6,none),(2,some [1]),(3,some [1]),(7,none),(8,none)] [(2,[1]),(3,[1]),(7,[1]),(8,[1])] ?_|refine K1.z ?_|refine K1.y (fun _=> ?_) (fun _=> ?_)|fail)
     all_goals(conv=>whnf)
     all_goals exact aW.mk (aj.refl _)
   · have hlf:nD b=(je (b.drop k) c).map (·.1):=by unfold nD;rw[hN];dsimp only;rw[if_neg hc]
     generalize b.drop k=t at hnum hdl hlf
     refine K1.E 0x101e003fd Tryz.func166 ?_
     repeat' ((conv=>whnf);first|refine K1.w ?_|refine K1.u ?_|refine K1.P1 (hnum) rfl ?_|refine aG.cO ?_|refine K1.o (id:=10) [(0,none),(1,none),(4,none),(5,none),(6,none),(2,some [1]),(3,some [1]),(7,none),(8,none)] [(2,[1]),(3,[1]),(7,[1]),(8,[1])] ?_|refine K1.z ?_|refine K1.y (fun _=> ?_) (fun _=> ?_)|fail)
     conv=>whnf
     refine aJ.mk {p:Nat×List Ev×List UInt8//je t p.1=some p.2∧p.1≤c} (fun p=>match p with
       |⟨(0,_,r),_⟩=>⟨[(0,.sl 1 r.length true (aX r)),(6,.v (.slice none 0 0)),(22,.v (.int .i64 (c:Int))),(23,.v (.int .i64 0))],[],[],0⟩
       |⟨(i+1,l,r),_⟩=>⟨[(0,.sl 1 r.length true (aX r)),(6,.own 90),(22,.v (.int .i64 (c:Int))),(23,.v (.int .i64 ((i:Int)+1)))],[(90,.row 42 12 l.length true (dV l))],[],91⟩)
       (fun p=>c-p.1.1) ⟨(0,[],t),rfl,Nat.zero_le _⟩ _
       (dB.mk' [] _ _ _ rfl ⟨aj.refl _,aj.refl _,aj.refl _,aj.int rfl,trivial⟩ trivial rfl) ?_
     rintro⟨⟨_|i,l,r⟩,hp,hj⟩
     · dsimp only at hp hj
       obtain⟨hl0,hr0⟩:=nX hp
       obtain rfl:l=[]:=List.eq_nil_of_length_eq_zero hl0
       have hz:c=0→nD b=some []:=fun h=>by rw[hlf,h,hp];rfl
       rcases uI r with⟨e,m,ht,-,hm,-⟩|ht|ht
       · dsimp only
         repeat' ((conv=>whnf);first|refine K1.w ?_|refine K1.u ?_|refine K1.P1 (take_any r ht (bF.bytes r) rfl (by omega)) rfl ?_|refine aG.cO ?_|refine K1.o (id:=10) [(0,none),(1,none),(4,none),(5,none),(6,none),(2,some [1]),(3,some [1]),(7,none),(8,none)] [(2,[1]),(3,[1]),(7,[1]),(8,[1])] ?_|refine K1.z ?_|refine K1.y (fun _=> ?_) (fun _=> ?_)|fail)
         all_goals(conv=>whnf)
         · refine⟨⟨(0+1,[]++[e],r.drop m),qC hp ht,by omega⟩,_,dB.mk' [(2,90)] _ _ _ rfl ⟨aj.pz (bF.drop (bF.bytes r) m) (by simp),aj.refl _,aj.refl _,aj.int rfl,trivial⟩ ⟨⟨_,rfl,au.row rfl (fun i hi=> ?_)⟩,trivial⟩ rfl,by show c-(0+1)<c-0;omega⟩
           have hi:i<1:=hi
           obtain rfl:i=0:=by omega
           rfl
         · rw[hz (by omega)]
           exact aW.mk (aj.aaL _)
       all_goals
        have hno:0<c→nD b=none:=fun h=>by rw[hlf,uK (uJ hp (by rw[ht];decide)) c (by omega)];rfl
        dsimp only
        repeat' ((conv=>whnf);first|refine K1.w ?_|refine K1.u ?_|refine K1.P1 (take_any r ht (bF.bytes r) rfl (by omega)) rfl ?_|refine aG.cO ?_|refine K1.o (id:=10) [(0,none),(1,none),(4,none),(5,none),(6,none),(2,some [1]),(3,some [1]),(7,none),(8,none)] [(2,[1]),(3,[1]),(7,[1]),(8,[1])] ?_|refine K1.z ?_|refine K1.y (fun _=> ?_) (fun _=> ?_)|fail)
        all_goals(conv=>whnf)
        · rw[hno (by omega)]
          exact aW.mk (aj.refl _)
        · rw[hz (by omega)]
          exact aW.mk (aj.aaL _)
     · dsimp only at hp hj
       obtain⟨hl0,hr0⟩:=nX hp
       have hz:c=i+1→nD b=some l:=fun h=>by rw[hlf,h,hp];rfl
       rcases uI r with⟨e,m,ht,-,hm,-⟩|ht|ht
       · dsimp only
         repeat' ((conv=>whnf);first|refine K1.w ?_|refine K1.u ?_|refine K1.P1 (take_any r ht (bF.bytes r) rfl (by omega)) rfl ?_|refine aG.cO ?_|refine K1.o (id:=10) [(0,none),(1,none),(4,none),(5,none),(6,none),(2,some [1]),(3,some [1]),(7,none),(8,none)] [(2,[1]),(3,[1]),(7,[1]),(8,[1])] ?_|refine K1.z ?_|refine K1.y (fun _=> ?_) (fun _=> ?_)|fail)
         all_goals(conv=>whnf)
         · refine⟨⟨(i+1+1,l++[e],r.drop m),qC hp ht,by omega⟩,_,dB.mk' [(93,90)] _ _ _ rfl ⟨aj.pz (bF.drop (bF.bytes r) m) (by simp),aj.refl _,aj.refl _,aj.int rfl,trivial⟩ ⟨⟨_,rfl,au.row (by simp) (fun m hm=>bn (c:=Ev.cs) rfl rfl m hm)⟩,trivial⟩ rfl,by show c-(i+1+1)<c-(i+1);omega⟩
         · rw[hz (by omega)]
           exact aW.mk (aj.refl _)
       all_goals
        have hno:i+1<c→nD b=none:=fun h=>by rw[hlf,uK (uJ hp (by rw[ht];decide)) c (by omega)];rfl
        dsimp only
        repeat' ((conv=>whnf);first|refine K1.w ?_|refine K1.u ?_|refine K1.P1 (take_any r ht (bF.bytes r) rfl (by omega)) rfl ?_|refine aG.cO ?_|refine K1.o (id:=10) [(0,none),(1,none),(4,none),(5,none),(6,none),(2,some [1]),(3,some [1]),(7,none),(8,none)] [(2,[1]),(3,[1]),(7,[1]),(8,[1])] ?_|refine K1.z ?_|refine K1.y (fun _=> ?_) (fun _=> ?_)|fail)
        all_goals(conv=>whnf)
        · rw[hno (by omega)]
          exact aW.mk (aj.refl _)
        · rw[hz (by omega)]
          exact aW.mk (aj.refl _)
theorem GH {n:Nat} {F:Nat→List AV} (b:List UInt8) (hF:bF F b) (hn:n=b.length) (hl:b.length≤1000000000):aH Tryz.prog 166 [.sl 1 n true F] (Io (nD b)) []:=
 (aaN b hl).args (Ch.pz hF hn .nil)
theorem OU (k:Int) (h:k=1∨k=2∨k=5):aH Tryz.prog 127 [.v (.int .i64 k)] (.dM [.v (.bool false),.v (.bool true),.v (.bool false),.v (.bool true)]) []:=by
 have:=gK k
 rcases h with rfl|rfl|rfl<;>exact this
theorem OV (k:Int) (h:k=3):aH Tryz.prog 127 [.v (.int .i64 k)] (.dM [.v (.bool true),.v (.bool false),.v (.bool false),.v (.bool true)]) []:=by
 have:=gK k
 rcases h with rfl;exact this
theorem Cj (k:Int) (h:k=4):aH Tryz.prog 127 [.v (.int .i64 k)] (.dM [.v (.bool true),.v (.bool true),.v (.bool false),.v (.bool true)]) []:=by
 have:=gK k
 rcases h with rfl;exact this
theorem tu (k:Int) (h:k=6):aH Tryz.prog 127 [.v (.int .i64 k)] (.dM [.v (.bool false),.v (.bool false),.v (.bool true),.v (.bool true)]) []:=by
 have:=gK k
 rcases h with rfl;exact this
theorem wO {b:List UInt8} (hu:2≤b.length):jH b=rdR ((b.getD 0 default).toNat:Int) ((b.getD 1 default).toNat:Int) (b.drop 2):=by
 unfold jH
 rw[if_neg (by omega)]
theorem YL (b:List UInt8) (hl:b.length≤1000000000) (h:b.length<2):
  aH Tryz.prog 134 [.sl 1 b.length true (aX b)] (.dM [(jH b).1.av,.v (.bool (jH b).2)]) []:=by
 rw[show jH b=(YI,false) by unfold jH;rw[if_pos h]]
 dsimp only[Rc.av,Rc.cs]
 refine K1.E 0x200042020000027fd Tryz.func134 ?_
 repeat' ((conv=>whnf);first|refine K1.w ?_|refine K1.u ?_|refine aJ.rP 10 6 rfl ?_|refine aG.cO ?_|refine K1.o (id:=3) [(0,none),(1,none),(2,none),(3,none),(4,none),(5,none),(6,none),(7,none),(8,none),(9,some []),(10,some [7,6,3,2])] [(3,[2]),(7,[6]),(8,[7,6,3,2]),(9,[]),(10,[7,6,3,2])] ?_|refine K1.z ?_|refine K1.y (fun _=> ?_) (fun _=> ?_)|fail)
 all_goals(conv=>whnf)
 all_goals exact aW.mk (aj.gX _)
theorem QY (b:List UInt8) (hl:b.length≤1000000000) (hu:2≤b.length) (hk: ¬ (((b.getD 0 default).toNat:Int)=1∨((b.getD 0 default).toNat:Int)=2∨((b.getD 0 default).toNat:Int)=5)∧ ¬ ((b.getD 0 default).toNat:Int)=3∧ ¬ ((b.getD 0 default).toNat:Int)=4∧ ¬ ((b.getD 0 default).toNat:Int)=6):
  aH Tryz.prog 134 [.sl 1 b.length true (aX b)] (.dM [(jH b).1.av,.v (.bool (jH b).2)]) []:=by
 rw[wO hu]
 unfold rdR
 rw[if_neg hk.1,if_neg hk.2.1,if_neg hk.2.2.1,if_neg hk.2.2.2]
 have hf:=Di ((b.getD 0 default).toNat:Int) (by omega)
 dsimp only[Rc.av,Rc.cs]
 refine K1.E 0x200042020000027fd Tryz.func134 ?_
 repeat' ((conv=>whnf);first|refine K1.w ?_|refine K1.u ?_|refine K1.P1 (hf) rfl ?_|refine aJ.rP 10 6 rfl ?_|refine aG.cO ?_|refine K1.o (id:=3) [(0,none),(1,none),(2,none),(3,none),(4,none),(5,none),(6,none),(7,none),(8,none),(9,some []),(10,some [7,6,3,2])] [(3,[2]),(7,[6]),(8,[7,6,3,2]),(9,[]),(10,[7,6,3,2])] ?_|refine K1.z ?_|refine K1.y (fun _=> ?_) (fun _=> ?_)|fail)
 all_goals(conv=>whnf)
 all_goals exact aW.mk (aj.gX _)
theorem aaO (b:List UInt8) (hl:b.length≤1000000000) (hu:2≤b.length) (hk:((b.getD 0 default).toNat:Int)=1∨((b.getD 0 default).toNat:Int)=2∨((b.getD 0 default).toNat:Int)=5):
  aH Tryz.prog 134 [.sl 1 b.length true (aX b)] (.dM [(jH b).1.av,.v (.bool (jH b).2)]) []:=by
 rw[wO hu]
 unfold rdR
 rw[if_pos hk]
 unfold OT
 have he:=GH (n:=b.length-2) (b.drop 2) (bF.drop (bF.bytes b) 2) (by simp) (by simp;omega)
 cases hE:nD (b.drop 2)with
 | none=>
   rw[hE]at he
   dsimp only[Io]at he
   dsimp only[Rc.av,Rc.cs]
   refine K1.E 0x200042020000027fd Tryz.func134 ?_
   repeat' ((conv=>whnf);first|refine K1.w ?_|refine K1.u ?_|refine K1.P1 (OU _ hk) rfl ?_|refine K1.P1 (he) rfl ?_|refine aJ.rP 10 6 rfl ?_|refine aG.cO ?_|refine K1.o (id:=3) [(0,none),(1,none),(2,none),(3,none),(4,none),(5,none),(6,none),(7,none),(8,none),(9,some []),(10,some [7,6,3,2])] [(3,[2]),(7,[6]),(8,[7,6,3,2]),(9,[]),(10,[7,6,3,2])] ?_|refine K1.z ?_|refine K1.y (fun _=> ?_) (fun _=> ?_)|fail)
   all_goals(conv=>whnf)
   all_goals exact aW.mk (aj.gX _)
 | some l=>
   rw[hE]at he
   dsimp only[Io]at he
   dsimp only[Rc.av,Rc.cs]
   refine K1.E 0x200042020000027fd Tryz.func134 ?_
   repeat' ((conv=>whnf);first|refine K1.w ?_|refine K1.u ?_|refine K1.P1 (OU _ hk) rfl ?_|refine K1.P1 (he) rfl ?_|refine aJ.rP 10 6 rfl ?_|refine aG.cO ?_|refine K1.o (id:=3) [(0,none),(1,none),(2,none),(3,none),(4,none),(5,none),(6,none),(7,none),(8,none),(9,some []),(10,some [7,6,3,2])] [(3,[2]),(7,[6]),(8,[7,6,3,2]),(9,[]),(10,[7,6,3,2])] ?_|refine K1.z ?_|refine K1.y (fun _=> ?_) (fun _=> ?_)|fail)
   all_goals(conv=>whnf)
   all_goals exact aW.mk (aj.refl _)
theorem aaP (b:List UInt8) (hl:b.length≤1000000000) (hu:2≤b.length) (hk:((b.getD 0 default).toNat:Int)=3):
  aH Tryz.prog 134 [.sl 1 b.length true (aX b)] (.dM [(jH b).1.av,.v (.bool (jH b).2)]) []:=by
 rw[wO hu]
 unfold rdR
 rw[if_neg (by omega),if_pos hk]
 unfold aaM
 cases hE:kT (b.drop 2)with
 | none=>
   have he:=rC (n:=b.length-2) (b.drop 2) hE (bF.drop (bF.bytes b) 2) (by simp)
   dsimp only[Rc.av,Rc.cs]
   refine K1.E 0x200042020000027fd Tryz.func134 ?_
   repeat' ((conv=>whnf);first|refine K1.w ?_|refine K1.u ?_|refine K1.P1 (OV _ hk) rfl ?_|refine K1.P1 (he) rfl ?_|refine aJ.rP 10 6 rfl ?_|refine aG.cO ?_|refine K1.o (id:=3) [(0,none),(1,none),(2,none),(3,none),(4,none),(5,none),(6,none),(7,none),(8,none),(9,some []),(10,some [7,6,3,2])] [(3,[2]),(7,[6]),(8,[7,6,3,2]),(9,[]),(10,[7,6,3,2])] ?_|refine K1.z ?_|refine K1.y (fun _=> ?_) (fun _=> ?_)|fail)
   all_goals(conv=>whnf)
   all_goals exact aW.mk (aj.gX _)
 | some p=>
   obtain⟨m,k⟩:=p
   have he:=ru (n:=b.length-2) (b.drop 2) hE (bF.drop (bF.bytes b) 2) (by simp)
   dsimp only[Rc.av,Rc.cs]
   refine K1.E 0x200042020000027fd Tryz.func134 ?_
   repeat' ((conv=>whnf);first|refine K1.w ?_|refine K1.u ?_|refine K1.P1 (OV _ hk) rfl ?_|refine K1.P1 (he) rfl ?_|refine aJ.rP 10 6 rfl ?_|refine aG.cO ?_|refine K1.o (id:=3) [(0,none),(1,none),(2,none),(3,none),(4,none),(5,none),(6,none),(7,none),(8,none),(9,some []),(10,some [7,6,3,2])] [(3,[2]),(7,[6]),(8,[7,6,3,2]),(9,[]),(10,[7,6,3,2])] ?_|refine K1.z ?_|refine K1.y (fun _=> ?_) (fun _=> ?_)|fail)
   all_goals(conv=>whnf)
   all_goals exact aW.mk (aj.gX _)
theorem YM (b:List UInt8) (hl:b.length≤1000000000) (hu:2≤b.length) (hk:((b.getD 0 default).toNat:Int)=4):
  aH Tryz.prog 134 [.sl 1 b.length true (aX b)] (.dM [(jH b).1.av,.v (.bool (jH b).2)]) []:=by
 rw[wO hu]
 unfold rdR
 rw[if_neg (by omega),if_neg (by omega),if_pos hk]
 cases hE:kT (b.drop 2)with
 | none=>
   have he:=rC (n:=b.length-2) (b.drop 2) hE (bF.drop (bF.bytes b) 2) (by simp)
   dsimp only[Rc.av,Rc.cs]
   refine K1.E 0x200042020000027fd Tryz.func134 ?_
   repeat' ((conv=>whnf);first|refine K1.w ?_|refine K1.u ?_|refine K1.P1 (Cj _ hk) rfl ?_|refine K1.P1 (he) rfl ?_|refine aJ.rP 10 6 rfl ?_|refine aG.cO ?_|refine K1.o (id:=3) [(0,none),(1,none),(2,none),(3,none),(4,none),(5,none),(6,none),(7,none),(8,none),(9,some []),(10,some [7,6,3,2])] [(3,[2]),(7,[6]),(8,[7,6,3,2]),(9,[]),(10,[7,6,3,2])] ?_|refine K1.z ?_|refine K1.y (fun _=> ?_) (fun _=> ?_)|fail)
   all_goals(conv=>whnf)
   all_goals exact aW.mk (aj.gX _)
 | some p=>
   obtain⟨m,k⟩:=p
   have he:=ru (n:=b.length-2) (b.drop 2) hE (bF.drop (bF.bytes b) 2) (by simp)
   dsimp only
   have hdl:((b.drop 2).drop k).length≤b.length:=by rw[List.length_drop,List.length_drop];omega
   generalize(b.drop 2).drop k=t at he hdl
   have LV:=GH t (bF.bytes t) rfl (by omega)
   unfold OT
   cases hL:nD t with
   | none=>
     rw[hL]at LV
     dsimp only[Io]at LV
     dsimp only[Rc.av,Rc.cs]
     refine K1.E 0x200042020000027fd Tryz.func134 ?_
     repeat' ((conv=>whnf);first|refine K1.w ?_|refine K1.u ?_|refine K1.P1 (Cj _ hk) rfl ?_|refine K1.P1 (he) rfl ?_|refine K1.P1 (LV) rfl ?_|refine aJ.rP 10 6 rfl ?_|refine aG.cO ?_|refine K1.o (id:=3) [(0,none),(1,none),(2,none),(3,none),(4,none),(5,none),(6,none),(7,none),(8,none),(9,some []),(10,some [7,6,3,2])] [(3,[2]),(7,[6]),(8,[7,6,3,2]),(9,[]),(10,[7,6,3,2])] ?_|refine K1.z ?_|refine K1.y (fun _=> ?_) (fun _=> ?_)|fail)
     all_goals(conv=>whnf)
     all_goals exact aW.mk (aj.gX _)
   | some l=>
     rw[hL]at LV
     dsimp only[Io]at LV
     dsimp only[Rc.av,Rc.cs]
     refine K1.E 0x200042020000027fd Tryz.func134 ?_
     repeat' ((conv=>whnf);first|refine K1.w ?_|refine K1.u ?_|refine K1.P1 (Cj _ hk) rfl ?_|refine K1.P1 (he) rfl ?_|refine K1.P1 (LV) rfl ?_|refine aJ.rP 10 6 rfl ?_|refine aG.cO ?_|refine K1.o (id:=3) [(0,none),(1,none),(2,none),(3,none),(4,none),(5,none),(6,none),(7,none),(8,none),(9,some []),(10,some [7,6,3,2])] [(3,[2]),(7,[6]),(8,[7,6,3,2]),(9,[]),(10,[7,6,3,2])] ?_|refine K1.z ?_|refine K1.y (fun _=> ?_) (fun _=> ?_)|fail)
     all_goals(conv=>whnf)
     all_goals exact aW.mk (aj.refl _)
theorem aaQ (b:List UInt8) (hl:b.length≤1000000000) (hu:2≤b.length) (hk:((b.getD 0 default).toNat:Int)=6):
  aH Tryz.prog 134 [.sl 1 b.length true (aX b)] (.dM [(jH b).1.av,.v (.bool (jH b).2)]) []:=by
 rw[wO hu]
 unfold rdR
 rw[if_neg (by omega),if_neg (by omega),if_neg (by omega),if_pos hk]
 cases g0:kT (b.drop 2)with
 | none=>
   have e0:=rC (n:=b.length-2) (b.drop 2) g0 (bF.drop (bF.bytes b) 2) (by simp)
   have hr:zI (b.drop 2)=(⟨0,0,0,0,0⟩,false):=by unfold zI;simp only[g0]
   rw[hr]
   dsimp only[Rc.av,Rc.cs]
   refine K1.E 0x200042020000027fd Tryz.func134 ?_
   repeat' ((conv=>whnf);first|refine K1.w ?_|refine K1.u ?_|refine K1.P1 (tu _ hk) rfl ?_|refine K1.P1 (e0) rfl ?_|refine aJ.rP 10 6 rfl ?_|refine aG.cO ?_|refine K1.o (id:=3) [(0,none),(1,none),(2,none),(3,none),(4,none),(5,none),(6,none),(7,none),(8,none),(9,some []),(10,some [7,6,3,2])] [(3,[2]),(7,[6]),(8,[7,6,3,2]),(9,[]),(10,[7,6,3,2])] ?_|refine K1.z ?_|refine K1.y (fun _=> ?_) (fun _=> ?_)|fail)
   all_goals(conv=>whnf)
   all_goals exact aW.mk (aj.gX _)
 | some p0 =>
   obtain⟨m0,k0⟩:=p0
   have e0:=ru (n:=b.length-2) (b.drop 2) g0 (bF.drop (bF.bytes b) 2) (by simp)
   cases g1:kT ((b.drop 2).drop k0)with
   | none=>
     have e1:=rC ((b.drop 2).drop k0) g1 (bF.bytes _) rfl
     have hr:zI (b.drop 2)=(⟨m0,0,0,0,0⟩,false):=by unfold zI;simp only[g0,g1]
     rw[hr]
     dsimp only[Rc.av,Rc.cs]
     refine K1.E 0x200042020000027fd Tryz.func134 ?_
     repeat' ((conv=>whnf);first|refine K1.w ?_|refine K1.u ?_|refine K1.P1 (tu _ hk) rfl ?_|refine K1.P1 (e0) rfl ?_|refine K1.P1 (e1) rfl ?_|refine aJ.rP 10 6 rfl ?_|refine aG.cO ?_|refine K1.o (id:=3) [(0,none),(1,none),(2,none),(3,none),(4,none),(5,none),(6,none),(7,none),(8,none),(9,some []),(10,some [7,6,3,2])] [(3,[2]),(7,[6]),(8,[7,6,3,2]),(9,[]),(10,[7,6,3,2])] ?_|refine K1.z ?_|refine K1.y (fun _=> ?_) (fun _=> ?_)|fail)
     all_goals(conv=>whnf)
     all_goals exact aW.mk (aj.gX _)
   | some p1=>
     obtain⟨m1,k1⟩:=p1
     have e1:=ru ((b.drop 2).drop k0) g1 (bF.bytes _) rfl
     cases g2:kT (((b.drop 2).drop k0).drop k1)with
     | none=>
       have e2:=rC (((b.drop 2).drop k0).drop k1) g2 (bF.bytes _) rfl
       have hr:zI (b.drop 2)=(⟨m0,m1,0,0,0⟩,false):=by unfold zI;simp only[g0,g1,g2]
       rw[hr]
       dsimp only[Rc.av,Rc.cs]
       refine K1.E 0x200042020000027fd Tryz.func134 ?_
       repeat' ((conv=>whnf);first|refine K1.w ?_|refine K1.u ?_|refine K1.P1 (tu _ hk) rfl ?_|refine K1.P1 (e0) rfl ?_|refine K1.P1 (e1) rfl ?_|refine K1.P1 (e2) rfl ?_|refine aJ.rP 10 6 rfl ?_|refine aG.cO ?_|refine K1.o (id:=3) [(0,none),(1,none),(2,none),(3,none),(4,none),(5,none),(6,none),(7,none),(8,none),(9,some []),(10,some [7,6,3,2])] [(3,[2]),(7,[6]),(8,[7,6,3,2]),(9,[]),(10,[7,6,3,2])] ?_|refine K1.z ?_|refine K1.y (fun _=> ?_) (fun _=> ?_)|fail)
       all_goals(conv=>whnf)
       all_goals exact aW.mk (aj.gX _)
     | some p2=>
       obtain⟨m2,k2⟩:=p2
       have e2:=ru (((b.drop 2).drop k0).drop k1) g2 (bF.bytes _) rfl
       cases g3:kT ((((b.drop 2).drop k0).drop k1).drop k2)with
       | none=>
         have e3:=rC ((((b.drop 2).drop k0).drop k1).drop k2) g3 (bF.bytes _) rfl
         have hr:zI (b.drop 2)=(⟨m0,m1,m2,0,0⟩,false):=by unfold zI;simp only[g0,g1,g2,g3]
         rw[hr]
         dsimp only[Rc.av,Rc.cs]
         refine K1.E 0x200042020000027fd Tryz.func134 ?_
         repeat' ((conv=>whnf);first|refine K1.w ?_|refine K1.u ?_|refine K1.P1 (tu _ hk) rfl ?_|refine K1.P1 (e0) rfl ?_|refine K1.P1 (e1) rfl ?_|refine K1.P1 (e2) rfl ?_|refine K1.P1 (e3) rfl ?_|refine aJ.rP 10 6 rfl ?_|refine aG.cO ?_|refine K1.o (id:=3) [(0,none),(1,none),(2,none),(3,none),(4,none),(5,none),(6,none),(7,none),(8,none),(9,some []),(10,some [7,6,3,2])] [(3,[2]),(7,[6]),(8,[7,6,3,2]),(9,[]),(10,[7,6,3,2])] ?_|refine K1.z ?_|refine K1.y (fun _=> ?_) (fun _=> ?_)|fail)
         all_goals(conv=>whnf)
         all_goals exact aW.mk (aj.gX _)
       | some p3=>
         obtain⟨m3,k3⟩:=p3
         have e3:=ru ((((b.drop 2).drop k0).drop k1).drop k2) g3 (bF.bytes _) rfl
         cases g4:kT (((((b.drop 2).drop k0).drop k1).drop k2).drop k3)with
         | none=>
           have e4:=rC (((((b.drop 2).drop k0).drop k1).drop k2).drop k3) g4 (bF.bytes _) rfl
           have hr:zI (b.drop 2)=(⟨m0,m1,m2,m3,0⟩,false):=by unfold zI;simp only[g0,g1,g2,g3,g4]
           rw[hr]
           dsimp only[Rc.av,Rc.cs]
           refine K1.E 0x200042020000027fd Tryz.func134 ?_
           repeat' ((conv=>whnf);first|refine K1.w ?_|refine K1.u ?_|refine K1.P1 (tu _ hk) rfl ?_|refine K1.P1 (e0) rfl ?_|refine K1.P1 (e1) rfl ?_|refine K1.P1 (e2) rfl ?_|refine K1.P1 (e3) rfl ?_|refine K1.P1 (e4) rfl ?_|refine aJ.rP 10 6 rfl ?_|refine aG.cO ?_|refine K1.o (id:=3) [(0,none),(1,none),(2,none),(3,none),(4,none),(5,none),(6,none),(7,none),(8,none),(9,some []),(10,some [7,6,3,2])] [(3,[2]),(7,[6]),(8,[7,6,3,2]),(9,[]),(10,[7,6,3,2])] ?_|refine K1.z ?_|refine K1.y (fun _=> ?_) (fun _=> ?_)|fail)
           all_goals(conv=>whnf)
           all_goals exact aW.mk (aj.gX _)
         | some p4=>
           obtain⟨m4,k4⟩:=p4
           have e4:=ru (((((b.drop 2).drop k0).drop k1).drop k2).drop k3) g4 (bF.bytes _) rfl
           have hr:zI (b.drop 2)=(⟨m0,m1,m2,m3,m4⟩,true):=by unfold zI;simp only[g0,g1,g2,g3,g4]
           rw[hr]
           dsimp only[Rc.av,Rc.cs]
           refine K1.E 0x200042020000027fd Tryz.func134 ?_
           repeat' ((conv=>whnf);first|refine K1.w ?_|refine K1.u ?_|refine K1.P1 (tu _ hk) rfl ?_|refine K1.P1 (e0) rfl ?_|refine K1.P1 (e1) rfl ?_|refine K1.P1 (e2) rfl ?_|refine K1.P1 (e3) rfl ?_|refine K1.P1 (e4) rfl ?_|refine aJ.rP 10 6 rfl ?_|refine aG.cO ?_|refine K1.o (id:=3) [(0,none),(1,none),(2,none),(3,none),(4,none),(5,none),(6,none),(7,none),(8,none),(9,some []),(10,some [7,6,3,2])] [(3,[2]),(7,[6]),(8,[7,6,3,2]),(9,[]),(10,[7,6,3,2])] ?_|refine K1.z ?_|refine K1.y (fun _=> ?_) (fun _=> ?_)|fail)
           all_goals(conv=>whnf)
           all_goals exact aW.mk (aj.gX _)
theorem QZ {n:Nat} {F:Nat→List AV} (b:List UInt8) (hF:bF F b) (hn:n=b.length) (hl:b.length≤1000000000):aH Tryz.prog 134 [.sl 1 n true F] (.dM [(jH b).1.av,.v (.bool (jH b).2)]) []:=by
 refine aH.args ?_ (Ch.pz hF hn .nil)
 by_cases h:b.length<2
 · exact YL b hl h
 · have hu:2≤b.length:=by omega
   by_cases h1:((b.getD 0 default).toNat:Int)=1∨((b.getD 0 default).toNat:Int)=2∨((b.getD 0 default).toNat:Int)=5
   · exact aaO b hl hu h1
   · by_cases h2:((b.getD 0 default).toNat:Int)=3
     · exact aaP b hl hu h2
     · by_cases h3:((b.getD 0 default).toNat:Int)=4
       · exact YM b hl hu h3
       · by_cases h4:((b.getD 0 default).toNat:Int)=6
         · exact aaQ b hl hu h4
         · exact QY b hl hu ⟨h1,h2,h3,h4⟩
end
end Go.Proofs.YtimhagicagdkfaaGreat
