/-
  Contracts of the walk:ClG,NdD,NdE,RcD,Tk.
-/
import Derived.Test.YtimhagicagdkfaaGreatNf11
import Derived.Test.YtimhagicagdkfaaGreatNf6
import Derived.Test.YtimhagicagdkfaaGreatNf8
import Derived.Test.YtimhagicagdkfaaGreatNf9
set_option linter.unusedVariables false
set_option linter.unusedSimpArgs false
set_option maxHeartbeats 16000000
set_option maxRecDepth 100000
namespace Go.Proofs.YtimhagicagdkfaaGreat
section
open Go.RowKit
def jd (l:List Ev):AO:= .row 42 12 l.length true (dV l)
theorem Yn {X:CX} {i:Nat} {t:TypeId} {cs:List AV} (h:bg X i (.box t cs)):(eF (X.ρ i)).oneCell'=true:=by
 obtain⟨b,us,e,_⟩:=h
 rw[e]
 rfl
def atV (ρ:Nat→Value) (j:Nat) (v:Value):Nat→Value:=fun i=>if i=j then v else ρ i
theorem Closes.ren {hs:List (Nat×AO)} {j j':Nat} {o:OB} (hC:Closes hs j o) (σ:List (Nat×Nat)) (hj:kL σ j=some j') (hb:yE σ hs=true):Closes (iP σ hs) j' o:=by
 intro w k ρ hnd hok
 let PV:Nat→Value:=fun k=>match kL σ k with|some i=>ρ i|none=>undef
 have e0: ∀k i,kL σ k=some i→ρ i=PV k:=fun k i e=>by simp only[PV,e]
 have hbl:ah ρ (iP σ hs)=ah PV hs:=qR e0 hb
 obtain⟨us,a1,a2,a3⟩:=hC w k PV (by rw[←hbl];exact hnd) fun p hp=>by
  obtain⟨i,h1,h2,h3⟩:=Fb hb p hp
  exact(bg.jJ (X:=⟨w,k,PV⟩) (Y:=⟨w,k,ρ⟩) rfl rfl e0 h1 h3).1 (hok _ h2)
 exact⟨us,a1,a2.trans (by rw[←e0 j j' hj]),by rw[hbl];exact a3⟩
theorem Yo {X:CX} {cs:List AV} {us:List Value} {k d:Nat} (hk:cs[k]? =some (.v (.slice none 0 0))) (hd:eF (X.ρ d)= .slice none 0 0) (ha:aI (C0 X) cs us):aI (C0 X) (cs.set k (.own d)) us:=by
 refine⟨by simpa using ha.1,fun i x u hx hu=> ?_⟩
 rw[List.getElem?_set]at hx
 by_cases e:k=i
 · subst e
   simp only[if_true]at hx
   split at hx
   · cases hx
     have:u= .slice none 0 0:=ha.2 k _ u hk hu
     rw[this]
     exact hd.symm
   · cases hx
 · rw[if_neg e]at hx
   exact ha.2 i x u hx hu
theorem Closes.acD {A B:List (Nat×AO)} {id k d j:Nat} {t e:TypeId} {s:Nat} {f:Nat→List AV} {cs:List AV} {o:OB} (hC:Closes (A++(id,.box t (cs.set k (.own d)))::(B++[(d,.row e s 0 true f)])) j o)
  (hk:cs[k]? =some (.v (.slice none 0 0))) (hs:0<s) (hb:(jP (A++(id,.box t cs)::B) (A++(id,.box t cs)::B)&& !(gq d (A++(id,.box t cs)::B))&& !(Nat.beq j d))=true):Closes (A++(id,.box t cs)::B) j o:=by
 simp only[Bool.and_eq_true,Bool.not_eq_true']at hb
 obtain⟨⟨hcl,hno⟩,hjd⟩:=hb
 refine Closes.imp hC fun X hnd hok=> ?_
 let ρ':=atV X.ρ d (.slice none 0 0)
 have hne: ∀i,gq i (A++(id,.box t cs)::B)=true→ρ' i=X.ρ i:=fun i hi=>if_neg (by rintro rfl;rw[hno]at hi;cases hi)
 have hd:ρ' d= .slice none 0 0:=if_pos rfl
 have over: ∀p∈A++(id,.box t cs)::B,bg ⟨X.w,X.keep,ρ'⟩ p.1 p.2:=fun p hp=>bg.over (X:=X) (Y:=⟨X.w,X.keep,ρ'⟩) (fun _ h=>h) rfl hne (fD.2 ⟨p,hp,rfl⟩) (oG hcl p hp) (hok p hp)
 have hbl:ah ρ' (A++(id,.box t (cs.set k (.own d)))::(B++[(d,.row e s 0 true f)]))=ah X.ρ (A++(id,.box t cs)::B):=by
  have h1:=jm (ρ:=X.ρ) (ρ':=ρ') (h:=A) fun p hp=>hne p.1 (fD.2 ⟨p,List.mem_append_left _ hp,rfl⟩)
  have h2:=jm (ρ:=X.ρ) (ρ':=ρ') (h:=B) fun p hp=>hne p.1 (fD.2 ⟨p,List.mem_append_right _ (List.mem_cons_of_mem _ hp),rfl⟩)
  have h3:ρ' id=X.ρ id:=hne id (fD.2 ⟨_,List.mem_append_right _ List.mem_cons_self,rfl⟩)
  have h4:blks (ρ' d)++ah ρ' []=[]:=by rw[hd];rfl
  rw[gJ,show ah ρ' ((id,.box t (cs.set k (.own d)))::(B++[(d,.row e s 0 true f)]))=blks (ρ' id)++ah ρ' (B++[(d,.row e s 0 true f)])from rfl,gJ,gJ,aT,h1,h2,h3]
  dsimp only
  rw[h4,List.append_nil,aT]
 refine⟨ρ',congrArg eF (if_neg fun e=>(by rw[e,Nat.beq_refl]at hjd;cases hjd)),by rw[hbl];exact hnd,fun b hb=>by rw[hbl]at hb;exact hb,fun q hq=> ?_⟩
 rcases List.mem_append.1 hq with hq|hq
 · exact over q (List.mem_append_left _ hq)
 rcases List.mem_cons.1 hq with rfl|hq
 · obtain⟨b,us,g1,g2,g3⟩:=over (id,.box t cs) (List.mem_append_right _ List.mem_cons_self)
   exact⟨b,us,g1,g2,Yo hk (by show eF (ρ' d)=_;rw[hd];rfl) g3⟩
 rcases List.mem_append.1 hq with hq|hq
 · exact over q (List.mem_append_right _ (List.mem_cons_of_mem _ hq))
 · obtain rfl:=List.mem_singleton.1 hq
   exact⟨[],by show World.ownsRow _ 0 e s (ρ' d) 0 [];rw[hd];exact World.ownsRow_nil X.w _ _ _,hs,fun i hi=>absurd hi (by omega),(fun _ x hx=>by cases hx),aI.nil⟩
theorem au.box {t:TypeId} {cs cs':List AV} (h: ∀X us,aI (C0 X) cs us→aI (C0 X) cs' us):au (.box t cs) (.box t cs'):=by
 rintro X id ⟨b,us,h1,h2,h3⟩
 exact⟨b,us,h1,h2,h X us h3⟩
theorem aI.wz {cs:List AV} {k:Nat} {x y:AV} (hk:cs[k]? =some x) (h: ∀X u,C0 X x u→C0 X y u) {X:CX} {us:List Value} (ha:aI (C0 X) cs us):aI (C0 X) (cs.set k y) us:=by
 refine⟨by simpa using ha.1,fun i z u hz hu=> ?_⟩
 rw[List.getElem?_set]at hz
 by_cases e:k=i
 · subst e
   simp only[if_true]at hz
   split at hz
   · cases hz;exact h X u (ha.2 k _ u hk hu)
   · cases hz
 · rw[if_neg e]at hz
   exact ha.2 i z u hz hu
end
section
open Go.RowKit
theorem QM (c:aZ) (l:List Ev) (hc: ∀r,0≤c.at r∧c.at r≤1000000) (hl:l.length≤1000000) {d w:List Ev} {c':aZ} (hd:wB c l=(d,w,c')):
  aH Tryz.prog 129 [c.av,.sl 12 l.length true (dV l)] (.dM [.sl 12 d.length true (dV d),.sl 12 w.length true (dV w),c'.av]) []:=by
 have hhas:=FK c
 dsimp only[aZ.av,aZ.cs]at hhas⊢
 have U:=Tryz.underlying221
 refine K1.E 0x200f80000800080000f575f7 Tryz.func129 ?_
 repeat' ((conv=>whnf);first|refine K1.w ?_|refine K1.u ?_|refine nK.mkM ?_|refine K1.o (id:=8) [(0,none),(1,none),(3,none),(2,some [1]),(4,some [3,1])] [(2,[1]),(4,[3,1])] ?_|refine K1.o (id:=26) [(0,none),(1,none),(2,none),(3,none),(4,none),(5,some [2])] [(5,[2])] ?_|refine K1.z ?_|refine K1.y (fun _=> ?_) (fun _=> ?_)|fail)
 conv=>whnf
 refine aJ.nil 8 90 42 12 (dV []) rfl (by decide) ?_
 refine aJ.mk {j:Nat//j≤l.length} (fun j=>⟨[(22,.v (.int .i64 (j.1:Int))),(21,.v (.int .i64 (l.length:Int))),(20,.sl 12 l.length true (dV l)),(8,.own 90),(7,.own 2),(6,.box 1 0),(5,.v (.slice none 0 0)),(4,.v (.slice none 0 0)),(2,.box 0 0)],
   [(0,.box 31 c.cs),(1,.box 31 dX.cs),(2,.obs (QJ (BA (lZ c (l.take j.1))))),(90,jd (lZ c (l.take j.1)))],[],91⟩) (fun j=>l.length-j.1) ⟨0,Nat.zero_le _⟩ _
  (dB.mk' [] _ _ _ rfl ⟨aj.int rfl,aj.refl _,aj.refl _,aj.refl _,aj.refl _,aj.refl _,aj.refl _,aj.refl _,aj.refl _,trivial⟩ ⟨⟨_,rfl,au.refl _⟩,⟨_,rfl,au.refl _⟩,⟨_,rfl,au.refl _⟩,⟨_,rfl,au.refl _⟩,trivial⟩ rfl) ?_
 rintro⟨j,hj⟩
 dsimp only
 by_cases hjl:j<l.length
 · have hst:=F7 (c:=c) hjl
   have hwl:=BX c l j hj
   rw[show l.getD j default=l.getD (j:Int).toNat default from rfl]at hst
   have hm:=pW (l.getD (j:Int).toNat default)
   have hh:=hhas (l.getD (j:Int).toNat default).r (l.getD (j:Int).toNat default).n
   have hev:=mW (l.getD (j:Int).toNat default)
   generalize lZ c (l.take j)=w0 at hst hwl⊢
   dsimp only[Ev.av,Ev.cs,jd]at hm hev⊢
   cases hf:Jr w0 (l.getD (j:Int).toNat default).r (l.getD (j:Int).toNat default).n with
   | some x=>
     obtain⟨h1,h2,A,B,hs⟩:=AA hf
     have hs0:BA w0=BA A++(qy (l.getD (j:Int).toNat default).r (l.getD (j:Int).toNat default).n,evV x)::BA B:=by rw[hs,F6,h1,h2]
     have hnx:qY c w0 (l.getD (j:Int).toNat default)=w0:=by unfold qY;rw[hf];rfl
     rw[hnx]at hst
     clear hf h1 h2 hs hnx hd
     repeat' ((conv=>whnf);first|refine K1.w ?_|refine K1.u ?_|refine K1.P1 (hm) rfl ?_|refine K1.P1 (hh) rfl ?_|refine nK.Tq kH U rfl rfl rfl (jB _ _) ⟨_,_,rfl⟩ ⟨_,qX⟩ (mW x) hs0 (Az w0) ?_|refine K1.o (id:=8) [(0,none),(1,none),(3,none),(2,some [1]),(4,some [3,1])] [(2,[1]),(4,[3,1])] ?_|refine K1.o (id:=26) [(0,none),(1,none),(2,none),(3,none),(4,none),(5,some [2])] [(5,[2])] ?_|refine K1.z ?_|refine K1.y (fun _=> ?_) (fun _=> ?_)|fail)
     all_goals(conv=>whnf)
     exact⟨⟨j+1,hjl⟩,_,dB.mk' [] _ _ _ rfl ⟨aj.int rfl,aj.refl _,aj.refl _,aj.refl _,aj.refl _,aj.refl _,aj.refl _,aj.refl _,aj.refl _,trivial⟩ ⟨⟨_,rfl,au.refl _⟩,⟨_,rfl,au.refl _⟩,⟨_,rfl,by dsimp only;rw[hst];exact au.refl _⟩,⟨_,rfl,by dsimp only;rw[hst];exact au.refl _⟩,trivial⟩ rfl,by show l.length-(j+1)<l.length-j;omega⟩
   | none=>
     have hno:=Yg (AB hf)
     cases hb:hasB c (l.getD (j:Int).toNat default).r (l.getD (j:Int).toNat default).n with
     | true=>
       rw[hb]at hh
       have hnx:qY c w0 (l.getD (j:Int).toNat default)=w0:=by unfold qY;rw[hb];simp
       rw[hnx]at hst
       clear hf hb hnx hd
       repeat' ((conv=>whnf);first|refine K1.w ?_|refine K1.u ?_|refine K1.P1 (hm) rfl ?_|refine K1.P1 (hh) rfl ?_|refine nK.look kH U rfl rfl rfl (jB _ _) ⟨_,_,rfl⟩ qX (mW ev0) hno ?_|refine K1.o (id:=8) [(0,none),(1,none),(3,none),(2,some [1]),(4,some [3,1])] [(2,[1]),(4,[3,1])] ?_|refine K1.o (id:=26) [(0,none),(1,none),(2,none),(3,none),(4,none),(5,some [2])] [(5,[2])] ?_|refine K1.z ?_|refine K1.y (fun _=> ?_) (fun _=> ?_)|fail)
       all_goals(conv=>whnf)
       exact⟨⟨j+1,hjl⟩,_,dB.mk' [] _ _ _ rfl ⟨aj.int rfl,aj.refl _,aj.refl _,aj.refl _,aj.refl _,aj.refl _,aj.refl _,aj.refl _,aj.refl _,trivial⟩ ⟨⟨_,rfl,au.refl _⟩,⟨_,rfl,au.refl _⟩,⟨_,rfl,by dsimp only;rw[hst];exact au.refl _⟩,⟨_,rfl,by dsimp only;rw[hst];exact au.refl _⟩,trivial⟩ rfl,by show l.length-(j+1)<l.length-j;omega⟩
     | false=>
       rw[hb]at hh
       have hnx:qY c w0 (l.getD (j:Int).toNat default)=w0++[l.getD (j:Int).toNat default]:=by unfold qY;rw[hb,hf];rfl
       rw[hnx]at hst
       clear hf hb hnx hd
       repeat' ((conv=>whnf);first|refine K1.w ?_|refine K1.u ?_|refine K1.P1 (hm) rfl ?_|refine K1.P1 (hh) rfl ?_|refine nK.look kH U rfl rfl rfl (jB _ _) ⟨_,_,rfl⟩ qX (mW ev0) hno ?_|refine nK.aem kH U rfl rfl rfl (jB _ _) ⟨_,_,rfl⟩ rfl hev hno ?_|refine K1.o (id:=8) [(0,none),(1,none),(3,none),(2,some [1]),(4,some [3,1])] [(2,[1]),(4,[3,1])] ?_|refine K1.o (id:=26) [(0,none),(1,none),(2,none),(3,none),(4,none),(5,some [2])] [(5,[2])] ?_|refine K1.z ?_|refine K1.y (fun _=> ?_) (fun _=> ?_)|fail)
       all_goals(conv=>whnf)
       exact⟨⟨j+1,hjl⟩,_,dB.mk' [(94,90)] _ _ _ rfl ⟨aj.int rfl,aj.refl _,aj.refl _,aj.refl _,aj.refl _,aj.refl _,aj.refl _,aj.refl _,aj.refl _,trivial⟩ ⟨⟨_,rfl,au.refl _⟩,⟨_,rfl,au.refl _⟩,⟨_,rfl,by dsimp only;rw[hst,F6 w0 []];exact au.refl _⟩,⟨_,rfl,by dsimp only[jd];rw[hst];exact au.row (by simp) fun m hm=>bn (c:=Ev.cs) (l:=w0) rfl rfl m hm⟩,trivial⟩ rfl,by show l.length-(j+1)<l.length-j;omega⟩
 · obtain rfl:j=l.length:=by omega
   rw[List.take_length]
   have hwl:=BX c l l.length (Nat.le_refl _)
   rw[List.take_length]at hwl
   unfold wB at hd
   have hdm:=Yk c l
   have hsub:w.Sublist (lZ c l):=by have:=Tt (lZ c l).length c (lZ c l) [];rw[hd]at this;exact this
   generalize lZ c l=w0 at hwl hd hdm hsub⊢
   have hnx:=Yh c w0 (fun r=>⟨(hc r).1,by have:=(hc r).2;omega⟩)
   generalize hnw:sS c w0=nx at hnx
   cases nx
   all_goals
    dsimp only[aZ.av,aZ.cs,Ev.av,Ev.cs,jd,Option.getD,Option.isSome]at hnx⊢
    repeat' ((conv=>whnf);first|refine K1.w ?_|refine K1.u ?_|refine K1.C 1 [(0,_)] (hnx) rfl ?_|refine K1.o (id:=8) [(0,none),(1,none),(3,none),(2,some [1]),(4,some [3,1])] [(2,[1]),(4,[3,1])] ?_|refine K1.o (id:=26) [(0,none),(1,none),(2,none),(3,none),(4,none),(5,some [2])] [(5,[2])] ?_|refine K1.z ?_|refine K1.y (fun _=> ?_) (fun _=> ?_)|fail)
    conv=>whnf
    refine aJ.nil 4 95 42 12 (dV []) rfl (by decide) ?_
    refine aJ.mk {s:aZ×List Ev×List Ev×Option Ev//sS s.1 s.2.1=s.2.2.2∧Yi s.2.1.length s.1 s.2.1 s.2.2.1=(d,w,c')∧s.2.2.1.length+s.2.1.length=w0.length∧ ∀r,0≤s.1.at r∧s.1.at r≤1000000+s.2.2.1.length}
     (fun x=>⟨[(14,.v (.bool x.1.2.2.2.isSome)),(13,.box 92 0),(8,.own 90),(7,.own 2),(6,.box 1 0),(5,.v (.slice none 0 0)),(4,.own 95),(2,.box 0 0)],
      [(92,.box 42 (x.1.2.2.2.getD ev0).cs),(2,.obs (QJ (BA x.1.2.1))),(0,.box 31 x.1.1.cs),(1,.box 31 dX.cs),(90,jd w0),(95,jd x.1.2.2.1)],[],96⟩)
     (fun x=>x.1.2.1.length) ⟨(c,w0,[],_),hnw,hd,by simp,fun r=>⟨(hc r).1,by have:=(hc r).2;simpa using this⟩⟩ _
     (dB.mk' [] _ _ _ rfl ⟨aj.refl _,aj.refl _,aj.refl _,aj.refl _,aj.refl _,aj.refl _,aj.refl _,aj.refl _,trivial⟩ ⟨⟨_,rfl,au.refl _⟩,⟨_,rfl,au.refl _⟩,⟨_,rfl,au.refl _⟩,⟨_,rfl,au.refl _⟩,⟨_,rfl,au.refl _⟩,⟨_,rfl,au.refl _⟩,trivial⟩ rfl) ?_
    clear hnx hnw hd
    rintro⟨⟨c1,w1,d1,nx⟩,hn1,hdr,hlen,hc1⟩
    dsimp only at hn1 hdr hlen hc1⊢
    cases nx with
    | none=>
      have he:Yi w1.length c1 w1 d1=(d1,w1,c1):=by
       cases h0:w1.length with
       |zero=>rfl
       |succ n=>unfold Yi;rw[hn1]
      rw[he]at hdr
      cases hdr
      clear he hn1 hlen
      repeat' ((conv=>whnf);first|refine K1.w ?_|refine K1.u ?_|refine K1.o (id:=8) [(0,none),(1,none),(3,none),(2,some [1]),(4,some [3,1])] [(2,[1]),(4,[3,1])] ?_|refine K1.o (id:=26) [(0,none),(1,none),(2,none),(3,none),(4,none),(5,some [2])] [(5,[2])] ?_|refine K1.z ?_|refine K1.y (fun _=> ?_) (fun _=> ?_)|fail)
      conv=>whnf
      refine aJ.BG 90 rfl ?_
      refine aJ.nil 5 98 42 12 (dV []) rfl (by decide) ?_
      refine aJ.mk {j:Nat//j≤w0.length} (fun j=>⟨[(82,.v (.int .i64 (j.1:Int))),(81,.v (.int .i64 (w0.length:Int))),(80,.sl 12 w0.length true (dV w0)),(7,.own 2),(6,.box 1 0),(5,.own 98),(4,.own 95),(2,.box 0 0)],
       [(2,.obs (QJ (BA w))),(0,.box 31 c'.cs),(1,.box 31 dX.cs),(95,jd d),(98,jd ((w0.take j.1).filter fun e=>(Jr w e.r e.n).isSome))],[],99⟩) (fun j=>w0.length-j.1) ⟨0,Nat.zero_le _⟩ _
       (dB.mk' [] _ _ _ rfl ⟨aj.int rfl,aj.refl _,aj.refl _,aj.refl _,aj.refl _,aj.refl _,aj.refl _,aj.refl _,trivial⟩ ⟨⟨_,rfl,au.refl _⟩,⟨_,rfl,au.refl _⟩,⟨_,rfl,au.refl _⟩,⟨_,rfl,au.refl _⟩,⟨_,rfl,au.refl _⟩,trivial⟩ rfl) ?_
      clear hc1 hhas hj hjl hc
      rintro⟨j,hj⟩
      dsimp only
      by_cases hjl:j<w0.length
      · have hft:(w0.take (j+1)).filter (fun e=>(Jr w e.r e.n).isSome)=(w0.take j).filter (fun e=>(Jr w e.r e.n).isSome)++(if(Jr w (w0.getD (j:Int).toNat default).r (w0.getD (j:Int).toNat default).n).isSome then [w0.getD (j:Int).toNat default]else []):=by
         rw[List.take_succ_eq_append_getElem hjl,List.filter_append,show w0.getD (j:Int).toNat default=w0[j] by simp[List.getD,hjl]]
         congr 1
         rw[List.filter_cons,List.filter_nil]
        have hfl:((w0.take j).filter fun e=>(Jr w e.r e.n).isSome).length≤j:=Nat.le_trans (List.length_filter_le ..) (by rw[List.length_take];omega)
        have hm:=pW (w0.getD (j:Int).toNat default)
        generalize(w0.take j).filter (fun e=>(Jr w e.r e.n).isSome)=lf at hft hfl⊢
        dsimp only[Ev.av,Ev.cs,jd]at hm⊢
        cases hf:Jr w (w0.getD (j:Int).toNat default).r (w0.getD (j:Int).toNat default).n with
        | some x=>
          obtain⟨h1,h2,A,B,hs⟩:=AA hf
          have hs0:BA w=BA A++(qy (w0.getD (j:Int).toNat default).r (w0.getD (j:Int).toNat default).n,evV x)::BA B:=by rw[hs,F6,h1,h2]
          rw[hf]at hft
          have hft:_=lf++[w0.getD (j:Int).toNat default]:=hft
          clear hf h1 h2 hs hdm hsub
          repeat' ((conv=>whnf);first|refine K1.w ?_|refine K1.u ?_|refine K1.P1 (hm) rfl ?_|refine nK.Tq kH U rfl rfl rfl (jB _ _) ⟨_,_,rfl⟩ ⟨_,qX⟩ (mW x) hs0 (Az w) ?_|refine K1.o (id:=8) [(0,none),(1,none),(3,none),(2,some [1]),(4,some [3,1])] [(2,[1]),(4,[3,1])] ?_|refine K1.o (id:=26) [(0,none),(1,none),(2,none),(3,none),(4,none),(5,some [2])] [(5,[2])] ?_|refine K1.z ?_|refine K1.y (fun _=> ?_) (fun _=> ?_)|fail)
          all_goals(conv=>whnf)
          exact⟨⟨j+1,hjl⟩,_,dB.mk' [(102,98)] _ _ _ rfl ⟨aj.int rfl,aj.refl _,aj.refl _,aj.refl _,aj.refl _,aj.refl _,aj.refl _,aj.refl _,trivial⟩ ⟨⟨_,rfl,au.refl _⟩,⟨_,rfl,au.refl _⟩,⟨_,rfl,au.refl _⟩,⟨_,rfl,au.refl _⟩,⟨_,rfl,by dsimp only;rw[hft];exact au.row (by simp) fun m hm=>bn (c:=Ev.cs) (l:=lf) rfl rfl m hm⟩,trivial⟩ rfl,by show w0.length-(j+1)<w0.length-j;omega⟩
        | none=>
          have hno:=Yg (AB hf)
          rw[hf]at hft
          have hft:_=lf++[]:=hft
          rw[List.append_nil]at hft
          clear hf hdm hsub
          repeat' ((conv=>whnf);first|refine K1.w ?_|refine K1.u ?_|refine K1.P1 (hm) rfl ?_|refine nK.look kH U rfl rfl rfl (jB _ _) ⟨_,_,rfl⟩ qX (mW ev0) hno ?_|refine K1.o (id:=8) [(0,none),(1,none),(3,none),(2,some [1]),(4,some [3,1])] [(2,[1]),(4,[3,1])] ?_|refine K1.o (id:=26) [(0,none),(1,none),(2,none),(3,none),(4,none),(5,some [2])] [(5,[2])] ?_|refine K1.z ?_|refine K1.y (fun _=> ?_) (fun _=> ?_)|fail)
          all_goals(conv=>whnf)
          exact⟨⟨j+1,hjl⟩,_,dB.mk' [] _ _ _ rfl ⟨aj.int rfl,aj.refl _,aj.refl _,aj.refl _,aj.refl _,aj.refl _,aj.refl _,aj.refl _,trivial⟩ ⟨⟨_,rfl,au.refl _⟩,⟨_,rfl,au.refl _⟩,⟨_,rfl,au.refl _⟩,⟨_,rfl,au.refl _⟩,⟨_,rfl,by dsimp only;rw[hft];exact au.refl _⟩,trivial⟩ rfl,by show w0.length-(j+1)<w0.length-j;omega⟩
      · obtain rfl:j=w0.length:=by omega
        rw[List.take_length,left_eq hdm hsub]
        clear hdm hsub
        dsimp only[jd,aZ.cs]
        repeat' ((conv=>whnf);first|refine K1.w ?_|refine K1.u ?_|refine aG.cO ?_|refine K1.o (id:=8) [(0,none),(1,none),(3,none),(2,some [1]),(4,some [3,1])] [(2,[1]),(4,[3,1])] ?_|refine K1.o (id:=26) [(0,none),(1,none),(2,none),(3,none),(4,none),(5,some [2])] [(5,[2])] ?_|refine K1.z ?_|refine K1.y (fun _=> ?_) (fun _=> ?_)|fail)
        all_goals(conv=>whnf)
        exact aW.mk (aj.refl _)
    | some e=>
      obtain⟨r,hr5,her,hen,_,_,hin⟩:=Yl hn1
      obtain⟨a,A,B,h1,h2,h3,h4⟩:=F8 hin
      have hl1:=Ym hin
      have hkv:BA w1=BA A++(qy e.r e.n,evV a)::BA B:=by rw[h1,F6,h3,h4]
      have hrm:BA (DT w1 e)=BA A++BA B:=by rw[h2];simp[BA]
      have hall:=Az w1
      have aeo:Yi (DT w1 e).length (c1.inc r) (DT w1 e) (d1++[e])=(d,w,c'):=by
       rw[←hl1]at hdr
       unfold Yi at hdr
       rw[hn1]at hdr
       dsimp only at hdr
       rw[show e.r.toNat=r by omega]at hdr
       exact hdr
      have hlen2:(d1++[e]).length+(DT w1 e).length=w0.length:=by rw[List.length_append];simp;omega
      have hc2: ∀q,0≤(c1.inc r).at q∧(c1.inc r).at q≤1000000+((d1++[e]).length:Int):=fun q=>by
       have h1:=aaE c1 q hr5
       have h2:=hc1 q
       rw[List.length_append]
       simp
       omega
      have k0:0≤c1.c0∧c1.c0≤1000000+(d1.length:Int):=hc1 0
      have k1:0≤c1.c1∧c1.c1≤1000000+(d1.length:Int):=hc1 1
      have k2:0≤c1.c2∧c1.c2≤1000000+(d1.length:Int):=hc1 2
      have k3:0≤c1.c3∧c1.c3≤1000000+(d1.length:Int):=hc1 3
      have k4:0≤c1.c4∧c1.c4≤1000000+(d1.length:Int):=hc1 4
      have hnx:=Yh (c1.inc r) (DT w1 e) (fun q=>⟨(hc2 q).1,by have:=(hc2 q).2;omega⟩)
      generalize hnw:sS (c1.inc r) (DT w1 e)=nx at hnx
      rw[hrm]at hnx
      have hm:=pW e
      clear hn1 hdr h1 h2 h3 h4 hhas hdm hc hc1
      generalize DT w1 e=w2 at*
      cases nx
      all_goals
       rcases(show r=0∨r=1∨r=2∨r=3∨r=4 by omega)with rfl|rfl|rfl|rfl|rfl
      all_goals
       dsimp only[aZ.av,aZ.cs,Ev.av,Ev.cs,jd,Option.getD,Option.isSome,aZ.inc,aZ.at]at hnx hm⊢
       repeat' ((conv=>whnf);first|refine K1.w ?_|refine K1.u ?_|refine K1.C 1 [(0,_)] (hnx) rfl ?_|refine K1.P1 (hm) rfl ?_|refine nK.del rfl rfl rfl kH U rfl rfl rfl (jB _ _) ⟨_,_,rfl⟩ hkv hall ?_|refine qM.lit 0 her rfl ?_|refine qM.lit 1 her rfl ?_|refine qM.lit 2 her rfl ?_|refine qM.lit 3 her rfl ?_|refine qM.lit 4 her rfl ?_|refine K1.o (id:=8) [(0,none),(1,none),(3,none),(2,some [1]),(4,some [3,1])] [(2,[1]),(4,[3,1])] ?_|refine K1.o (id:=26) [(0,none),(1,none),(2,none),(3,none),(4,none),(5,some [2])] [(5,[2])] ?_|refine K1.z ?_|refine K1.y (fun _=> ?_) (fun _=> ?_)|fail)
       all_goals(conv=>whnf)
       refine⟨⟨(aZ.inc c1 _,w2,d1++[e],_),hnw,aeo,hlen2,hc2⟩,_,dB.mk' [(98,92),(97,95)] _ _ _ rfl ⟨aj.refl _,aj.refl _,aj.refl _,aj.refl _,aj.refl _,aj.refl _,aj.refl _,aj.refl _,trivial⟩ ⟨⟨_,rfl,au.refl _⟩,⟨_,rfl,by dsimp only;rw[hrm];exact au.refl _⟩,⟨_,rfl,au.refl _⟩,⟨_,rfl,au.refl _⟩,⟨_,rfl,au.refl _⟩,⟨_,rfl,au.row (by simp) fun m hm=>bn (c:=Ev.cs) (l:=d1) rfl rfl m hm⟩,trivial⟩ rfl,by dsimp only;omega⟩
end
section
open Go.RowKit
theorem Ch.evs {n:Nat} {F:Nat→List AV} {l:List Ev} (hn:n=l.length) (hF: ∀i,i<n→F i=dV l i) {xs ys:List AV} (h:Ch xs ys):Ch (.sl 12 n true F::xs) (.sl 12 l.length true (dV l)::ys):= .of (fun X u hu=>aj.sl hn hF X u hu) h
theorem U2 (c:aZ) (l:List Ev) (hc: ∀r,0≤c.at r∧c.at r≤1000000) (hl:l.length≤1000000) {d w:List Ev} {c':aZ} (hd:wB c l=(d,w,c')) {n:Nat} {F:Nat→List AV} (hn:n=l.length) (hF: ∀i,i<n→F i=dV l i):
  aH Tryz.prog 129 [c.av,.sl 12 n true F] (.dM [.sl 12 d.length true (dV d),.sl 12 w.length true (dV w),c'.av]) []:=(QM c l hc hl hd).args (.same (Ch.evs hn hF .nil))
def Oy (most:Int) (c:aZ) (h:AV):AO:= .box 118 [.v (.int .i64 most),.v (.int .i64 c.c0),.v (.int .i64 c.c1),.v (.int .i64 c.c2),.v (.int .i64 c.c3),.v (.int .i64 c.c4),h]
def QN (most batch sent:Int) (m:AV):AO:= .box 132 [.v (.int .i64 most),.v (.int .i64 batch),.v (.int .i64 sent),m]
def uo:AV:= .v (.slice none 0 0)
theorem Oz (most:Int) (c:aZ):aY Tryz.prog 102 [] [.v (.int .i64 most),c.av] (.box 0 0) [(0,Oy most c uo)]:=by
 dsimp only[aZ.av,aZ.cs,Oy,uo]
 refine K1.M 0x1b Tryz.func102 40 ?_
 repeat' ((conv=>whnf);first|refine K1.w ?_|refine K1.u ?_|refine K1.z ?_|refine K1.y (fun _=> ?_) (fun _=> ?_)|fail)
 all_goals(conv=>whnf)
 exact⟨[(41,0)],rfl,rfl,⟨⟨_,rfl,au.refl _⟩,trivial⟩,rfl,rfl,aj.refl _⟩
theorem OA (most batch sent:Int):aY Tryz.prog 101 [] [.v (.int .i64 most),.v (.int .i64 batch),.v (.int .i64 sent)] (.box 0 0) [(0,QN most batch sent uo)]:=by
 dsimp only[QN,uo]
 refine K1.M 0x47 Tryz.func101 40 ?_
 repeat' ((conv=>whnf);first|refine K1.w ?_|refine K1.u ?_|refine K1.z ?_|refine K1.y (fun _=> ?_) (fun _=> ?_)|fail)
 all_goals(conv=>whnf)
 exact⟨[(40,0)],rfl,rfl,⟨⟨_,rfl,au.refl _⟩,trivial⟩,rfl,rfl,aj.refl _⟩
theorem Yp (most:Int) (c:aZ) (h:AV) (hh:h=uo∨ ∃n F,h= .sl 12 n true F) (e:Ev) (hc: ∀r,0≤c.at r∧c.at r≤1000000) {d w:List Ev} {c':aZ} (hd:wB c [e]=(d,w,c')):
  aY Tryz.prog 55 [(0,Oy most c h)] [.box 0 0,e.av] (.v (.int .i64 (if d.length=0 then 20 else 0))) [(0,Oy most (if d.length=0 then c else c') h)]:=by
 have hdr:=U2 c [e] hc (by simp) hd (n:=1) (F:=chunk 12 e.cs) rfl fun i hi=>by
  obtain rfl:i=0:=by omega
  rfl
 dsimp only[aZ.av,aZ.cs,Ev.av,Ev.cs,Oy]at hdr⊢
 rcases hh with rfl|⟨n,F,rfl⟩
 all_goals
  try dsimp only[uo]
  by_cases h0:d.length=0
  · rw[if_pos h0,if_pos h0]
    refine K1.M 0x400bb Tryz.func55 40 ?_
    repeat' ((conv=>whnf);first|refine K1.w ?_|refine K1.u ?_|refine K1.P1 (hdr) rfl ?_|refine K1.I 0x73 Tryz.func95 ?_|refine K1.z ?_|refine K1.y (fun _=> ?_) (fun _=> ?_)|fail)
    all_goals(conv=>whnf)
    exact⟨[],rfl,rfl,⟨⟨_,rfl,au.refl _⟩,trivial⟩,rfl,rfl,aj.refl _⟩
  · rw[if_neg h0,if_neg h0]
    refine K1.M 0x400bb Tryz.func55 40 ?_
    repeat' ((conv=>whnf);first|refine K1.w ?_|refine K1.u ?_|refine K1.P1 (hdr) rfl ?_|refine K1.I 0x73 Tryz.func95 ?_|refine K1.z ?_|refine K1.y (fun _=> ?_) (fun _=> ?_)|fail)
    all_goals(conv=>whnf)
    exact⟨[],rfl,rfl,⟨⟨_,rfl,au.refl _⟩,trivial⟩,rfl,rfl,aj.refl _⟩
theorem zx (most:Int) (c:aZ) (h:AV) (hh:h=uo∨ ∃n F,h= .sl 12 n true F):aY Tryz.prog 29 [(0,Oy most c h)] [.box 0 0] c.av [(0,Oy most c h)]:=by
 dsimp only[aZ.av,aZ.cs,Oy]
 rcases hh with rfl|⟨n,F,rfl⟩
 all_goals
  try dsimp only[uo]
  refine K1.M 0x5 Tryz.func29 40 ?_
  repeat' ((conv=>whnf);first|refine K1.w ?_|refine K1.u ?_|refine K1.z ?_|refine K1.y (fun _=> ?_) (fun _=> ?_)|fail)
  all_goals(conv=>whnf)
  exact⟨[],rfl,rfl,⟨⟨_,rfl,au.refl _⟩,trivial⟩,rfl,rfl,aj.refl _⟩
def Tv (c:aZ) (r:Nat):aZ:=if c.at r<1048576 then c.inc r else dX
theorem F9 (c:aZ) (r:Nat) (hr:r<5) (hc:0≤c.at r):aH Tryz.prog 52 [c.av,.v (.int .i64 (r:Int))] (.dM [(Tv c r).av,.v (.int .i64 (if c.at r<1048576 then 0 else 25))]) []:=by
 unfold Tv
 by_cases h:c.at r<1048576
 · rw[if_pos h,if_pos h]
   rcases(show r=0∨r=1∨r=2∨r=3∨r=4 by omega)with rfl|rfl|rfl|rfl|rfl
   all_goals
    simp only[aZ.at]at h hc
    simp only[aZ.av,aZ.cs,aZ.inc]
    refine K1.E 0x10837 Tryz.func52 ?_
    repeat' ((conv=>whnf);first|refine K1.w ?_|refine K1.u ?_|refine qM.mk (by decide) ?_|refine aG.cO ?_|refine K1.z ?_|refine K1.y (fun _=> ?_) (fun _=> ?_)|fail)
    all_goals(conv=>whnf)
    exact aW.mk (aj.refl _)
 · rw[if_neg h,if_neg h]
   rcases(show r=0∨r=1∨r=2∨r=3∨r=4 by omega)with rfl|rfl|rfl|rfl|rfl
   all_goals
    simp only[aZ.at]at h hc
    simp only[aZ.av,aZ.cs,dX]
    refine K1.E 0x10837 Tryz.func52 ?_
    repeat' ((conv=>whnf);first|refine K1.w ?_|refine K1.u ?_|refine qM.mk (by decide) ?_|refine aG.cO ?_|refine K1.z ?_|refine K1.y (fun _=> ?_) (fun _=> ?_)|fail)
    all_goals(conv=>whnf)
    exact aW.mk (aj.refl _)
theorem AL (l:List Ev) (c:aZ) (hl:l.length≤1000000000) (hh: ∀e∈l,0≤e.h∧e.h≤1000000000):
  aH Tryz.prog 53 [.sl 12 l.length true (dV l),c.av] (.v (.int .i64 (hgt l c))) []:=by
 dsimp only[aZ.av,aZ.cs]
 refine K1.E 0x40001f7b Tryz.func53 ?_
 repeat' ((conv=>whnf);first|refine K1.w ?_|refine K1.u ?_|refine aG.cO ?_|refine K1.z ?_|refine K1.y (fun _=> ?_) (fun _=> ?_)|fail)
 conv=>whnf
 refine aJ.mk {x:Nat×(Int×Bool)//x.1≤l.length∧x.2=FV c (l.take x.1)} (fun x=>⟨[(9,.sl 12 l.length true (dV l)),(10,.v (.int .i64 (l.length:Int))),(3,.box 0 0),(5,.v (.int .i64 x.1.2.1)),(6,.v (.bool x.1.2.2)),(11,.v (.int .i64 (x.1.1:Int)))],
   [(0,.box 31 c.cs)],[],1⟩) (fun x=>l.length-x.1.1) ⟨(0,(0,false)),Nat.zero_le _,rfl⟩ _
  (dB.mk' [] _ _ _ rfl ⟨aj.refl _,aj.refl _,aj.refl _,aj.refl _,aj.refl _,aj.int rfl,trivial⟩ ⟨⟨_,rfl,au.refl _⟩,trivial⟩ rfl) ?_
 rintro⟨⟨j,s⟩,hj,hs⟩
 dsimp only at hj hs⊢
 have hb:=FW (c:=c) (M:=1000000000) (by omega) (l.take j) (fun e he=>hh e (List.mem_of_mem_take he)) (0,false) (by simp)
 have hs':s=(l.take j).foldl (oW c) (0,false):=hs
 rw[←hs']at hb
 by_cases hjl:j<l.length
 · have hhas:=FK c (l.getD (j:Int).toNat default).r (l.getD (j:Int).toNat default).n
   have hft:FV c (l.take (j+1))=oW c s (l.getD (j:Int).toNat default):=by rw[hs];exact pV hjl
   have hst:oW c s (l.getD (j:Int).toNat default)=if(hasB c (l.getD (j:Int).toNat default).r (l.getD (j:Int).toNat default).n&&(!s.2||decide (s.1<(l.getD (j:Int).toNat default).h)))=true then((l.getD (j:Int).toNat default).h,true)else s:=rfl
   rw[hst]at hft
   generalize hasB c (l.getD (j:Int).toNat default).r (l.getD (j:Int).toNat default).n=q at hhas hft
   clear hs' hst hs hh
   obtain⟨s1,s2⟩:=s
   dsimp only at hb hft⊢
   have k1:q=true→s2=false→((l.getD (j:Int).toNat default).h,true)=FV c (l.take (j+1)):=fun h1 h2=>by rw[hft,h1,h2];simp
   have k2:q=true→s1<(l.getD (j:Int).toNat default).h→((l.getD (j:Int).toNat default).h,true)=FV c (l.take (j+1)):=fun h1 h2=>by rw[hft,h1,decide_eq_true h2];simp
   have k3:q=false→(s1,s2)=FV c (l.take (j+1)):=fun h1=>by rw[hft,h1];simp
   have k4:s2=true→ ¬s1<(l.getD (j:Int).toNat default).h→(s1,s2)=FV c (l.take (j+1)):=fun h1 h2=>by rw[hft,h1,decide_eq_false h2];simp
   clear hft
   dsimp only[aZ.av,aZ.cs]at hhas⊢
   repeat' ((conv=>whnf);first|refine K1.w ?_|refine K1.u ?_|refine K1.P1 (hhas) rfl ?_|refine aG.cO ?_|refine K1.z ?_|refine K1.y (fun _=> ?_) (fun _=> ?_)|fail)
   all_goals(conv=>whnf)
   all_goals first
     |exact⟨⟨(j+1,(_,true)),hjl,by first|exact k1 (by assumption) (by assumption)|exact k2 (by assumption) (by omega)⟩,_,dB.mk' [] _ _ _ rfl ⟨aj.refl _,aj.refl _,aj.refl _,aj.refl _,aj.refl _,aj.int rfl,trivial⟩ ⟨⟨_,rfl,au.refl _⟩,trivial⟩ rfl,Nat.sub_succ_lt_self _ _ hjl⟩
     |exact⟨⟨(j+1,(s1,s2)),hjl,by first|exact k3 (by assumption)|exact k4 (by assumption) (by omega)⟩,_,dB.mk' [] _ _ _ rfl ⟨aj.refl _,aj.refl _,aj.refl _,aj.refl _,aj.refl _,aj.int rfl,trivial⟩ ⟨⟨_,rfl,au.refl _⟩,trivial⟩ rfl,Nat.sub_succ_lt_self _ _ hjl⟩
 · rw[List.take_of_length_le (show l.length≤j by omega)]at hs
   have hR:hgt l c=s.1+1:=by rw[hs];rfl
   rw[hR]
   repeat' ((conv=>whnf);first|refine K1.w ?_|refine K1.u ?_|refine aG.cO ?_|refine K1.z ?_|refine K1.y (fun _=> ?_) (fun _=> ?_)|fail)
   conv=>whnf
   exact aW.mk (aj.refl _)
theorem U3 {n:Nat} {F:Nat→List AV} (hl:n≤1000000000):aH Tryz.prog 65 [.sl 12 n true F] (.sl 12 n true F) []:=by
 refine K1.E 0x15 Tryz.func65 ?_
 repeat' ((conv=>whnf);first|refine K1.w ?_|refine K1.u ?_|refine aG.cO ?_|refine K1.z ?_|refine K1.y (fun _=> ?_) (fun _=> ?_)|fail)
 all_goals(conv=>whnf)
 · obtain rfl:n=0:=by assumption
   exact aW.mk fun X u h=>C1.uo (by decide) h
 · exact aW.mk (aj.sl (Nat.zero_add _) fun i _=>rfl)
def x9 (sent:Int) (w:List Ev):Int:=if w.length=0 then sent else(w.getD (w.length-1) default).n
def LD (most sent:Int) (w:List Ev) (e:Ev):List Ev×Int:=if most≤(w.length:Int)then(w,17)else if e.n=x9 sent w+1 then(w++[e],0)else(w,20)
theorem OC (most batch sent:Int) (w w':List Ev) (e:Ev) (x:Int) (hl:w.length≤1000000) (hs:0≤sent∧sent≤1000000000) (hn: ∀j,0≤(w.getD j default).n∧(w.getD j default).n≤1000000000) (h:LD most sent w e=(w',x)):
  aY Tryz.prog 56 [(0,QN most batch sent (.own 1)),(1,jd w)] [.box 0 0,e.av] (.v (.int .i64 x)) [(0,QN most batch sent (.own 2)),(2,jd w')]:=by
 have hlast:=hn ((w.length:Int)-1).toNat
 have hl1:w.length≠0→x9 sent w=(w.getD ((w.length:Int)-1).toNat default).n:=fun h=>by unfold x9;rw[if_neg h,show((w.length:Int)-1).toNat=w.length-1 by omega]
 have hl0:w.length=0→x9 sent w=sent:=fun h=>by unfold x9;rw[if_pos h]
 have Gf:w.length≠0→Nat.ble (((w.length:Int)-1).toNat+1) w.length=true:=fun h=>Nat.ble_eq_true_of_le (by omega)
 unfold LD at h
 dsimp only[QN,jd,Ev.av,Ev.cs]
 clear hn
 by_cases hm:most≤(w.length:Int)
 · rw[if_pos hm]at h
   cases h
   refine K1.M 0x40010027b Tryz.func56 40 ?_
   repeat' ((conv=>whnf);first|refine K1.w ?_|refine K1.u ?_|refine K1.I 0x5 Tryz.func51 ?_|refine K1.o (id:=9) [(0,none),(1,none),(2,none),(3,none),(4,none),(5,none),(6,some [5]),(7,some [5,4,2]),(8,none),(9,none),(10,some [5,4,2,8])] [(3,[2]),(4,[2]),(6,[5]),(7,[5,4,2]),(8,[5,4,2]),(9,[5,4,2,8]),(10,[5,4,2,8])] ?_|refine K1.z ?_|refine K1.y (fun _=> ?_) (fun _=> ?_)|fail)
   all_goals(conv=>whnf)
   exact⟨[(1,2)],rfl,rfl,⟨⟨_,rfl,au.refl _⟩,⟨_,rfl,au.refl _⟩,trivial⟩,rfl,rfl,aj.refl _⟩
 · rw [if_neg hm]at h
   by_cases h0:w.length=0
   · rw[hl0 h0]at h
     clear hl0 hl1 Gf
     by_cases he:e.n=sent+1
     · rw[if_pos he]at h
       cases h
       refine K1.M 0x40010027b Tryz.func56 40 ?_
       repeat' ((conv=>whnf);first|refine K1.w ?_|refine K1.u ?_|refine K1.I 0x5 Tryz.func51 ?_|refine K1.o (id:=9) [(0,none),(1,none),(2,none),(3,none),(4,none),(5,none),(6,some [5]),(7,some [5,4,2]),(8,none),(9,none),(10,some [5,4,2,8])] [(3,[2]),(4,[2]),(6,[5]),(7,[5,4,2]),(8,[5,4,2]),(9,[5,4,2,8]),(10,[5,4,2,8])] ?_|refine K1.z ?_|refine K1.y (fun _=> ?_) (fun _=> ?_)|fail)
       all_goals(conv=>whnf)
       exact⟨[(42,2)],rfl,rfl,⟨⟨_,rfl,au.refl _⟩,⟨_,rfl,au.row (by simp) fun m hm=>bn (c:=Ev.cs) (l:=w) rfl rfl m hm⟩,trivial⟩,rfl,rfl,aj.refl _⟩
     · rw[if_neg he]at h
       cases h
       refine K1.M 0x40010027b Tryz.func56 40 ?_
       repeat' ((conv=>whnf);first|refine K1.w ?_|refine K1.u ?_|refine K1.I 0x5 Tryz.func51 ?_|refine K1.o (id:=9) [(0,none),(1,none),(2,none),(3,none),(4,none),(5,none),(6,some [5]),(7,some [5,4,2]),(8,none),(9,none),(10,some [5,4,2,8])] [(3,[2]),(4,[2]),(6,[5]),(7,[5,4,2]),(8,[5,4,2]),(9,[5,4,2,8]),(10,[5,4,2,8])] ?_|refine K1.z ?_|refine K1.y (fun _=> ?_) (fun _=> ?_)|fail)
       all_goals(conv=>whnf)
       exact⟨[(1,2)],rfl,rfl,⟨⟨_,rfl,au.refl _⟩,⟨_,rfl,au.refl _⟩,trivial⟩,rfl,rfl,aj.refl _⟩
   · rw[hl1 h0]at h
     have Gf:=Gf h0
     clear hl0 hl1
     by_cases he:e.n=(w.getD ((w.length:Int)-1).toNat default).n+1
     · rw[if_pos he]at h
       cases h
       refine K1.M 0x40010027b Tryz.func56 40 ?_
       repeat' ((conv=>whnf);first|refine K1.w ?_|refine K1.u ?_|refine K1.I 0x5 Tryz.func51 ?_|refine iC.yes Gf ?_|refine K1.o (id:=9) [(0,none),(1,none),(2,none),(3,none),(4,none),(5,none),(6,some [5]),(7,some [5,4,2]),(8,none),(9,none),(10,some [5,4,2,8])] [(3,[2]),(4,[2]),(6,[5]),(7,[5,4,2]),(8,[5,4,2]),(9,[5,4,2,8]),(10,[5,4,2,8])] ?_|refine K1.z ?_|refine K1.y (fun _=> ?_) (fun _=> ?_)|fail)
       all_goals(conv=>whnf)
       exact⟨[(42,2)],rfl,rfl,⟨⟨_,rfl,au.refl _⟩,⟨_,rfl,au.row (by simp) fun m hm=>bn (c:=Ev.cs) (l:=w) rfl rfl m hm⟩,trivial⟩,rfl,rfl,aj.refl _⟩
     · rw[if_neg he]at h
       cases h
       refine K1.M 0x40010027b Tryz.func56 40 ?_
       repeat' ((conv=>whnf);first|refine K1.w ?_|refine K1.u ?_|refine K1.I 0x5 Tryz.func51 ?_|refine iC.yes Gf ?_|refine K1.o (id:=9) [(0,none),(1,none),(2,none),(3,none),(4,none),(5,none),(6,some [5]),(7,some [5,4,2]),(8,none),(9,none),(10,some [5,4,2,8])] [(3,[2]),(4,[2]),(6,[5]),(7,[5,4,2]),(8,[5,4,2]),(9,[5,4,2,8]),(10,[5,4,2,8])] ?_|refine K1.z ?_|refine K1.y (fun _=> ?_) (fun _=> ?_)|fail)
       all_goals(conv=>whnf)
       exact⟨[(1,2)],rfl,rfl,⟨⟨_,rfl,au.refl _⟩,⟨_,rfl,au.refl _⟩,trivial⟩,rfl,rfl,aj.refl _⟩
end
section
open Go.RowKit
structure Rc where
 (k r u:Int) (c:aZ) (ev:List Ev)
def Rc.cs (x:Rc):List AV:=[.v (.int .i64 x.k),.v (.int .i64 x.r),.v (.int .i64 x.u),.v (.int .i64 x.c.c0),.v (.int .i64 x.c.c1),.v (.int .i64 x.c.c2),.v (.int .i64 x.c.c3),.v (.int .i64 x.c.c4),.sl 12 x.ev.length true (dV x.ev)]
def Rc.av (x:Rc):AV:= .agg x.cs
def Gg (k:Int):Bool:=k==3||k==4
def Gh (k:Int):Bool:=k==1||k==2||k==5||k==4
def Gi (k:Int):Bool:=k==6
def rcK (k:Int):Bool:=decide (1≤k∧k≤6)
def ML (c:aZ):Bool:=oJ c.c0&&oJ c.c1&&oJ c.c2&&oJ c.c3&&oJ c.c4
def Ij (c:aZ):Bool:=decide (c.c0=0∧c.c1=0∧c.c2=0∧c.c3=0∧c.c4=0)
theorem jo (c:aZ):Ij c=true↔c=dX:=by
 obtain⟨a,b,d,e,f⟩:=c
 simp[Ij,dX]
def mX (x:Rc):Bool:=
 rcK x.k&&decide (0≤x.r)&&decide (x.r<5)&&oJ x.u&&decide (x.ev.length≤4096)&&ML x.c&&(Gg x.k||decide (x.u=0))&&(Gi x.k||Ij x.c)&&(Gh x.k||decide (x.ev.length=0))&&
  x.ev.all (fun e=>decide (eG e=0))&&(decide (x.k≠1)||decide (x.ev.length=1))
end
section
open Go.RowKit
theorem bF.drop {F:Nat→List AV} {l:List UInt8} (h:bF F l) (k:Nat):bF (fun i=>F (k+i)) (l.drop k):=by
 intro i hi
 rw[List.length_drop]at hi
 show F (k+i)=bC ((l.drop k).getD i default)
 rw[h (k+i) (by omega)]
 show bC (l.getD (k+i) default)=_
 congr 1
 simp
theorem bF.take {F:Nat→List AV} {l:List UInt8} (h:bF F l) (k:Nat):bF F (l.take k):=by
 intro i hi
 rw[List.length_take]at hi
 show F i=bC ((l.take k).getD i default)
 rw[h i (by omega)]
 show bC (l.getD i default)=_
 congr 1
 simp[show i<k by omega]
theorem aj.pz {n:Nat} {sc:Bool} {F:Nat→List AV} {l:List UInt8} (h:bF F l) (hn:n=l.length):aj (.sl 1 n sc F) (.sl 1 l.length sc (aX l)):=aj.sl hn fun i hi=>h i (by omega)
theorem Gj: ∀l:List UInt8,flat l.length (aX l)=l.map fun b=> .v (.int .u8 (b.toNat:Int))
  |[]=>rfl
  | b::l=>by
    show aX (b::l) 0++flat l.length (fun i=>aX (b::l) (i+1))=_
    rw[List.map_cons,←Gj l]
    rfl
theorem aI.vals {R:AV→Value→Prop} (hR: ∀x u,R (.v x) u→u=x): ∀ {xs us:List Value},aI R (xs.map .v) us→us=xs
  | [],us,h=>by
    have:=h.1
    simp at this
    exact List.eq_nil_of_length_eq_zero this.symm
  |x::xs,[],h=>by have:=h.1;simp at this
  | x::xs,u::us,h=>by
    have h0:u=x:=hR x u (h.2 0 _ _ rfl rfl)
    have:=aI.vals hR (xs:=xs) (us:=us) ⟨by simpa using h.1,fun i a b ha hb=>h.2 (i+1) a b (by simpa using ha) (by simpa using hb)⟩
    rw[h0,this]
theorem Bs.of {n:Nat} {F:Nat→List AV} {K:List UInt8→Prop} (l:List UInt8) (hF:bF F l) (hn:n=l.length) (h:K l):Bs n F K:= .mk l hn (fun i hi=>hF i (by omega)) h
theorem aep:(default:UInt8)=0:=rfl
theorem QO {P:Program} {f:FuncId} {r:AV} {l:List UInt8} (he:Enters P f) (h: ∀ (A:Option Addr) (n c:Nat) (w:World),Rd w w.heap.size 1 A n (l.map bV)→n=l.length→n≤c→
  Calls P f #[.slice A n c] w fun e w'=> ∃u,e= .returned u∧Below w.heap.size w w'∧ ∀X,C2 X r u) {n:Nat} {F:Nat→List AV} (hF:bF F l) (hn:n=l.length):aH P f [.sl 1 n true F] r []:=by
 refine⟨he,fun w keep args hkeep hargs=> ?_⟩
 obtain⟨u,rfl,hu⟩:=tZ hargs
 have hu:PC w keep (.sl 1 l.length true (aX l)) u:=aj.pz hF hn ⟨w,keep,fun _=>undef⟩ u hu
 cases hu with
 | sl _ _ _ _ A c us hs hnc hc hl hf hsc hpc hr=>
   have hall:aI (PC w keep) (flat l.length (aX l)) us:=⟨by rw[hl];exact mM hf,hpc⟩
   have e1:flat l.length (aX l)=(l.map bV).map .v:=by rw[Gj,List.map_map];rfl
   rw[e1]at hall
   have e2:us=l.map bV:=aI.vals (fun x u h=>by cases h;rfl) hall
   subst e2
   have hRd:Rd w w.heap.size 1 A l.length (l.map bV):=by
    refine⟨by simp,fun hpos=> ?_⟩
    rcases hr with h0|⟨b,o,hA,hk,hcell⟩
    · omega
    · exact⟨b,o,hA,hkeep b hk,hcell⟩
   refine(h A l.length c w hRd rfl hnc).mono ?_
   rintro e w' ⟨v,h1,h2,h3⟩
   exact⟨v,fun _=>undef,h1,h2,h3 _,(fun p hp=>by cases hp),by simp[ah],(fun b hb=>by simp[ah]at hb)⟩
theorem C2.aer (X:CX) (a b c:Value):C2 X (.dM [.v a,.v b,.v c]) (.tuple #[a,b,c]):=⟨[a,b,c],rfl,aI.cons (R:=C1 X) (show C1 X (.v a) a from rfl) (aI.cons (R:=C1 X) (show C1 X (.v b) b from rfl) (aI.cons (R:=C1 X) (show C1 X (.v c) c from rfl) aI.nil))⟩
theorem iU {n:Nat} {F:Nat→List AV} (l:List UInt8) (hF:bF F l) (hn:n=l.length):aH Tryz.prog 80 [.sl 1 n true F] (.dM [.v (.int .u64 ((dF l).1:Int)),.v (.int .i64 ((dF l).2.1:Int)),.v (.int .i64 (dF l).2.2)]) []:=
 QO ⟨_,_,Tryz.func80,rfl,rfl⟩ (fun A n c w h h1 h2=>(UO A n c l w h h1 h2).mono fun e w' ⟨h3,h4⟩=>⟨_,h3,by rw[h4];exact Below.refl _ _,fun X=>C2.aer X _ _ _⟩) hF hn
def eT (x:Int):AO:= .box 26 [.v (.int .i64 x)]
def iT (u:Nat):AO:= .box 3 [.v (.int .i64 (u:Int))]
def bT (bs:List UInt8):AO:= .box 49 [.sl 1 bs.length true (aX bs)]
theorem Yq (bs:List UInt8) (u:Nat) (x lo hi:Int) (hl:bs.length≤1000000000):
  aY Tryz.prog 141 [(0,eT x),(1,iT u),(2,bT bs)] [.v (.int .i64 lo),.v (.int .i64 hi),.box 0 0,.box 1 0,.box 2 0]
   (.v (.int .i64 (fG bs lo hi (u,x)).1)) [(0,eT (fG bs lo hi (u,x)).2.2),(1,iT (fG bs lo hi (u,x)).2.1),(2,bT bs)]:=by
 unfold eT iT bT
 refine K1.M 0x4005019f Tryz.func141 10 ?_
 repeat' ((conv=>whnf);first|refine K1.w ?_|refine K1.u ?_|refine K1.P1 (vZ _ _ _) rfl ?_|refine K1.z ?_|refine K1.y (fun _=> ?_) (fun _=> ?_)|fail)
 all_goals(conv=>whnf)
 all_goals(refine KO.auto rfl rfl ⟨⟨_,rfl,au.box1 ?_⟩,⟨_,rfl,au.box1 ?_⟩,⟨_,rfl,au.refl _⟩,trivial⟩ rfl rfl (aj.int ?_))
 all_goals(unfold fG;simp only[aep,Int.toNat_natCast]at*;grind)
theorem U4 (bs:List UInt8) (u:Nat) (x lo hi:Int) (hu:u≤bs.length) (hl:bs.length≤1000000000) (h0:0≤lo) (h1:lo≤hi) (h2:hi≤16777216):
  aY Tryz.prog 142 [(0,eT x),(1,iT u),(2,bT bs)] [.v (.int .i64 lo),.v (.int .i64 hi),.box 0 0,.box 2 0,.box 1 0]
   (.v (.int .i64 (eU bs lo hi (u,x)).1)) [(0,eT (eU bs lo hi (u,x)).2.2),(1,iT (eU bs lo hi (u,x)).2.1),(2,bT bs)]:=by
 unfold eT iT bT
 have hv:=wu (bs.drop u)
 rw[List.length_drop]at hv
 refine K1.M 0x140000179f Tryz.func142 10 ?_
 repeat' ((conv=>whnf);first|refine K1.w ?_|refine K1.u ?_|refine K1.P1 (iU (bs.drop u) ((bF.bytes bs).drop _) (by simp)) rfl ?_|refine K1.z ?_|refine K1.y (fun _=> ?_) (fun _=> ?_)|fail)
 all_goals(conv=>whnf)
 all_goals(refine KO.auto rfl rfl ⟨⟨_,rfl,au.box1 ?_⟩,⟨_,rfl,au.box1 ?_⟩,⟨_,rfl,au.refl _⟩,trivial⟩ rfl rfl (aj.int ?_))
 all_goals(unfold eU;grind)
theorem U5 (bs:List UInt8) (u:Nat) (x sz:Int) (hu:u≤bs.length) (hl:bs.length≤1000000000) (h0:0≤sz) (h2:sz≤16777216):
  aY Tryz.prog 143 [(0,eT x),(1,iT u),(2,bT bs)] [.v (.int .i64 sz),.fn 115 [],.box 0 0,.box 2 0,.box 1 0]
   (.v (.string (fO bs sz keyE (u,x)).1)) [(0,eT (fO bs sz keyE (u,x)).2.2),(1,iT (fO bs sz keyE (u,x)).2.1),(2,bT bs)]:=by
 unfold eT iT bT
 obtain⟨z,rfl⟩:=Int.eq_ofNat_of_zero_le h0
 refine K1.M 0x40014019f Tryz.func143 10 ?_
 repeat' ((conv=>whnf);first|refine K1.w ?_|refine K1.u ?_|refine K1.P1 (Ob _) rfl ?_|refine Bs.of ((bs.drop u).take z) (((bF.bytes bs).drop _).take _) (by simp;omega) ?_|refine K1.z ?_|refine K1.y (fun _=> ?_) (fun _=> ?_)|fail)
 all_goals(conv=>whnf)
 all_goals(refine KO.auto rfl rfl ⟨⟨_,rfl,au.box1 ?_⟩,⟨_,rfl,au.box1 ?_⟩,⟨_,rfl,au.refl _⟩,trivial⟩ rfl rfl (aj.str ?_))
 all_goals(unfold fO;first|(simp only[Ig,Int.toNat_natCast]at*;grind)|grind)
theorem U6 (bs:List UInt8) (u:Nat) (x sz:Int) (hu:u≤bs.length) (hl:bs.length≤1000000000) (h0:0≤sz) (h2:sz≤16777216):
  aY Tryz.prog 143 [(0,eT x),(1,iT u),(2,bT bs)] [.v (.int .i64 sz),.fn 117 [],.box 0 0,.box 2 0,.box 1 0]
   (.v (.string (fO bs sz eX (u,x)).1)) [(0,eT (fO bs sz eX (u,x)).2.2),(1,iT (fO bs sz eX (u,x)).2.1),(2,bT bs)]:=by
 unfold eT iT bT
 obtain⟨z,rfl⟩:=Int.eq_ofNat_of_zero_le h0
 refine K1.M 0x40014019f Tryz.func143 10 ?_
 repeat' ((conv=>whnf);first|refine K1.w ?_|refine K1.u ?_|refine K1.P1 (FM _) rfl ?_|refine Bs.of ((bs.drop u).take z) (((bF.bytes bs).drop _).take _) (by simp;omega) ?_|refine K1.z ?_|refine K1.y (fun _=> ?_) (fun _=> ?_)|fail)
 all_goals(conv=>whnf)
 all_goals(refine KO.auto rfl rfl ⟨⟨_,rfl,au.box1 ?_⟩,⟨_,rfl,au.box1 ?_⟩,⟨_,rfl,au.refl _⟩,trivial⟩ rfl rfl (aj.str ?_))
 all_goals(unfold fO;first|(simp only[Ig,Int.toNat_natCast]at*;grind)|grind)
theorem aaF {bs:List UInt8} {lo hi:Int} {s:Sq} (h:s.1≤bs.length):(eU bs lo hi s).2.1≤bs.length:=by
 have hv:=wu (bs.drop s.1)
 rw[List.length_drop]at hv
 unfold eU
 grind
theorem Yr {bs:List UInt8} {sz:Int} {may:ByteArray→Int} {s:Sq} (h:s.1≤bs.length):(fO bs sz may s).2.1≤bs.length:=by unfold fO;grind
theorem acE {bs:List UInt8} {lo hi:Int} {s:Sq}:0≤(fG bs lo hi s).1∧(fG bs lo hi s).1≤255:=by
 unfold fG
 have:=UInt8.toNat_lt (bs.getD s.1 0)
 grind
theorem fZ (bs:List UInt8) (s s':Sq) (lo hi c:Int) (h:fG bs lo hi s=(c,s')) (hl:bs.length≤1000000000):
  aY Tryz.prog 141 [(0,eT s.2),(1,iT s.1),(2,bT bs)] [.v (.int .i64 lo),.v (.int .i64 hi),.box 0 0,.box 1 0,.box 2 0]
   (.v (.int .i64 c)) [(0,eT s'.2),(1,iT s'.1),(2,bT bs)]:=by
 have:=Yq bs s.1 s.2 lo hi hl
 rw[show(s.1,s.2)=s from rfl,h]at this
 exact this
theorem dP (bs:List UInt8) (s s':Sq) (lo hi c:Int) (h:eU bs lo hi s=(c,s')) (hu:s.1≤bs.length) (hl:bs.length≤1000000000) (h0:0≤lo) (h1:lo≤hi) (h2:hi≤16777216):
  aY Tryz.prog 142 [(0,eT s.2),(1,iT s.1),(2,bT bs)] [.v (.int .i64 lo),.v (.int .i64 hi),.box 0 0,.box 2 0,.box 1 0]
   (.v (.int .i64 c)) [(0,eT s'.2),(1,iT s'.1),(2,bT bs)]:=by
 have:=U4 bs s.1 s.2 lo hi hu hl h0 h1 h2
 rw[show(s.1,s.2)=s from rfl,h]at this
 exact this
theorem wC (bs:List UInt8) (s s':Sq) (sz:Int) (c:ByteArray) (h:fO bs sz keyE s=(c,s')) (hu:s.1≤bs.length) (hl:bs.length≤1000000000) (h0:0≤sz∧sz≤255):
  aY Tryz.prog 143 [(0,eT s.2),(1,iT s.1),(2,bT bs)] [.v (.int .i64 sz),.fn 115 [],.box 0 0,.box 2 0,.box 1 0]
   (.v (.string c)) [(0,eT s'.2),(1,iT s'.1),(2,bT bs)]:=by
 have:=U5 bs s.1 s.2 sz hu hl h0.1 (by omega)
 rw[show(s.1,s.2)=s from rfl,h]at this
 exact this
theorem wE (bs:List UInt8) (s s':Sq) (sz:Int) (c:ByteArray) (h:fO bs sz eX s=(c,s')) (hu:s.1≤bs.length) (hl:bs.length≤1000000000) (h0:0≤sz∧sz≤255):
  aY Tryz.prog 143 [(0,eT s.2),(1,iT s.1),(2,bT bs)] [.v (.int .i64 sz),.fn 117 [],.box 0 0,.box 2 0,.box 1 0]
   (.v (.string c)) [(0,eT s'.2),(1,iT s'.1),(2,bT bs)]:=by
 have:=U6 bs s.1 s.2 sz hu hl h0.1 (by omega)
 rw[show(s.1,s.2)=s from rfl,h]at this
 exact this
end
end Go.Proofs.YtimhagicagdkfaaGreat
