/-
  Contracts of the walk:RcW,Dk,Ps1,Ap1,BkLp,Ps2,Wo,La1.
-/
import Derived.Test.YtimhagicagdkfaaGreatNi16
import Derived.Test.YtimhagicagdkfaaGreatNi11
import Derived.Test.YtimhagicagdkfaaGreatNi8
import Derived.Test.YtimhagicagdkfaaGreatNi9
set_option maxHeartbeats 16000000
set_option maxRecDepth 100000
set_option linter.unusedVariables false
set_option linter.unusedSimpArgs false
namespace Go.Proofs.YtimhagicagdkfaaGreat
section
open Go.RowKit
theorem Vk (b:List UInt8):(jH b).1.ev.length≤4096:=by
 have hl (t:List UInt8) (l:List Ev) (h:ng t=some l):l.length≤4096:=by
  unfold ng at h
  split at h
  · cases h
  · split at h
    · cases h
    · rename_i m k _ hm
      cases h0:je (t.drop k) m with
      |none=>rw[h0]at h;cases h
      | some p=>
        obtain⟨l0,r0⟩:=p
        rw[h0]at h
        simp only[Option.map_some,Option.some.injEq]at h
        subst h
        have:=(nU h0).1
        omega
 have hr (k r u:Int) (t:List UInt8):(OA k r u t).1.ev.length≤4096:=by
  unfold OA
  split
  · simp
  · rename_i l h
    exact hl t l h
 unfold jH
 split
 · simp[YE]
 · unfold rdR
   split
   · exact hr ..
   · split
     · unfold aaM
       split<;>simp
     · split
       · split
         · simp
         · exact hr ..
       · split<;>simp
def wJ:Option (Rc×Nat)→AV
  |none=> .dL [YE.av,.v (.int .i64 0),.v (.bool false)]
  |some (x,n)=> .dL [x.av,.v (.int .i64 (n:Int)),.v (.bool true)]
theorem OE (b c:AV) (f:Nat→List AV) {a1 a2 a3 a4 a5 a6 a7 a8:AV}:aT (.dL [.agg [a1,a2,a3,a4,a5,a6,a7,a8,.v (.slice none 0 0)],b,c]) (.dL [.agg [a1,a2,a3,a4,a5,a6,a7,a8,.sl 12 0 true f],b,c]):=
 aT.dL (.of (fun _ _ h=>C1.Tn h) (.same (.same .nil)))
theorem aaR (b:List UInt8) (hl:b.length≤1000000000):aG Tryz.prog 98 [.sl 1 b.length true (aV b)] (wJ (nV b)) []:=by
 have hs:=iV b (bD.bytes b) rfl
 have hle:=vZ b
 unfold nV
 obtain⟨⟨v,u,e⟩,hv⟩: ∃p,dG b=p:=⟨_,rfl⟩
 rw[hv]at hs hle⊢
 dsimp only at hs hle⊢
 by_cases h0:e≠0∨b.length-u<v
 · rw[if_pos h0]
   dsimp only[wJ]
   refine K1.E 0x100040400040003ffd Tryz.func98 ?_
   repeat' ((conv=>whnf);first|refine K1.w ?_|refine K1.u ?_|refine K1.P1 hs rfl ?_|refine aJ.dR ?_|refine K1.z ?_|refine K1.y (fun _=>?_) (fun _=>?_)|fail)
   all_goals(conv=>whnf)
   all_goals first
     |exact bG.mk (OE _ _ _)
     |(exfalso;omega)
 · rw [if_neg h0]
   obtain rfl:e=0:=by omega
   have hvl:u+v≤b.length:=by omega
   obtain⟨W,hW⟩: ∃W,W=(b.drop u).take v:=⟨_,rfl⟩
   have hWl:W.length=v:=by rw[hW,List.length_take,List.length_drop];omega
   have hWF:bD (fun i=>aV b (u+i)) W:=by rw[hW];exact(bD.drop (bD.bytes b) u).take v
   rw[←hW]
   by_cases ho:rW W
   · rw [if_pos ho]
     have hil:(inner W).length≤W.length:=by unfold inner;rw[List.length_take];omega
     have hop: ∀ {n:Nat} {F:Nat→List AV} (_:bD F W) (_:n=W.length),_:=fun{n} {F} hF hn=>(Jk 0 (n:=n) (F:=F) (inner W) (by rw[←AX ho];exact hF) (by rw[←AX ho];exact hn) (by omega)).thaw
     have hrd:=QN (inner W) (bD.bytes _) rfl (by omega)
     have hrl:=Vk (inner W)
     generalize inner W=m at hop hrd hrl hil
     obtain⟨⟨z,ok⟩,hz⟩: ∃p,jH m=p:=⟨_,rfl⟩
     rw[hz]at hrd hrl⊢
     dsimp only at hrd hrl⊢
     cases ok with
     | false=>
       rw[if_neg (by simp)]
       dsimp only[wJ]
       refine K1.E 0x100040400040003ffd Tryz.func98 ?_
       repeat' ((conv=>whnf);first|refine K1.w ?_|refine K1.u ?_|refine K1.P1 hs rfl ?_|refine K1.P1 (hop hWF (by omega)) rfl ?_|refine K1.P1 hrd rfl ?_|refine aJ.dR ?_|refine K1.z ?_|refine K1.y (fun _=>?_) (fun _=>?_)|fail)
       all_goals(conv=>whnf)
       all_goals exact bG.mk (OE _ _ _)
     | true=>
       cases hm:lC z with
       | false=>
         rw[if_neg (by simp)]
         have hp:=Yt z (by omega) hm
         dsimp only[wJ]
         refine K1.E 0x100040400040003ffd Tryz.func98 ?_
         repeat' ((conv=>whnf);first|refine K1.w ?_|refine K1.u ?_|refine K1.P1 hs rfl ?_|refine K1.P1 (hop hWF (by omega)) rfl ?_|refine K1.P1 hrd rfl ?_|refine K1.P1 hp rfl ?_|refine aJ.dR ?_|refine K1.z ?_|refine K1.y (fun _=>?_) (fun _=>?_)|fail)
         all_goals(conv=>whnf)
         all_goals exact bG.mk (OE _ _ _)
       | true=>
         have hp:=(BZ 0 z hm).thaw
         have he: ∀ {n:Nat} (_:n=u+v),_:=fun{n} hn=>Gp (m:=n) (aQ z) (b.take (u+v)) (bD.bytes _) rfl ((bD.bytes b).take (u+v)) (by rw[List.length_take];omega)
         by_cases hb:aQ z=b.take (u+v)
         · rw[if_pos ⟨rfl,rfl,hb⟩]
           dsimp only[wJ]
           rw[decide_eq_true hb]at he
           generalize aQ z=w at hp he
           refine K1.E 0x100040400040003ffd Tryz.func98 ?_
           repeat' ((conv=>whnf);first|refine K1.w ?_|refine K1.u ?_|refine K1.P1 hs rfl ?_|refine K1.P1 (hop hWF (by omega)) rfl ?_|refine K1.P1 hrd rfl ?_|refine K1.P1 hp rfl ?_|refine K1.P1 (he (by omega)) rfl ?_|refine aJ.dR ?_|refine K1.z ?_|refine K1.y (fun _=>?_) (fun _=>?_)|fail)
           all_goals(conv=>whnf)
           all_goals exact bG.mk (aT.dL (.same (.of (fun X u h=>aT.int (by omega) X u h) (.same .nil))))
         · rw[if_neg (fun h=>hb h.2.2)]
           dsimp only[wJ]
           rw[decide_eq_false hb]at he
           generalize aQ z=w at hp he
           refine K1.E 0x100040400040003ffd Tryz.func98 ?_
           repeat' ((conv=>whnf);first|refine K1.w ?_|refine K1.u ?_|refine K1.P1 hs rfl ?_|refine K1.P1 (hop hWF (by omega)) rfl ?_|refine K1.P1 hrd rfl ?_|refine K1.P1 hp rfl ?_|refine K1.P1 (he (by omega)) rfl ?_|refine aJ.dR ?_|refine K1.z ?_|refine K1.y (fun _=>?_) (fun _=>?_)|fail)
           all_goals(conv=>whnf)
           all_goals exact bG.mk (OE _ _ _)
   · rw[if_neg ho]
     dsimp only[wJ]
     have hop: ∀ {n:Nat} {F:Nat→List AV} (_:bD F W) (_:n=W.length),_:=fun{n} {F} hF hn=>Tj (n:=n) (F:=F) W ho hF hn (by omega)
     refine K1.E 0x100040400040003ffd Tryz.func98 ?_
     repeat' ((conv=>whnf);first|refine K1.w ?_|refine K1.u ?_|refine K1.P1 hs rfl ?_|refine K1.P1 (hop hWF (by omega)) rfl ?_|refine aJ.dR ?_|refine K1.z ?_|refine K1.y (fun _=>?_) (fun _=>?_)|fail)
     all_goals(conv=>whnf)
     all_goals exact bG.mk (OE _ _ _)
theorem uK {n:Nat} {F:Nat→List AV} (b:List UInt8) {p:Option (Rc×Nat)} (hp:nV b=p) (hF:bD F b) (hn:n=b.length) (hl:b.length≤1000000000):aG Tryz.prog 98 [.sl 1 n true F] (wJ p) []:=by
 have:=(aaR b hl).args (Ch.pF hF hn .nil)
 rwa [hp]at this
abbrev rcF (l:List Rc):Nat→List AV:=qL Rc.cs l
theorem Gu: ∀l:List Rc,l.length≤(kY l).length
  |[]=>Nat.le_refl _
  | x::l=>by
    have:=Gu l
    have:=Oo x
    show l.length+1≤(aQ x++kY l).length
    rw[List.length_append]
    omega
theorem adO (b:List UInt8) (hl:b.length≤1000000000) (l:List Rc) (t:List UInt8) (hr:Gs b l t):
  aG Tryz.prog 60 [.sl 1 b.length true (aV b)] (.dL [.sl 9 l.length false (rcF l),.v (.int .i64 ((kY l).length:Int))]) []:=by
 have hbl:(kY l).length≤b.length:=by rw[hr.eq,List.length_append];omega
 have hat: ∀j,j≤l.length→(kY (l.take j)).length≤b.length:=by
  intro j _
  have e:kY l=kY (l.take j)++kY (l.drop j):=by
   show _=List.flatMap aQ (l.take j)++List.flatMap aQ (l.drop j)
   rw[←List.flatMap_append,List.take_append_drop]
   rfl
  have:=congrArg List.length e
  rw[List.length_append]at this
  omega
 have hnx: ∀j,j<l.length→(kY (l.take (j+1))).length=(kY (l.take j)).length+(aQ (l.getD j default)).length:=fun j hj=>by rw[Vj hj,List.length_append]
 have hll:=Gu l
 have hstep:=Vh hr
 have hend:=YG hr
 refine QO dW 0x201fd (l:=0) Tryz.func60 rfl rfl rfl (by rfl) ?_
 conv=>whnf
 refine YJ.mk {j:Nat//j≤l.length} (fun j=>match j with
   |⟨0,_⟩=>⟨[(0,.sl 1 b.length true (aV b)),(4,.v (.slice none 0 0)),(5,.v (.int .i64 0))],[],[],0⟩
   |⟨i+1,_⟩=>⟨[(0,.sl 1 b.length true (aV b)),(4,.own 90),(5,.v (.int .i64 ((kY (l.take (i+1))).length:Int)))],[(90,.row 59 9 (i+1) false (rcF (l.take (i+1))))],[],91⟩)
   (fun j=>l.length-j.1) ⟨0,Nat.zero_le _⟩ _
   (dO.mk' [] _ _ _ rfl ⟨aj,aj,aT.int rfl,trivial⟩ trivial rfl) ?_
 rintro⟨_|i,hj⟩
 · dsimp only
   by_cases h0:0<l.length
   · have hs:=hstep 0 h0
     have hn:=hnx 0 h0
     have ha:=hat (0+1) (by omega)
     rw[show kY (l.take 0)=[]from rfl,List.length_nil]at hs hn
     have htk:(l.take (0+1)).length=1:=by rw[List.length_take];omega
     have hg:l.take (0+1)=[l.getD 0 default]:=by cases l with|nil=>cases h0|cons a l=>rfl
     repeat' ((conv=>whnf);first|refine K1.w ?_|refine K1.u ?_|refine K1.P1 (uK (b.drop 0) hs (bD.drop (bD.bytes b) 0) (by simp) (by simp;omega)) rfl ?_|refine aJ.dR ?_|refine K1.z ?_|refine K1.y (fun _=>?_) (fun _=>?_)|fail)
     conv=>whnf
     refine⟨⟨0+1,by omega⟩,_,dO.mk' [(2,90)] _ _ _ rfl ⟨aj,aj,aT.int (by omega),trivial⟩ ⟨⟨_,rfl,cO.row rfl (fun m hm=>?_)⟩,trivial⟩ rfl,by show l.length-(0+1)<l.length-0;omega⟩
     have hm:m<1:=hm
     obtain rfl:m=0:=by omega
     show _=rcF (l.take (0+1)) 0
     rw[hg]
     rfl
   · have hl0:l=[]:=List.eq_nil_of_length_eq_zero (by omega)
     subst hl0
     rw[show kY []=[]from rfl,List.length_nil]at hend
     repeat' ((conv=>whnf);first|refine K1.w ?_|refine K1.u ?_|refine K1.P1 (uK (b.drop 0) hend (bD.drop (bD.bytes b) 0) (by simp) (by simp;omega)) rfl ?_|refine aJ.dR ?_|refine K1.z ?_|refine K1.y (fun _=>?_) (fun _=>?_)|fail)
     conv=>whnf
     exact bG.mk (aT.dL (.of (fun X u h=>C1.kM (by decide) h) (.same .nil)))
 · dsimp only
   have hai:=hat (i+1) hj
   have hlt:(l.take (i+1)).length=i+1:=by rw[List.length_take];omega
   by_cases h0:i+1<l.length
   · have hs:=hstep (i+1) h0
     have hn:=hnx (i+1) h0
     have ha:=hat (i+1+1) (by omega)
     have hg:l.take (i+1+1)=l.take (i+1)++[l.getD (i+1) default]:=by
      rw[List.getD,List.getElem?_eq_getElem h0];exact(List.take_append_getElem h0).symm
     repeat' ((conv=>whnf);first|refine K1.w ?_|refine K1.u ?_|refine K1.P1 (uK (b.drop (kY (l.take (i+1))).length) hs (bD.drop (bD.bytes b) _) (by simp) (by simp;omega)) rfl ?_|refine aJ.dR ?_|refine K1.z ?_|refine K1.y (fun _=>?_) (fun _=>?_)|fail)
     conv=>whnf
     refine⟨⟨i+1+1,by omega⟩,_,dO.mk' [(93,90)] _ _ _ rfl ⟨aj,aj,aT.int (by omega),trivial⟩ ⟨⟨_,rfl,cO.row rfl (fun m hm=>?_)⟩,trivial⟩ rfl,by show l.length-(i+1+1)<l.length-(i+1);omega⟩
     show _=rcF (l.take (i+1+1)) m
     rw[hg]
     exact bJ (c:=Rc.cs) hlt.symm rfl m hm
   · have LC:l.take (i+1)=l:=List.take_of_length_le (by omega)
     have hle:i+1=l.length:=by omega
     rw[LC]at hai hlt⊢
     rw[hle]
     repeat' ((conv=>whnf);first|refine K1.w ?_|refine K1.u ?_|refine K1.P1 (uK (b.drop (kY l).length) hend (bD.drop (bD.bytes b) _) (by simp) (by simp;omega)) rfl ?_|refine aJ.dR ?_|refine K1.z ?_|refine K1.y (fun _=>?_) (fun _=>?_)|fail)
     conv=>whnf
     exact bG.mk (aj)
theorem OG {n:Nat} {F:Nat→List AV} (b:List UInt8) (hF:bD F b) (hn:n=b.length) (hl:b.length≤1000000000) {l:List Rc} {t:List UInt8} (hr:Gs b l t):
  aG Tryz.prog 60 [.sl 1 n true F] (.dL [.sl 9 l.length false (rcF l),.v (.int .i64 ((kY l).length:Int))]) []:=
 (adO b hl l t hr).args (Ch.pF hF hn .nil)
end
section
open Go.RowKit
structure Dk where
 (bs:List UInt8) (down cut:Bool) (keep:Int)
def PK (m:AV) (d:Dk):AO:= .box 146 [m,.v (.bool d.down),.v (.bool d.cut),.v (.int .i64 d.keep)]
def Ih (l:List UInt8):AO:= .row 5 1 l.length true (aV l)
def dk0:Dk:=⟨[],false,false,0⟩
theorem C1.aeB {X:CX} {f:Nat→List AV} {u:Value} (h:C1 X (.v (.slice none 0 0)) u):C1 X (.sl 1 0 true f) u:=by
 have h:u= .slice none 0 0:=h
 subst h
 exact .sl 1 0 true f none 0 [] (by omega) (Nat.le_refl _) (by simp[maxLen]) rfl (fun i hi=>absurd hi (by omega)) (fun _ x hx=>by cases hx) (fun i x u hx=>by simp[flat]at hx) (.inl rfl)
theorem Vl (d:Nat) {n:Nat} {F:Nat→List AV} (l:List UInt8) (hF:bD F l) (hn:n=l.length) (hl:l.length≤1000000000):aG Tryz.prog 99 [.sl 1 n true F] (.own d) [(d,Ih l)]:=by
 refine K1.E 0x15 Tryz.func99 ?_
 repeat' ((conv=>whnf);first|refine K1.w ?_|refine K1.u ?_|refine K1.z ?_|refine K1.y (fun _=>?_) (fun _=>?_)|fail)
 all_goals(conv=>whnf)
 · have h0:n=0:=by assumption
   obtain rfl:l=[]:=List.eq_nil_of_length_eq_zero (by omega)
   exact aJ.nil d _ 1 _ rfl (by decide)
 · refine aJ.qo d rfl rfl ?_ (aj)
   refine cO.row (by omega) fun i hi=>?_
   exact hF i (by omega)
theorem clone_nil:aG Tryz.prog 99 [.v (.slice none 0 0)] (.v (.slice none 0 0)) []:=by
 refine K1.E 0x15 Tryz.func99 ?_
 repeat' ((conv=>whnf);first|refine K1.w ?_|refine K1.u ?_|refine aJ.dR ?_|refine K1.z ?_|refine K1.y (fun _=>?_) (fun _=>?_)|fail)
 all_goals(conv=>whnf)
 exact bG.mk (aj)
theorem all_nil:aG Tryz.prog 60 [.v (.slice none 0 0)] (.dL [.sl 9 0 false (rcF []),.v (.int .i64 0)]) []:=by
 have hr:Gs [] [] []:=⟨by simp,rfl,by unfold nV;rw[if_pos (.inl (by decide))]⟩
 have:=OG (n:=0) (F:=aV []) [] (bD.bytes _) rfl (by decide) hr
 exact this.args (.of (fun _ _ h=>C1.aeB h) .nil)
def Dh (keep:Int) (n:Nat):Int:=if(n:Int)<(if 0>keep then 0 else keep)then(n:Int)else(if 0>keep then 0 else keep)
theorem YL (keep:Int) (n:Nat):0≤Dh keep n∧Dh keep n≤n:=by
 unfold Dh
 split<;>split<;>omega
def oV (d:Dk) (b:List UInt8):Dk×Int:=
 if d.down then(d,18)else if d.cut then(⟨d.bs++b.take (Dh d.keep b.length).toNat,true,false,d.keep⟩,18)else(⟨d.bs++b,false,false,d.keep⟩,0)
theorem zy (d d':Dk) (b:List UInt8) (x:Int) {n:Nat} {F:Nat→List AV} (hF:bD F b) (hn:n=b.length) (h1:d.bs.length≤1000000000) (h2:b.length≤1000000000) (hw:oV d b=(d',x)):
  aW Tryz.prog 94 [(0,PK (.own 1) d),(1,Ih d.bs)] [.box 0 0,.sl 1 n true F] (.v (.int .i64 x)) [(0,PK (.own 2) d'),(2,Ih d'.bs)]:=by
 obtain⟨bs,down,cut,keep⟩:=d
 have hk:=YL keep b.length
 unfold oV at hw
 dsimp only[PK,Ih]at h1 hw⊢
 subst hn
 cases down with
 | true=>
   rw[if_pos rfl]at hw
   obtain⟨rfl,rfl⟩:=Prod.mk.inj hw
   dsimp only
   refine K1.M 0x1113 Tryz.func94 40 ?_
   repeat' ((conv=>whnf);first|refine K1.w ?_|refine K1.u ?_|refine K1.z ?_|refine K1.y (fun _=>?_) (fun _=>?_)|fail)
   all_goals(conv=>whnf)
   exact⟨[(1,2)],rfl,rfl,⟨aH rfl,aH rfl,trivial⟩,rfl,rfl,aj⟩
 | false=>
   rw[if_neg (by simp)]at hw
   cases cut with
   | true=>
     rw[if_pos rfl]at hw
     obtain⟨rfl,rfl⟩:=Prod.mk.inj hw
     dsimp only
     refine K1.M 0x1113 Tryz.func94 40 ?_
     repeat' ((conv=>whnf);first|refine K1.w ?_|refine K1.u ?_|refine K1.z ?_|refine K1.y (fun _=>?_) (fun _=>?_)|fail)
     all_goals(conv=>whnf)
     generalize hb:Dh keep b.length=k at hk⊢
     unfold Dh at hb
     rw[hb]
     clear hb
     repeat' ((conv=>whnf);first|refine K1.w ?_|refine K1.u ?_|refine K1.I 0x1 Tryz.func128 ?_|refine K1.z ?_|refine K1.y (fun _=>?_) (fun _=>?_)|fail)
     all_goals(conv=>whnf)
     exact⟨[(40,2)],rfl,rfl,⟨aH rfl,⟨_,rfl,cO.pF (bD.app (bD.bytes _) (hF.take _) rfl) (by rw[List.length_append,List.length_take];omega) rfl⟩,trivial⟩,rfl,rfl,aj⟩
   | false=>
     rw[if_neg (by simp)]at hw
     obtain⟨rfl,rfl⟩:=Prod.mk.inj hw
     dsimp only
     refine K1.M 0x1113 Tryz.func94 40 ?_
     repeat' ((conv=>whnf);first|refine K1.w ?_|refine K1.u ?_|refine K1.z ?_|refine K1.y (fun _=>?_) (fun _=>?_)|fail)
     all_goals(conv=>whnf)
     exact⟨[(40,2)],rfl,rfl,⟨aH rfl,⟨_,rfl,cO.pF (bD.app (bD.bytes _) hF rfl) List.length_append.symm rfl⟩,trivial⟩,rfl,rfl,aj⟩
theorem aaS {lo k m:Nat} {f g:Nat→List AV} (h:m<lo):RP lo k f g m=f m:=by
 have hb:Nat.ble lo m=false:=by
  rw[Bool.eq_false_iff]
  intro e
  have:=Nat.le_of_ble_eq_true e
  omega
 show(bif Nat.ble lo m then _ else f m)=f m
 rw[hb]
 rfl
theorem QS {l:List UInt8} {n i:Nat} (h:i<n):aV (l.take n) i=aV l i:=by
 show bC _=bC _
 rw[List.getD,List.getD,List.getElem?_take_of_lt h]
theorem Vm (d:Dk) (n:Nat) (hn:n≤d.bs.length) (h1:d.bs.length≤1000000000):
  aW Tryz.prog 62 [(0,PK (.own 1) d),(1,Ih d.bs)] [.box 0 0,.v (.int .i64 (n:Int))] (.dL []) [(0,PK (.own 2) ⟨d.bs.take n,d.down,d.cut,d.keep⟩),(2,Ih (d.bs.take n))]:=by
 obtain⟨bs,down,cut,keep⟩:=d
 dsimp only[PK,Ih]at hn h1⊢
 refine K1.M 0x4003 Tryz.func62 40 ?_
 iterate 5 ((conv=>whnf);first|refine K1.w ?_|refine K1.u ?_|refine ASl.part ?_|refine K1.z ?_|refine K1.y (fun _=>?_) (fun _=>?_)|fail)
 repeat' ((conv=>whnf);first|refine K1.w ?_|refine K1.u ?_|refine ASl.cut ?_|refine K1.z ?_|refine K1.y (fun _=>?_) (fun _=>?_)|fail)
 all_goals(conv=>whnf)
 exact⟨[(40,2)],rfl,rfl,⟨aH rfl,⟨_,rfl,cO.row (by rw[List.length_take];omega) fun i hi=>(aaS hi).trans (QS hi).symm⟩,trivial⟩,rfl,rfl,aj⟩
end
section
open Go.RowKit
theorem get_at (c:bn): ∀ {r:Nat},r<5→c.get (r:Int)=c.at r
  |0,_=>rfl
  |1,_=>rfl
  |2,_=>rfl
  |3,_=>rfl
  |4,_=>rfl
  |_+5,h=>by omega
theorem qF {c:bn} {r:Nat} (h:r<5) {n:Int}:hasB c (r:Int) n=true↔1≤n∧n≤c.at r:=by
 unfold hasB
 rw[decide_eq_true_eq,get_at c h]
 omega
theorem Ec (a b:bn): ∀r,(a.join b).at r=Hq (a.at r) (b.at r)
  |0=>rfl
  |1=>rfl
  |2=>rfl
  |3=>rfl
  |_+4=>rfl
theorem Gv (c:bn): ∀ {r q:Nat},r<5→q<5→(c.inc r).at q=if q=r then c.at q+1 else c.at q:=by
 intro r q hr hq
 obtain rfl|rfl|rfl|rfl|rfl:r=0∨r=1∨r=2∨r=3∨r=4:=by omega
 all_goals(obtain rfl|rfl|rfl|rfl|rfl:q=0∨q=1∨q=2∨q=3∨q=4:=by omega)
 all_goals rfl
theorem adP {a b:bn}:a.le b=true↔ ∀r,r<5→a.at r≤b.at r:=by
 unfold bn.le
 rw[decide_eq_true_eq]
 constructor
 · rintro⟨h0,h1,h2,h3,h4⟩ r hr
   obtain rfl|rfl|rfl|rfl|rfl:r=0∨r=1∨r=2∨r=3∨r=4:=by omega
   all_goals assumption
 · intro h
   exact⟨h 0 (by omega),h 1 (by omega),h 2 (by omega),h 3 (by omega),h 4 (by omega)⟩
theorem TB {H:Nat→bn} {r q:Nat} {c:bn}:rV H r c q=if q=r then c else H q:=by
 unfold rV
 by_cases h:q=r
 · rw[if_pos h,h,Nat.beq_refl];rfl
 · rw[if_neg h,show Nat.beq q r=false from by rw[Bool.eq_false_iff];intro e;exact h (Nat.eq_of_beq_eq_true e)];rfl
theorem adQ {a b c:Int} (h:a≤c) (k:b≤c):Hq a b≤c:=by unfold Hq;split<;>omega
theorem YM (a b:Int):a≤Hq a b:=by unfold Hq;split<;>omega
theorem adR (a b:Int):b≤Hq a b:=by unfold Hq;split<;>omega
theorem AZ {c:bn}: ∀ (l:List Ev) (s:Int×Bool),s.2=true→s.1≤(l.foldl (oZ c) s).1∧(l.foldl (oZ c) s).2=true
  |[],s,h=>⟨Int.le_refl _,h⟩
  | e ::l,s,h=>by
    rw[List.foldl_cons]
    by_cases k:(hasB c e.r e.n&&(!s.2||decide (s.1<e.h)))=true
    · have e1:oZ c s e=(e.h,true):=if_pos k
      rw[e1]
      have:=AZ (c:=c) l (e.h,true) rfl
      simp only[h,Bool.not_true,Bool.false_or,Bool.and_eq_true,decide_eq_true_eq]at k
      exact⟨by have:=this.1;simp only at this;omega,this.2⟩
    · have e1:oZ c s e=s:=if_neg k
      rw[e1]
      exact AZ l s h
theorem YN {c:bn} {e:Ev}: ∀ (l:List Ev) (s:Int×Bool),e∈l→hasB c e.r e.n=true→e.h≤(l.foldl (oZ c) s).1
  |[],_,h,_=>by cases h
  | x :: l,s,h,hh=>by
    rw[List.foldl_cons]
    rcases List.mem_cons.1 h with rfl|h
    · by_cases k:(hasB c e.r e.n&&(!s.2||decide (s.1<e.h)))=true
      · have e1:oZ c s e=(e.h,true):=if_pos k
        rw[e1]
        exact(AZ (c:=c) l (e.h,true) rfl).1
      · have e1:oZ c s e=s:=if_neg k
        rw[e1]
        have k':s.2=true∧e.h≤s.1:=by
         rw[hh]at k
         simp only[Bool.true_and,Bool.or_eq_true,Bool.not_eq_true',decide_eq_true_eq,not_or,Bool.not_eq_false,Int.not_lt]at k
         exact k
        have:=(AZ (c:=c) l s k'.1).1
        omega
    · exact YN l _ h hh
theorem acM {c:bn} {l:List Ev} {e:Ev} (he:e∈l) (hh:hasB c e.r e.n=true):e.h<hgt l c:=by
 have:=YN l (0,false) he hh
 unfold hgt FP
 omega
structure Fine (e:Ev):Prop where
 k:1≤e.k∧e.k≤5
 key:e.key.size≤3
 l:e.l=0∨e.l=1
 v:e.v.size≤12
structure Inv (T:List Ev) (H:Nat→bn):Prop where
 ev: ∀e∈T,∃r:Nat,r<5∧e.r=(r:Int)∧1≤e.n∧e.n≤(H r).at r∧e.c.at r=e.n-1
 ge: ∀q:Nat,q<5→ ∀r:Nat,r<5→0≤(H q).at r∧(H q).at r≤(H r).at r
 all: ∀r:Nat,r<5→ ∀n:Int,1≤n→n≤(H r).at r→ ∃e∈T,e.r=(r:Int)∧e.n=n
 clo: ∀q:Nat,q<5→ ∀e∈T,hasB (H q) e.r e.n=true→ ∀r:Nat,r<5→e.c.at r≤(H q).at r
 own: ∀e∈T,∀r:Nat,r<5→0≤e.c.at r∧e.c.at r≤(H r).at r
 dis:T.Pairwise fun a b=> ¬ (a.r=b.r∧a.n=b.n)
 ord:T.Pairwise fun a b=>aK b a=false
 hgt: ∀a∈T,∀b∈T,aK a b=true→a.h<b.h
 pre: ∀T1 e T2,T=T1++e::T2→ ∀r:Nat,r<5→ ∀n:Int,1≤n→n≤e.c.at r→ ∃x∈T1,x.r=(r:Int)∧x.n=n
 fine: ∀e∈T,Fine e
theorem Inv.nil:Inv [] (fun _=>dS):=by
 have h0: ∀r,dS.at r=0:=fun r=>match r with|0=>rfl|1=>rfl|2=>rfl|3=>rfl|_+4=>rfl
 exact⟨fun e h=>(by cases h),fun q _ r _=>⟨by rw[h0];omega,by omega⟩,fun r _ n h1 h2=>by rw[h0]at h2;omega,fun _ _ e h=>(by cases h),fun e h=>(by cases h),.nil,.nil,fun a h=>(by cases h),fun T1 e T2 h=>(by simp at h),fun e h=>(by cases h)⟩
section
variable {T:List Ev} {H:Nat→bn}
theorem Inv.sync (h:Inv T H) {r f:Nat} (hr:r<5) (hf:f<5):Inv T (rV H r ((H r).join (H f))):=by
 have hj: ∀q,(rV H r ((H r).join (H f)) q)=if q=r then(H r).join (H f)else H q:=fun q=>TB
 have dg: ∀q,q<5→(rV H r ((H r).join (H f)) q).at q=(H q).at q:=fun q hq=>by
  rw[hj]
  split
  · rename_i e
    subst e
    rw[Ec]
    have:=(h.ge f hf q hq).2
    unfold Hq
    split<;>omega
  · rfl
 refine⟨fun e he=>?_,fun q hq p hp=>?_,fun p hp n h1 h2=>?_,fun q hq e he hh p hp=>?_,fun e he p hp=>?_,h.dis,h.ord,h.hgt,h.pre,h.fine⟩
 · obtain⟨p,h1,h2,h3,h4,h5⟩:=h.ev e he
   exact⟨p,h1,h2,h3,by rw[dg p h1];exact h4,h5⟩
 · rw[dg p hp,hj]
   split
   · rw[Ec]
     have a:=h.ge r hr p hp
     have b:=h.ge f hf p hp
     have:=YM ((H r).at p) ((H f).at p)
     exact⟨by omega,adQ a.2 b.2⟩
   · exact h.ge q hq p hp
 · rw[dg p hp]at h2
   exact h.all p hp n h1 h2
 · rw [hj]at hh⊢
   split
   · rename_i e1
     rw[if_pos e1]at hh
     obtain⟨p',h1,h2,h3,h4,h5⟩:=h.ev e he
     rw[h2]at hh
     rw[qF h1,Ec]at hh
     rw[Ec]
     have ml:=YM ((H r).at p) ((H f).at p)
     have mr:=adR ((H r).at p) ((H f).at p)
     rcases(show e.n≤(H r).at p'∨e.n≤(H f).at p' by have:=hh.2;unfold Hq at this;split at this<;>omega)with k|k
     · have:=h.clo r hr e he (by rw[h2];exact(qF h1).2 ⟨hh.1,k⟩) p hp
       omega
     · have:=h.clo f hf e he (by rw[h2];exact(qF h1).2 ⟨hh.1,k⟩) p hp
       omega
   · rename_i e1
     rw[if_neg e1]at hh
     exact h.clo q hq e he hh p hp
 · rw[dg p hp]
   exact h.own e he p hp
theorem Inv.edit (h:Inv T H) {r:Nat} (hr:r<5) {x:Ed} (hx: ∀ (rr n:Int) (c:bn) (hh:Int),Fine ⟨rr,n,c,hh,x.k,x.key,x.l,x.v⟩):Inv (T++[C9 T H r x]) (rV H r ((H r).inc r)):=by
 have hj: ∀q,(rV H r ((H r).inc r) q)=if q=r then(H r).inc r else H q:=fun q=>TB
 have dg: ∀q,q<5→(rV H r ((H r).inc r) q).at q=if q=r then(H q).at q+1 else(H q).at q:=fun q hq=>by
  rw[hj]
  split
  · rename_i e
    subst e
    rw[Gv _ hr hr,if_pos rfl]
  · rfl
 have dle: ∀q,q<5→(H q).at q≤(rV H r ((H r).inc r) q).at q:=fun q hq=>by rw[dg q hq];split<;>omega
 have er:(C9 T H r x).r=(r:Int):=rfl
 have en:(C9 T H r x).n=(H r).at r+1:=rfl
 have ec:(C9 T H r x).c=H r:=rfl
 have eh:(C9 T H r x).h=Go.Proofs.YtimhagicagdkfaaGreat.hgt T (H r):=rfl
 have ef:Fine (C9 T H r x):=hx _ _ _ _
 generalize C9 T H r x=y at*
 have nb: ∀b∈T,aK y b=false:=fun b hb=>by
  unfold aK
  rw[er,Bool.eq_false_iff]
  intro k
  rw[qF hr]at k
  have:=(h.own b hb r hr).2
  omega
 have ny:aK y y=false:=by
  unfold aK
  rw[er,Bool.eq_false_iff]
  intro k
  rw[qF hr,ec]at k
  omega
 refine⟨fun e he=>?_,fun q hq p hp=>?_,fun p hp n h1 h2=>?_,fun q hq e he hh p hp=>?_,fun e he p hp=>?_, ?_, ?_,fun a ha b hb hab=>?_,fun T1 e T2 e0 p hp n h1 h2=>?_,fun e he=>?_⟩
 · rcases List.mem_append.1 he with he|he
   · obtain⟨p,h1,h2,h3,h4,h5⟩:=h.ev e he
     exact⟨p,h1,h2,h3,by have:=dle p h1;omega,h5⟩
   · rw[List.mem_singleton.1 he]
     refine⟨r,hr,er,by rw[en];have:=(h.ge r hr r hr).1;omega,by rw[en,dg r hr,if_pos rfl];omega,by rw[ec,en];omega⟩
 · have:=dle p hp
   have a:=h.ge q hq p hp
   rw[hj]
   split
   · rename_i e
     subst e
     rw[Gv _ hr hp]
     rw[dg p hp]at*
     split<;>omega
   · omega
 · by_cases e:p=r
   · subst e
     rw[dg p hp,if_pos rfl]at h2
     by_cases k:n≤(H p).at p
     · obtain⟨e,he,h3⟩:=h.all p hp n h1 k
       exact⟨e,List.mem_append.2 (.inl he),h3⟩
     · exact⟨y,List.mem_append.2 (.inr (List.mem_singleton.2 rfl)),er,by rw[en];omega⟩
   · rw[dg p hp,if_neg e]at h2
     obtain⟨e,he,h3⟩:=h.all p hp n h1 h2
     exact⟨e,List.mem_append.2 (.inl he),h3⟩
 · rw [hj]at hh⊢
   rcases List.mem_append.1 he with he|he
   · obtain⟨p',k1,k2,k3,k4,k5⟩:=h.ev e he
     by_cases e1:q=r
     · rw[if_pos e1]at hh⊢
       rw[k2,qF k1,Gv _ hr k1]at hh
       rw[Gv _ hr hp]
       have hk:hasB (H r) e.r e.n=true:=by
        rw[k2]
        refine(qF k1).2 ⟨k3, ?_⟩
        by_cases e2:p'=r
        · subst e2;omega
        · rw[if_neg e2]at hh;exact hh.2
       have:=h.clo r hr e he hk p hp
       split<;>omega
     · rw[if_neg e1]at hh⊢
       exact h.clo q hq e he hh p hp
   · rw[List.mem_singleton.1 he]at hh⊢
     rw[er,qF hr,en]at hh
     by_cases e1:q=r
     · rw[if_pos e1,ec,Gv _ hr hp]
       split<;>omega
     · rw[if_neg e1]at hh
       have:=(h.ge q hq r hr).2
       omega
 · rcases List.mem_append.1 he with he|he
   · have:=h.own e he p hp
     have:=dle p hp
     omega
   · rw[List.mem_singleton.1 he,ec]
     have:=h.ge r hr p hp
     have:=dle p hp
     omega
 · refine List.pairwise_append.2 ⟨h.dis,List.pairwise_singleton _ _,fun a ha b hb=>?_⟩
   rw[List.mem_singleton.1 hb]
   rintro⟨k1,k2⟩
   obtain⟨p,h1,h2,h3,h4,h5⟩:=h.ev a ha
   rw[er,h2]at k1
   have:p=r:=by omega
   subst this
   omega
 · refine List.pairwise_append.2 ⟨h.ord,List.pairwise_singleton _ _,fun a ha b hb=>?_⟩
   rw[List.mem_singleton.1 hb]
   exact nb a ha
 · rcases List.mem_append.1 ha with ha|ha
   · rcases List.mem_append.1 hb with hb|hb
     · exact h.hgt a ha b hb hab
     · rw[List.mem_singleton.1 hb]at hab⊢
       rw[eh]
       unfold aK at hab
       rw[ec]at hab
       exact acM ha hab
   · rw[List.mem_singleton.1 ha]at hab
     rcases List.mem_append.1 hb with hb|hb
     · rw[nb b hb]at hab;cases hab
     · rw[List.mem_singleton.1 hb,ny]at hab;cases hab
 · rcases List.append_eq_append_iff.1 e0 with⟨us,e1,e2⟩|⟨bs,e1,e2⟩
   · cases us with
     | nil=>
       simp only[List.nil_append,List.cons.injEq]at e2
       rw[List.append_nil]at e1
       subst e1
       rw[←e2.1,ec]at h2
       have:=(h.ge r hr p hp).2
       exact h.all p hp n h1 (by omega)
     | cons a us=>
       simp only[List.cons_append,List.cons.injEq]at e2
       exact absurd e2.2.symm (by simp)
   · cases bs with
     | nil=>
       simp only[List.nil_append,List.cons.injEq]at e2
       rw[List.append_nil]at e1
       subst e1
       rw[e2.1,ec]at h2
       have:=(h.ge r hr p hp).2
       exact h.all p hp n h1 (by omega)
     | cons b bs=>
       simp only[List.cons_append,List.cons.injEq]at e2
       obtain⟨rfl,-⟩:=e2
       exact h.pre T1 e bs e1 p hp n h1 h2
 · rcases List.mem_append.1 he with he|he
   · exact h.fine e he
   · rw[List.mem_singleton.1 he]
     exact ef
end
theorem YO (x:Ed) (rr n:Int) (c:bn) (hh:Int):Fine ⟨rr,n,c,hh,(lY x).k,(lY x).key,(lY x).l,(lY x).v⟩:=by
 have h5:0≤m5 x.k∧m5 x.k≤4:=by
  unfold m5
  have:=abI x.k
  omega
 have hk:(ks3 (rP x.key.data.toList)).size≤3:=by unfold ks3;split;exact Nat.le_refl 3;split;exact Nat.le_refl 3;exact(show 2≤3 by omega)
 have hv:(vs4 (rP x.v.data.toList)).size≤12:=by
  unfold vs4
  split
  · exact(show 1≤12 by omega)
  · split
    · exact(show 3≤12 by omega)
    · split
      · exact(show 2≤12 by omega)
      · exact Nat.le_refl 12
 have hl:=X4 x.l
 unfold lY
 split
 · exact⟨⟨by simp only;omega,by simp only;omega⟩,hk,by simp only;omega,hv⟩
 · exact⟨⟨by simp only;omega,by simp only;omega⟩,hk,.inl rfl,Nat.zero_le _⟩
theorem Gw {x:Int}:(x%5).toNat<5:=by omega
theorem Inv.step {T:List Ev} {H:Nat→bn} (h:Inv T H) (c:Wy):Inv (FU (T,H) c).1 (FU (T,H) c).2:=by
 unfold FU
 split
 · exact h.sync Gw Gw
 · exact h.edit Gw (YO _)
end
section
open Go.RowKit
def lV (p:ByteArray→Bool) (l:List Ev):List Ev:=l.filter fun x=>p x.key
theorem YP {α:Type} {q f:α→Bool} {l:List α} (h: ∀x∈l,f x=true→q x=true):(l.filter q).any f=l.any f:=by
 rw[List.any_filter]
 refine any_congr fun x hx=>?_
 cases hf:f x with
 |false=>simp
 |true=>simp[h x hx hf]
theorem Ci {a b:Ev} (h:eU a b=true):a.key=b.key:=of_decide_eq_true h
theorem Ju {a b:Ev} (h:qW a b=true):a.key=b.key:=by
 simp only[qW,Bool.and_eq_true]at h
 exact Ci h.1
theorem Jv {a b:Ev} (h:jd a b=true):a.key=b.key:=by
 simp only[jd,Bool.and_eq_true]at h
 exact Ju h.1
section
variable {p:ByteArray→Bool} {l:List Ev} {e:Ev}
theorem A8 {k:Int} {same:Ev→Ev→Bool} (hs: ∀a b,same a b=true→a.key=b.key) (he:p e.key=true):fC k same (lV p l) e=fC k same l e:=
 YP fun x _ h=>by
  simp only[Bool.and_eq_true]at h
  rw[hs _ _ h.2.1]
  exact he
theorem YQ {k:Int} {same:Ev→Ev→Bool} (hs: ∀a b,same a b=true→a.key=b.key) (he:p e.key=true):gY k same (lV p l) e=gY k same l e:=
 YP fun x _ h=>by
  simp only[Bool.and_eq_true]at h
  rw[hs _ _ h.2.1]
  exact he
theorem YR (he:p e.key=true):bK (lV p l) e=bK l e:=by unfold bK;rw[A8 (fun _ _=>Ci) he]
theorem xY:aC (lV p l)=lV p (aC l):=by
 unfold aC lV
 rw[List.filter_filter,List.filter_filter]
 refine List.filter_congr fun x _=>?_
 cases h:p x.key with
 |false=>simp
 | true=>
   have h2:bK (l.filter fun x=>p x.key) x=bK l x:=YR h
   rw[h2,Bool.and_comm]
theorem YS (he:p e.key=true):countB (lV p l) (aC (lV p l)) e=countB l (aC l) e:=by
 unfold countB
 rw[xY,A8 (fun _ _=>Jv) he,YQ (fun _ _=>Ci) he]
theorem Di:bI (lV p l) (aC (lV p l))=lV p (bI l (aC l)):=by
 have h: ∀e,p e.key=true→countB (lV p l) (aC (lV p l)) e=countB l (aC l) e:=fun e he=>YS he
 unfold bI
 generalize countB (lV p l) (aC (lV p l))=f at h
 unfold lV
 rw[List.filter_filter,List.filter_filter]
 refine List.filter_congr fun x _=>?_
 cases hp:p x.key with
 |false=>simp
 |true=>rw[h x hp,Bool.and_comm]
theorem YT (he:p e.key=true):fD (lV p l) e=fD l e:=by
 unfold fD
 split
 · exact A8 (fun _ _=>Jv) he
 · exact A8 (fun _ _=>Ju) he
theorem Vo (b:ByteArray):(⟨(dN b).toArray⟩:ByteArray)=b:=by obtain⟨a⟩:=b;simp[dN]
theorem Jw {key:ByteArray} {ws:List Ev} {f:Ev→Bool} (hk:p key=true) (hf: ∀e,f e=true→e.key=key):(lV p ws).filter f=ws.filter f:=by
 unfold lV
 rw[List.filter_filter]
 refine List.filter_congr fun x _=>?_
 cases h:f x with
 |false=>simp
 |true=>rw[hf x h,hk];rfl
theorem QT {key:ByteArray} {ws:List Ev} (hk:p key=true):fH key (lV p ws)=fH key ws:=by
 have h1: ∀n,dD key n (lV p ws)=dD key n ws:=fun n=>Jw hk fun e h=>by
  simp only[yG,Bool.and_eq_true,decide_eq_true_eq]at h
  exact h.1.1
 have h2: ∀n,dY key n (lV p ws)=dY key n ws:=fun n=>Jw hk fun e h=>by
  simp only[yG,Bool.and_eq_true,decide_eq_true_eq]at h
  exact h.1.1
 unfold fH
 rw[h1,h1,h2,h2]
theorem LD {α:Type} {q:α→Bool}: ∀l:List α,(l.filter q).length+(l.filter fun x=> !q x).length=l.length
  |[]=>rfl
  | x::l=>by
    have:=LD (q:=q) l
    rw[List.filter_cons,List.filter_cons]
    cases q x<;>simp<;>omega
theorem TD:oL (lV p l)=((aC l).filter fun e=>p e.key).length+(((bI l (aC l)).filter fun e=> !fD l e).filter fun e=>p e.key).length:=by
 unfold oL
 rw[Di,xY]
 congr 2
 unfold lV
 rw[List.filter_filter,List.filter_filter]
 refine List.filter_congr fun x _=>?_
 cases h:p x.key with
 |false=>simp
 | true=>
   have h2:fD (l.filter fun x=>p x.key) x=fD l x:=YT h
   rw[h2,Bool.and_comm]
theorem size_two:oL l=oL (lV p l)+oL (lV (fun k=> !p k) l):=by
 rw[TD,TD,oL]
 have h1:=LD (q:=fun e:Ev=>p e.key) (aC l)
 have h2:=LD (q:=fun e:Ev=>p e.key) ((bI l (aC l)).filter fun e=> !fD l e)
 omega
end
end
section
open Go.RowKit
theorem ni (a b:St):jO a b=true↔a.1<b.1∨(a.1=b.1∧a.2<b.2):=by
 unfold jO
 split
 · rename_i h
   simp only[decide_eq_true_eq]
   omega
 · rename_i h
   simp only[decide_eq_true_eq]
   omega
theorem Ee: ∀ (l:List St) (m:St),¬jO (pG m l) m=true∧ ∀x∈l,¬jO (pG m l) x=true
  | [],m=>by
    refine⟨fun h=>?_,fun x hx=>absurd hx (by simp)⟩
    have:=(ni m m).1 h
    omega
  | x::l,m=>by
    obtain⟨h1,h2⟩:=Ee l (if jO m x=true then x else m)
    show¬jO (pG (if jO m x=true then x else m) l) m=true∧ ∀y∈x::l,¬jO (pG (if jO m x=true then x else m) l) y=true
    generalize pG (if jO m x=true then x else m) l=t at h1 h2
    have h3: ¬jO t m=true∧ ¬jO t x=true:=by
     split at h1
     · rename_i hmx
       rw[ni]at hmx h1
       refine⟨?_,by rw[ni];exact h1⟩
       rw[ni]
       omega
     · rename_i hmx
       rw[ni]at hmx h1
       refine⟨by rw[ni];exact h1, ?_⟩
       rw[ni]
       omega
    refine⟨h3.1,fun y hy=>?_⟩
    rcases List.mem_cons.1 hy with rfl|hy
    · exact h3.2
    · exact h2 y hy
end
section
open Go.RowKit
theorem aeC {l:List Str} {i:Nat} (h:i<l.length):l.getD i []=l[i]:=by rw[List.getD,List.getElem?_eq_getElem h];rfl
theorem Gx {A:List Ev} (h: ¬A.length=0): ∃e∈A,qx A=e.v∧dA e=pG ((A.map dA).getD 0 default) (A.map dA):=by
 have hlt:=Am (l:=A.map dA) (by intro e;exact h (by rw[←List.length_map (f:=dA),e];rfl))
 have hg:=List.findIdx_getElem (p:=fun s=>decide (s=pG ((A.map dA).getD 0 default) (A.map dA))) (xs:=A.map dA) (w:=hlt)
 have hlt':=hlt
 rw[List.length_map]at hlt
 refine⟨A[Ak (A.map dA)],List.getElem_mem hlt, ?_, ?_⟩
 · rw[qx,if_neg h,aeC (by rw[List.length_map];exact hlt),List.getElem_map,Vo]
 · have:=of_decide_eq_true hg
   have e2:(A.map dA)[Ak (A.map dA)]'hlt'=dA (A[Ak (A.map dA)]):=List.getElem_map ..
   exact e2.symm.trans this
def tu (l:List Ev):Prop:= ∀a∈l,∀b∈l,dA a=dA b→a=b
theorem aaT {a b:St} (h: ¬jO a b=true) (k: ¬jO b a=true):a=b:=by
 rw[ni]at h k
 obtain⟨a1,a2⟩:=a
 obtain⟨b1,b2⟩:=b
 simp only at h k
 have:a1=b1:=by omega
 have:a2=b2:=by omega
 simp[*]
theorem Vp {A:List Ev} {e:Ev} (hd:tu A) (he:e∈A) (hm: ∀x∈A,¬jO (dA e) (dA x)=true):qx A=e.v:=by
 have h0: ¬A.length=0:=by
  intro h
  rw[List.length_eq_zero_iff]at h
  rw[h]at he
  cases he
 obtain⟨x,hx,e1,e2⟩:=Gx h0
 have ht:=Ee (A.map dA) ((A.map dA).getD 0 default)
 rw[←e2]at ht
 have:=aaT (hm x hx) (ht.2 (dA e) (List.mem_map.2 ⟨e,he,rfl⟩))
 rw[e1,hd e he x hx this]
section
variable {l l':List Ev}
end
theorem aaU {α:Type} {R:α→α→Prop} {l:List α} (h:l.Pairwise fun a b=> ¬R a b) (hs: ∀a b,R a b→R b a) {a b:α} (ha:a∈l) (hb:b∈l) (hr:R a b):a=b:=by
 obtain⟨i,hi,rfl⟩:=List.getElem_of_mem ha
 obtain⟨j,hj,rfl⟩:=List.getElem_of_mem hb
 rcases Nat.lt_trichotomy i j with k|k|k
 · exact absurd hr (List.pairwise_iff_getElem.1 h i j hi hj k)
 · subst k;rfl
 · exact absurd (hs _ _ hr) (List.pairwise_iff_getElem.1 h j i hj hi k)
theorem Inv.mark {T:List Ev} {H:Nat→bn} (h:Inv T H) {a b:Ev} (ha:a∈T) (hb:b∈T) (hr:a.r=b.r) (hn:a.n=b.n):a=b:=
 aaU (R:=fun a b=>a.r=b.r∧a.n=b.n) h.dis (fun _ _ k=>⟨k.1.symm,k.2.symm⟩) ha hb ⟨hr,hn⟩
theorem Inv.stamp {T:List Ev} {H:Nat→bn} (h:Inv T H):tu T:=fun a ha b hb e=>by
 obtain⟨p,a1,a2,a3,a4,a5⟩:=h.ev a ha
 obtain⟨q,b1,b2,b3,b4,b5⟩:=h.ev b hb
 have eh:a.h=b.h:=congrArg Prod.fst e
 have er:a.r=b.r:=congrArg Prod.snd e
 have epq:p=q:=by rw[a2,b2]at er;omega
 subst epq
 rcases Int.lt_trichotomy a.n b.n with k|k|k
 · have:=h.hgt a ha b hb (by unfold aK;rw[a2];exact(qF a1).2 ⟨a3,by omega⟩)
   omega
 · exact h.mark ha hb er k
 · have:=h.hgt b hb a ha (by unfold aK;rw[b2];exact(qF a1).2 ⟨b3,by omega⟩)
   omega
structure Spr where
 (out left:List Ev) (hv:bn)
def adS (left:List Ev) (h:bn) (k:Nat):Bool:=(left.getD k default).c.le h
def acN (left:List Ev) (h:bn):List Nat:=(List.range left.length).filter (adS left h)
def bn.top (c:bn):Nat→Int→bn
  |0,n=>⟨Hq c.c0 n,c.c1,c.c2,c.c3,c.c4⟩
  |1,n=>⟨c.c0,Hq c.c1 n,c.c2,c.c3,c.c4⟩
  |2,n=>⟨c.c0,c.c1,Hq c.c2 n,c.c3,c.c4⟩
  |3,n=>⟨c.c0,c.c1,c.c2,Hq c.c3 n,c.c4⟩
  |_,n=>⟨c.c0,c.c1,c.c2,c.c3,Hq c.c4 n⟩
theorem LG (c:bn) {r q:Nat} (n:Int) (hr:r<5) (hq:q<5):(c.top r n).at q=if q=r then Hq (c.at q) n else c.at q:=by
 obtain rfl|rfl|rfl|rfl|rfl:r=0∨r=1∨r=2∨r=3∨r=4:=by omega
 all_goals(obtain rfl|rfl|rfl|rfl|rfl:q=0∨q=1∨q=2∨q=3∨q=4:=by omega)
 all_goals rfl
def TF (s:Spr) (k:Nat):Spr:=⟨s.out++[s.left.getD k default],s.left.take k++s.left.drop (k+1),s.hv.top (s.left.getD k default).r.toNat (s.left.getD k default).n⟩
structure TG (W:List Ev) (s:Spr):Prop where
 perm:(s.out++s.left).Perm W
 sub:s.left.Sublist W
 hv: ∀e∈s.out,∀r:Nat,r<5→e.r=(r:Int)→e.n≤s.hv.at r
 pos: ∀r:Nat,r<5→0≤s.hv.at r
theorem aaV {left:List Ev} {h:bn} {k:Nat}:k∈acN left h↔k<left.length∧adS left h k=true:=by
 unfold acN
 rw[List.mem_filter,List.mem_range]
theorem aaW {α:Type} {l:List α} {k:Nat} (h:k<l.length):(l[k]::l.eraseIdx k).Perm l:=by
 rw[List.eraseIdx_eq_take_drop_succ]
 refine List.perm_middle.symm.trans ?_
 rw[←List.drop_eq_getElem_cons h,List.take_append_drop]
theorem TG.at {W:List Ev} {H:Nat→bn} (hI:Inv W H) {s:Spr} (h:TG W s) {k:Nat} (hk:k<s.left.length):TG W (TF s k):=by
 obtain⟨out,left,hv⟩:=s
 obtain⟨h1,h2,h3,h4⟩:=h
 simp only at h1 h2 h3 h4 hk
 have hg:left.getD k default=left[k]:=by rw[List.getD,List.getElem?_eq_getElem hk];rfl
 have he:left.take k++left.drop (k+1)=left.eraseIdx k:=(List.eraseIdx_eq_take_drop_succ ..).symm
 have hm:left[k]∈W:=h2.subset (List.getElem_mem hk)
 obtain⟨p,p1,p2,_⟩:=hI.ev _ hm
 have ep:left[k].r.toNat=p:=by rw[p2];omega
 unfold TF
 simp only[hg,he,ep]
 refine⟨?_,(List.eraseIdx_sublist ..).trans h2,fun e hx r hr h5=>?_,fun r hr=>?_⟩
 · have:=(aaW hk).append_left out
   refine(List.Perm.trans ?_ this).trans h1
   rw[List.append_assoc]
   exact .refl _
 · show e.n≤(hv.top p left[k].n).at r
   rw[LG _ _ p1 hr]
   have hx:e∈out++[left[k]]:=hx
   rcases List.mem_append.1 hx with hx|hx
   · have:=h3 e hx r hr h5
     split
     · have:=YM (hv.at r) left[k].n
       omega
     · exact this
   · rw[List.mem_singleton.1 hx]at h5⊢
     have:r=p:=by rw[p2]at h5;omega
     rw[if_pos this]
     exact adR _ _
 · show 0≤(hv.top p left[k].n).at r
   rw[LG _ _ p1 hr]
   have:=h4 r hr
   split
   · have:=YM (hv.at r) left[k].n
     omega
   · exact this
end
section
open Go.RowKit
def woP (key:ByteArray) (c:Cont):Bool:= !decide (c.key=key)
def woL (l:List Cont) (key:ByteArray):List Cont:=l.filter (woP key)
def YU (l:List Cont) (key:ByteArray):Nat:=l.findIdx fun c=>decide (c.key=key)
def rY (l:List Cont) (key:ByteArray):Int:=if YU l key<l.length then(YU l key:Int)else-1
end
section
open Go.RowKit
def eqK (key:ByteArray):ByteArray→Bool:=fun k=>decide (k=key)
theorem YV:uniq []=[]:=List.eq_nil_iff_forall_not_mem.2 fun x hx=>by
 have:=((jB []).2 x).1 hx
 cases this
theorem of_same {l:List Ev} {key:ByteArray} (h: ∀x∈l,x.key=key):oU l=if aC l=[]then []else [fH key (bI l (aC l))]:=by
 have hk:keysB l=uniq ((aC l).map fun e=>dN e.key):=rfl
 by_cases h0:aC l=[]
 · rw[if_pos h0]
   unfold oU
   rw[hk,h0,List.map_nil,YV]
   rfl
 · rw [if_neg h0]
   have e:keysB l=[dN key]:=by
    rw[hk]
    refine xQ (jB _).1 (List.pairwise_singleton _ _) fun x=>?_
    rw[(jB _).2,List.mem_singleton,List.mem_map]
    constructor
    · rintro⟨y,hy,rfl⟩
      rw[h y (List.mem_filter.1 hy).1]
    · rintro rfl
      obtain⟨y,hy⟩:=List.exists_mem_of_ne_nil _ h0
      exact⟨y,hy,by rw[h y (List.mem_filter.1 hy).1]⟩
   unfold oU
   rw[e,List.map_singleton,Vo]
theorem LH {l:List Ev} {key:ByteArray}: ∀x∈lV (eqK key) l,x.key=key:=fun x hx=>by
 have:=(List.mem_filter.1 hx).2
 exact of_decide_eq_true this
structure CR (e:Ev) (a b:Cont):Prop where
 aeR:e.l=0→a.h1=b.h1∧a.f1=b.f1∧a.s1.length=b.s1.length
 aeS:e.l=1→a.h0=b.h0∧a.f0=b.f0∧a.s0.length=b.s0.length
 set0:e.k=3→e.l=0→b.h0=true∧b.f0=e.v∧a.s0.length=b.s0.length
 set1:e.k=3→e.l=1→b.h1=true∧b.f1=e.v∧a.s1.length=b.s1.length
 oth:e.k≠3→(a.h0=b.h0∧a.h1=b.h1)∧(a.f0=b.f0∧a.f1=b.f1)
 in0:e.k≠3→e.l=0→(dN e.v∈b.s0↔e.k=4)
 in1:e.k≠3→e.l=1→(dN e.v∈b.s1↔e.k=4)
structure aeO (A B:List Cont) (e:Ev):Prop where
 wo:woL A e.key=woL B e.key
 two:e.k=2→rY B e.key= -1
 one:e.k=1→0≤rY B e.key
 more:3≤e.k→(rY A e.key= -1∧rY B e.key= -1)∨
  (∃a b,(0≤rY A e.key∧rY A e.key<(A.length:Int)∧A.getD (rY A e.key).toNat default=a)∧(0≤rY B e.key∧rY B e.key<(B.length:Int)∧B.getD (rY B e.key).toNat default=b)∧CR e a b)
section
variable {l:List Ev} {e:Ev}
theorem jX {k:Int} {same:Ev→Ev→Bool} {x:Ev}:fC k same (l++[e]) x=(fC k same l x||(decide (e.k=k)&&(same e x&&aK x e))):=by
 unfold fC
 rw[List.any_append]
 simp
theorem Jy {k:Int} {same:Ev→Ev→Bool} (non: ∀x∈l,aK e x=false):fC k same l e=false:=by
 unfold fC
 rw[List.any_eq_false]
 intro x hx
 rw[non x hx]
 simp
structure Vq (l:List Ev) (e:Ev):Prop where
 key: ∀x∈l,x.key=e.key
 all: ∀x∈l,aK x e=true
 non: ∀x∈l,aK e x=false
 self:aK e e=false
 hi: ∀x∈l,x.h<e.h
 one:tu (l++[e])
variable (t:Vq l e)
include t
theorem Vq.keys: ∀x∈l++[e],x.key=e.key:=fun x hx=>by
 rcases List.mem_append.1 hx with hx|hx
 · exact t.key x hx
 · rw[List.mem_singleton.1 hx]
theorem Vq.Ba:bK (l++[e]) e=decide (e.k=1):=by
 unfold bK
 rw[jX,Jy t.non,t.self]
 simp
theorem Vq.tC {x:Ev} (hx:x∈l):bK (l++[e]) x=(bK l x&& !decide (e.k=2)):=by
 have:eU e x=true:=decide_eq_true (t.key x hx).symm
 unfold bK
 rw[jX,this,t.all x hx]
 cases fC 2 eU l x<;>cases decide (x.k=1)<;>simp
theorem Vq.living:aC (l++[e])=(if e.k=2 then []else aC l)++(if e.k=1 then [e]else []):=by
 unfold aC
 rw[List.filter_append,List.filter_cons,t.Ba]
 congr 1
 · by_cases h:e.k=2
   · rw[if_pos h,List.filter_eq_nil_iff]
     intro x hx
     rw[t.tC hx,decide_eq_true h]
     simp
   · rw[if_neg h]
     refine List.filter_congr fun x hx=>?_
     rw[t.tC hx,decide_eq_false h]
     simp
 · by_cases h:e.k=1
   · rw[if_pos h,if_pos (decide_eq_true h)]
     rfl
   · rw[if_neg h,if_neg (by rw[decide_eq_false h];simp)]
     rfl
theorem Vq.OH {C:List Ev} {x:Ev} (hx:x∈l):countB (l++[e]) C x=(countB l C x&& !(decide (e.k=5)&&(decide (x.k=4)&&jd e x))):=by
 unfold countB
 rw[jX,t.all x hx]
 by_cases h3:x.k=3
 · rw[decide_eq_true h3,decide_eq_false (show¬x.k=4 by omega)]
   simp
 · rw[decide_eq_false h3]
   cases decide (x.k=4)<;>cases fC 5 jd l x<;>cases gY 1 eU C x<;>simp
end
theorem OI {a b:ByteArray} (h:dN a=dN b):a=b:=by rw[←Vo a,h,Vo]
section
variable {l:List Ev} {e:Ev} {ws:List Ev}
end
theorem TJ (p:ByteArray→Bool) (l:List Ev) (e:Ev):lV p (l++[e])=lV p l++(if p e.key=true then [e]else []):=by
 unfold lV
 rw[List.filter_append,List.filter_cons]
 rfl
end
end Go.Proofs.YtimhagicagdkfaaGreat
