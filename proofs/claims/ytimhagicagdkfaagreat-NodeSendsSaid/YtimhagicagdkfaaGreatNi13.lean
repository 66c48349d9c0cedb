/-
  Contracts of the walk:RecP,RecF,Shape,Frm,FrmP.
-/
import Derived.Test.YtimhagicagdkfaaGreatNi12
import Derived.Test.YtimhagicagdkfaaGreatNi6
import Derived.Test.YtimhagicagdkfaaGreatNi1
import Derived.WalkSpells
import Derived.WalkLawsBesides
import Derived.Handy
import Derived.WideMake
import Derived.Lib.Hide
set_option maxHeartbeats 16000000
set_option maxRecDepth 100000
set_option linter.unusedVariables false
set_option linter.unusedSimpArgs false
namespace Go.Proofs.YtimhagicagdkfaaGreat
section
open Go.RowKit
theorem sU {l:List Ev} (h: ∀e∈l,fB e=0):(fZ l).length≤44*l.length:=by
 induction l with
 |nil=>simp[fZ]
 | cons e l ih=>
   have h1:=oM (h e (by simp))
   have h2:=ih fun x hx=>h x (by simp[hx])
   simp only[fZ,List.flatMap_cons,List.length_append,List.length_cons]at*
   omega
theorem xW {l:List Ev} {j:Nat} (h:j<l.length):fZ (l.take (j+1))=fZ (l.take j)++aS (l.getD j default):=by
 rw[List.take_add_one,List.getElem?_eq_getElem h,List.getD,List.getElem?_eq_getElem h,fZ,List.flatMap_append]
 simp[fZ]
theorem Ll {l:List Ev} (h:l.all (fun e=>decide (fB e=0))=true) {j:Nat} (hj:j<l.length):fB (l.getD j default)=0:=by
 rw[List.getD,List.getElem?_eq_getElem hj]
 simpa using List.all_eq_true.1 h l[j] (List.getElem_mem hj)
theorem pK {l:List Ev} (h:l.all (fun e=>decide (fB e=0))=true): ∀e∈l,fB e=0:=fun e he=>by simpa using List.all_eq_true.1 h e he
theorem gq {n:Int} (h:nG n=true): ∃m:Nat,n=m∧m≤1048576:=by
 have:=gy h
 exact⟨n.toNat,by omega,by omega⟩
structure aey (x:Rc):Prop where
 k:1≤x.k∧x.k≤6
 r:0≤x.r∧x.r<5
 u:nG x.u=true
 l:x.ev.length≤4096
 c:nG x.c.c0=true∧nG x.c.c1=true∧nG x.c.c2=true∧nG x.c.c3=true∧nG x.c.c4=true
 u0:F6 x.k=true∨x.u=0
 c0:F8 x.k=true∨x.c=dS
 e0:F7 x.k=true∨x.ev.length=0
 ev:x.ev.all (fun e=>decide (fB e=0))=true
 one:x.k≠1∨x.ev.length=1
theorem uD {x:Rc} (h:lC x=true):aey x:=by
 simp only[lC,Bool.and_eq_true,Bool.or_eq_true,decide_eq_true_eq,jq,PG,rcK]at h
 obtain⟨⟨⟨⟨⟨⟨⟨⟨⟨⟨h1,h2⟩,h3⟩,h4⟩,h5⟩,⟨⟨⟨h6,h7⟩,h8⟩,h9⟩,h10⟩,h11⟩,h12⟩,h13⟩,h14⟩,h15⟩:=h
 exact⟨h1,⟨h2,h3⟩,h4,h5,⟨h6,h7,h8,h9,h10⟩,h11,h12,h13,h14,h15⟩
theorem Lm (d:Nat) (x:Rc) (h:lC x=true) (hk:x.k=1∨x.k=2∨x.k=5):
  aG Tryz.prog 93 [x.av] (.dL [.own d,.v (.int .i64 0)]) [(d,.row 5 1 (aQ x).length true (aV (aQ x)))]:=by
 have m:=uD h
 have hm:=qB x (by have:=m.l;omega)
 rw[h]at hm
 obtain⟨k,r,u,c,ev⟩:=x
 obtain⟨mk,mr,mu,ml,mc,wC,uO,me0,Gf,m1⟩:=m
 dsimp only at mk mr mu ml mc wC uO me0 Gf m1 hk
 have hat: ∀j,j<ev.length→fB (ev.getD j default)=0:=fun j hj=>Ll Gf hj
 have h44: ∀j,j<ev.length→(aS (ev.getD j default)).length≤44:=fun j hj=>oM (hat j hj)
 have hlen: ∀j,(fZ (ev.take j)).length≤44*j:=fun j=>Nat.le_trans (sU fun e he=>pK Gf e (List.mem_of_mem_take he)) (Nat.mul_le_mul_left _ (by rw[List.length_take];omega))
 have hv:(aA ev.length).length≤10:=bU 9 _
 obtain⟨kk,hkk⟩: ∃kk,kk=k:=⟨_,rfl⟩
 have hmore: ∀j,([byteOf' kk,byteOf' r]++aA ev.length++fZ (ev.take j)).length=2+(aA ev.length).length+(fZ (ev.take j)).length:=fun j=>by simp;omega
 rcases hk with rfl|rfl|rfl
 all_goals
  dsimp only[Rc.av,Rc.cs]at hm⊢
  refine K1.E 0x403c0203a040004f57f Tryz.func93 ?_
  repeat' ((conv=>whnf);first|refine K1.w ?_|refine K1.u ?_|refine K1.P1 hm rfl ?_|refine K1.P1 (gW _) rfl ?_|refine K1.F1 (eP _ ev.length (by omega)) rfl ?_|refine K1.z ?_|refine K1.y (fun _=>?_) (fun _=>?_)|fail)
  conv=>whnf
  refine aN.mk {j:Nat//j≤ev.length} (fun j=>⟨[(1,.box 0 0),(8,.own 90),(62,.sl 12 ev.length true (eG ev)),(63,.v (.int .i64 (ev.length:Int))),(64,.v (.int .i64 (j.1:Int)))],
    [(90,.row 5 1 ([byteOf' kk,byteOf' r]++aA ev.length++fZ (ev.take j.1)).length true (aV ([byteOf' kk,byteOf' r]++aA ev.length++fZ (ev.take j.1))))],[],91⟩) (fun j=>ev.length-j.1) ⟨0,Nat.zero_le _⟩ _
    (dO.mk' [(3,90)] _ _ _ rfl ⟨aj,aj,aj,aj,aT.int rfl,trivial⟩ ⟨⟨_,rfl,cO.pF (bD.app (bD.two (by omega) (by omega) (by omega) (by omega)) (bD.bytes _) rfl) (by simp<;>omega) (by simp[fZ,hkk])⟩,trivial⟩ rfl) ?_
  rintro⟨j,hj⟩
  dsimp only
  have acJ:=h44 (j:Int).toNat
  have hmj:=hmore j
  have hlj:=hlen j
  have hsl:=eH ([byteOf' kk,byteOf' r]++aA ev.length++fZ (ev.take j))
  have hvs:(aA (eX ([byteOf' kk,byteOf' r]++aA ev.length++fZ (ev.take j))).length).length≤10:=bU 9 _
  repeat' ((conv=>whnf);first|refine K1.w ?_|refine K1.u ?_|refine K1.F1 (uz _ (ev.getD (j:Int).toNat default) (hat _ (by omega))) rfl ?_|refine K1.F1 (nT _ ([byteOf' kk,byteOf' r]++aA ev.length++fZ (ev.take j)) (bD.bytes _) rfl (by omega)) rfl ?_|refine K1.F1 (eP _ (eX ([byteOf' kk,byteOf' r]++aA ev.length++fZ (ev.take j))).length (by rw[eH];omega)) rfl ?_|refine K1.z ?_|refine K1.y (fun _=>?_) (fun _=>?_)|fail)
  · conv=>whnf
    refine⟨⟨j+1,by omega⟩,_,dO.mk' [(93,90)] _ _ _ rfl ⟨aj,aj,aj,aj,aT.int rfl,trivial⟩ ⟨⟨_,rfl,cO.pF (bD.app (bD.bytes _) (bD.bytes _) rfl) List.length_append.symm ?_⟩,trivial⟩ rfl,by show ev.length-(j+1)<ev.length-j;omega⟩
    rw[xW (by omega),List.append_assoc]
    rfl
  · conv=>whnf
    refine aJ.qo d rfl rfl ?_ (aj)
    refine cO.pF (bD.app (bD.bytes _) (bD.bytes _) rfl) List.length_append.symm ?_
    rw[List.take_of_length_le (by omega)]
    unfold aQ fO
    simp[hkk,F6,F7,F8,byteOf,byteOf']
theorem Yw (d:Nat) (x:Rc) (h:lC x=true) (hk:x.k=4):
  aG Tryz.prog 93 [x.av] (.dL [.own d,.v (.int .i64 0)]) [(d,.row 5 1 (aQ x).length true (aV (aQ x)))]:=by
 have m:=uD h
 have hm:=qB x (by have:=m.l;omega)
 rw[h]at hm
 obtain⟨k,r,u,c,ev⟩:=x
 obtain⟨mk,mr,mu,ml,mc,wC,uO,me0,Gf,m1⟩:=m
 dsimp only at mk mr mu ml mc wC uO me0 Gf m1 hk
 have hat: ∀j,j<ev.length→fB (ev.getD j default)=0:=fun j hj=>Ll Gf hj
 have h44: ∀j,j<ev.length→(aS (ev.getD j default)).length≤44:=fun j hj=>oM (hat j hj)
 have hlen: ∀j,(fZ (ev.take j)).length≤44*j:=fun j=>Nat.le_trans (sU fun e he=>pK Gf e (List.mem_of_mem_take he)) (Nat.mul_le_mul_left _ (by rw[List.length_take];omega))
 have hv:(aA ev.length).length≤10:=bU 9 _
 obtain⟨kk,hkk⟩: ∃kk,kk=k:=⟨_,rfl⟩
 obtain⟨un,rfl,hun⟩:=gq mu
 have hvu:(aA un).length≤10:=bU 9 _
 have hmore: ∀j,([byteOf' kk,byteOf' r]++aA un++aA ev.length++fZ (ev.take j)).length=2+(aA un).length+(aA ev.length).length+(fZ (ev.take j)).length:=fun j=>by simp;omega
 subst hk
 all_goals
  dsimp only[Rc.av,Rc.cs]at hm⊢
  refine K1.E 0x403c0203a040004f57f Tryz.func93 ?_
  repeat' ((conv=>whnf);first|refine K1.w ?_|refine K1.u ?_|refine K1.P1 hm rfl ?_|refine K1.P1 (gW _) rfl ?_|refine K1.F1 (eP _ un (by omega)) rfl ?_|refine K1.F1 (eP _ ev.length (by omega)) rfl ?_|refine K1.z ?_|refine K1.y (fun _=>?_) (fun _=>?_)|fail)
  conv=>whnf
  refine aN.mk {j:Nat//j≤ev.length} (fun j=>⟨[(1,.box 0 0),(8,.own 90),(62,.sl 12 ev.length true (eG ev)),(63,.v (.int .i64 (ev.length:Int))),(64,.v (.int .i64 (j.1:Int)))],
    [(90,.row 5 1 ([byteOf' kk,byteOf' r]++aA un++aA ev.length++fZ (ev.take j.1)).length true (aV ([byteOf' kk,byteOf' r]++aA un++aA ev.length++fZ (ev.take j.1))))],[],91⟩) (fun j=>ev.length-j.1) ⟨0,Nat.zero_le _⟩ _
    (dO.mk' [(5,90)] _ _ _ rfl ⟨aj,aj,aj,aj,aT.int rfl,trivial⟩ ⟨⟨_,rfl,cO.pF (bD.app (bD.app (bD.two (by omega) (by omega) (by omega) (by omega)) (bD.bytes _) rfl) (bD.bytes _) (by simp<;>omega)) (by simp<;>omega) (by simp[fZ,hkk])⟩,trivial⟩ rfl) ?_
  rintro⟨j,hj⟩
  dsimp only
  have acJ:=h44 (j:Int).toNat
  have hmj:=hmore j
  have hlj:=hlen j
  have hsl:=eH ([byteOf' kk,byteOf' r]++aA un++aA ev.length++fZ (ev.take j))
  have hvs:(aA (eX ([byteOf' kk,byteOf' r]++aA un++aA ev.length++fZ (ev.take j))).length).length≤10:=bU 9 _
  repeat' ((conv=>whnf);first|refine K1.w ?_|refine K1.u ?_|refine K1.F1 (uz _ (ev.getD (j:Int).toNat default) (hat _ (by omega))) rfl ?_|refine K1.F1 (nT _ ([byteOf' kk,byteOf' r]++aA un++aA ev.length++fZ (ev.take j)) (bD.bytes _) rfl (by omega)) rfl ?_|refine K1.F1 (eP _ (eX ([byteOf' kk,byteOf' r]++aA un++aA ev.length++fZ (ev.take j))).length (by rw[eH];omega)) rfl ?_|refine K1.z ?_|refine K1.y (fun _=>?_) (fun _=>?_)|fail)
  · conv=>whnf
    refine⟨⟨j+1,by omega⟩,_,dO.mk' [(93,90)] _ _ _ rfl ⟨aj,aj,aj,aj,aT.int rfl,trivial⟩ ⟨⟨_,rfl,cO.pF (bD.app (bD.bytes _) (bD.bytes _) rfl) List.length_append.symm ?_⟩,trivial⟩ rfl,by show ev.length-(j+1)<ev.length-j;omega⟩
    rw[xW (by omega),List.append_assoc]
    rfl
  · conv=>whnf
    refine aJ.qo d rfl rfl ?_ (aj)
    refine cO.pF (bD.app (bD.bytes _) (bD.bytes _) rfl) List.length_append.symm ?_
    rw[List.take_of_length_le (by omega)]
    unfold aQ fO
    simp[hkk,F6,F7,F8,byteOf,byteOf',iM]
theorem aaH (d:Nat) (x:Rc) (h:lC x=true) (hk:x.k=3):
  aG Tryz.prog 93 [x.av] (.dL [.own d,.v (.int .i64 0)]) [(d,.row 5 1 (aQ x).length true (aV (aQ x)))]:=by
 have m:=uD h
 have hm:=qB x (by have:=m.l;omega)
 rw[h]at hm
 obtain⟨k,r,u,c,ev⟩:=x
 obtain⟨mk,mr,mu,ml,mc,wC,uO,me0,Gf,m1⟩:=m
 dsimp only at mk mr mu ml mc wC uO me0 Gf m1 hk
 obtain⟨kk,hkk⟩: ∃kk,kk=k:=⟨_,rfl⟩
 obtain⟨un,rfl,hun⟩:=gq mu
 have hvu:(aA un).length≤10:=bU 9 _
 have hmore:([byteOf' kk,byteOf' r]++aA un).length=2+(aA un).length:=by simp;omega
 have hsl:=eH ([byteOf' kk,byteOf' r]++aA un)
 have hvs:(aA (eX ([byteOf' kk,byteOf' r]++aA un)).length).length≤10:=bU 9 _
 subst hk
 dsimp only[Rc.av,Rc.cs]at hm⊢
 refine K1.E 0x403c0203a040004f57f Tryz.func93 ?_
 repeat' ((conv=>whnf);first|refine K1.w ?_|refine K1.u ?_|refine K1.P1 hm rfl ?_|refine K1.P1 (gW _) rfl ?_|refine K1.F1 (eP _ un (by omega)) rfl ?_|refine K1.F1 (nT _ ([byteOf' kk,byteOf' r]++aA un) (hkk▸bD.app (bD.two (by omega) (by omega) (by omega) (by omega)) (bD.bytes _) rfl) (by simp<;>omega) (by omega)) rfl ?_|refine K1.F1 (eP _ (eX ([byteOf' kk,byteOf' r]++aA un)).length (by rw[eH];omega)) rfl ?_|refine K1.z ?_|refine K1.y (fun _=>?_) (fun _=>?_)|fail)
 conv=>whnf
 refine aJ.qo d rfl rfl ?_ (aj)
 refine cO.pF (bD.app (bD.bytes _) (bD.bytes _) rfl) List.length_append.symm ?_
 unfold aQ fO
 simp[hkk,F6,F7,F8,byteOf,byteOf',iM]
theorem aaI (d:Nat) (x:Rc) (h:lC x=true) (hk:x.k=6):
  aG Tryz.prog 93 [x.av] (.dL [.own d,.v (.int .i64 0)]) [(d,.row 5 1 (aQ x).length true (aV (aQ x)))]:=by
 have m:=uD h
 have hm:=qB x (by have:=m.l;omega)
 rw[h]at hm
 obtain⟨k,r,u,⟨c0,c1,c2,c3,c4⟩,ev⟩:=x
 obtain⟨mk,mr,mu,ml,⟨m0,m1,m2,m3,m4⟩,wC,uO,me0,Gf,Lp⟩:=m
 dsimp only at mk mr mu ml m0 m1 m2 m3 m4 wC uO me0 Gf Lp hk
 obtain⟨kk,hkk⟩: ∃kk,kk=k:=⟨_,rfl⟩
 obtain⟨c0,rfl,hc0⟩:=gq m0
 obtain⟨c1,rfl,hc1⟩:=gq m1
 obtain⟨c2,rfl,hc2⟩:=gq m2
 obtain⟨c3,rfl,hc3⟩:=gq m3
 obtain⟨c4,rfl,hc4⟩:=gq m4
 have q0:(aA c0).length≤10:=bU 9 _
 have q1:(aA c1).length≤10:=bU 9 _
 have q2:(aA c2).length≤10:=bU 9 _
 have q3:(aA c3).length≤10:=bU 9 _
 have q4:(aA c4).length≤10:=bU 9 _
 have hmore:([byteOf' kk,byteOf' r]++aA c0++aA c1++aA c2++aA c3++aA c4).length=2+(aA c0).length+(aA c1).length+(aA c2).length+(aA c3).length+(aA c4).length:=by simp;omega
 have hsl:=eH ([byteOf' kk,byteOf' r]++aA c0++aA c1++aA c2++aA c3++aA c4)
 have hvs:(aA (eX ([byteOf' kk,byteOf' r]++aA c0++aA c1++aA c2++aA c3++aA c4)).length).length≤10:=bU 9 _
 subst hk
 dsimp only[Rc.av,Rc.cs]at hm⊢
 refine K1.E 0x403c0203a040004f57f Tryz.func93 ?_
 repeat' ((conv=>whnf);first|refine K1.w ?_|refine K1.u ?_|refine K1.P1 hm rfl ?_|refine K1.P1 (gW _) rfl ?_|refine K1.F1 (eP _ c0 (by omega)) rfl ?_|refine K1.F1 (eP _ c1 (by omega)) rfl ?_|refine K1.F1 (eP _ c2 (by omega)) rfl ?_|refine K1.F1 (eP _ c3 (by omega)) rfl ?_|refine K1.F1 (eP _ c4 (by omega)) rfl ?_|refine K1.F1 (nT _ ([byteOf' kk,byteOf' r]++aA c0++aA c1++aA c2++aA c3++aA c4) (hkk▸bD.app (bD.app (bD.app (bD.app (bD.app (bD.two (by omega) (by omega) (by omega) (by omega)) (bD.bytes _) rfl) (bD.bytes _) (by simp<;>omega)) (bD.bytes _) (by simp<;>omega)) (bD.bytes _) (by simp<;>omega)) (bD.bytes _) (by simp<;>omega)) (by simp<;>omega) (by omega)) rfl ?_|refine K1.F1 (eP _ (eX ([byteOf' kk,byteOf' r]++aA c0++aA c1++aA c2++aA c3++aA c4)).length (by rw[eH];omega)) rfl ?_|refine aN.sO 44 6 rfl ?_|refine K1.z ?_|refine K1.y (fun _=>?_) (fun _=>?_)|fail)
 conv=>whnf
 refine aJ.qo d rfl rfl ?_ (aj)
 refine cO.pF (bD.app (bD.bytes _) (bD.bytes _) rfl) List.length_append.symm ?_
 unfold aQ fO
 simp[hkk,F6,F7,F8,byteOf,byteOf',iM,zk]
theorem BZ (d:Nat) (x:Rc) (h:lC x=true):
  aG Tryz.prog 93 [x.av] (.dL [.own d,.v (.int .i64 0)]) [(d,.row 5 1 (aQ x).length true (aV (aQ x)))]:=by
 have m:=(uD h).k
 rcases(show x.k=1∨x.k=2∨x.k=3∨x.k=4∨x.k=5∨x.k=6 by omega)with hk|hk|hk|hk|hk|hk
 · exact Lm d x h (.inl hk)
 · exact Lm d x h (.inr (.inl hk))
 · exact aaH d x h hk
 · exact Yw d x h hk
 · exact Lm d x h (.inr (.inr hk))
 · exact aaI d x h hk
end
section
open Go.RowKit
theorem C1.Tn {X:CX} {a1 a2 a3 a4 a5 a6 a7 a8:AV} {f:Nat→List AV} {u:Value} (h:C1 X (.agg [a1,a2,a3,a4,a5,a6,a7,a8,.v (.slice none 0 0)]) u):C1 X (.agg [a1,a2,a3,a4,a5,a6,a7,a8,.sl 12 0 true f]) u:=by
 obtain⟨us,e,ha⟩:=h
 obtain⟨v,hv,hc⟩:=ha.get (i:=8) rfl
 have hc:v= .slice none 0 0:=hc
 subst hc
 refine⟨us,e, ?_⟩
 have:=ha.set 8 (x:= .sl 12 0 true f) (u:= .slice none 0 0) (show C0 X (.sl 12 0 true f) (.slice none 0 0)from .sl 12 0 true f none 0 [] (by omega) (Nat.le_refl _) (by simp[maxLen]) (by simp) (fun i hi=>absurd hi (Nat.not_lt_zero i)) (fun _ x hx=>by simp[flat]at hx) (fun i x u hx=>by simp[flat]at hx) (.inl rfl))
 have e2:us.set 8 (.slice none 0 0)=us:=by
  apply List.ext_getElem?
  intro i
  rw[List.getElem?_set]
  by_cases h8:8=i
  · subst h8
    rw[if_pos rfl,hv]
    have:8<us.length:=by
     rcases Nat.lt_or_ge 8 us.length with h|h
     · exact h
     · rw[List.getElem?_eq_none h]at hv;cases hv
    rw[if_pos this]
  · rw[if_neg h8]
 rw[e2]at this
 exact this
theorem aT.Tn {a1 a2 a3 a4 a5 a6 a7 a8:AV} (f:Nat→List AV):aT (.agg [a1,a2,a3,a4,a5,a6,a7,a8,.v (.slice none 0 0)]) (.agg [a1,a2,a3,a4,a5,a6,a7,a8,.sl 12 0 true f]):=fun _ _ h=>C1.Tn h
def acK (k r u c0 c1 c2 c3 c4:Int) (e:AV):List AV:=[.v (.int .i64 k),.v (.int .i64 r),.v (.int .i64 u),.v (.int .i64 c0),.v (.int .i64 c1),.v (.int .i64 c2),.v (.int .i64 c3),.v (.int .i64 c4),e]
theorem Oo (x:Rc):5<(aQ x).length:=by
 have hv:=xM 9 (eX (fO x)).length
 have hb:2≤(fO x).length:=by simp[fO]<;>omega
 have hs:=eH (fO x)
 unfold aQ
 rw[List.length_append]
 show 5<(gJ 9 (eX (fO x)).length).length+_
 omega
def IsE (F:Nat→List AV) (l:List Ev):Prop:= ∀i,i<l.length→F i=eG l i
theorem IsE.nil (F:Nat→List AV):IsE F []:=fun i h=>absurd h (by simp)
theorem IsE.app {F G:Nat→List AV} {l l':List Ev} {n:Nat} (h:IsE F l) (h':IsE G l') (hn:n=l.length):IsE (qh n F G) (l++l'):=by
 intro i hi
 rw[List.length_append]at hi
 show _=qL Ev.cs (l++l') i
 rw[←els_app hn]
 unfold qh
 cases hb:Nat.ble n i with
 | true=>
   have:=Nat.le_of_ble_eq_true hb
   exact h' (i-n) (by omega)
 | false=>
   have:i<n:=Nat.lt_of_not_le fun h=>by rw[Nat.ble_eq_true_of_le h]at hb;cases hb
   exact h i (by omega)
theorem IsE.one {F:Nat→List AV} {e:Ev} (h:F 0=e.cs):IsE F [e]:=fun i hi=>by
 have:i=0:=by simpa using hi
 subst this
 exact h
end
section
open Go.RowKit
def zl (k:Int):Bool:=k==1||k==4
def zn (k:Int):Bool:=k==2
def zo (k:Int):Bool:=k==3||k==5
def PI (k:Int):Bool:=decide (1≤k∧k≤5)
def wE (e u c:Bool):Value:= .agg #[.bool e,.bool u,.bool c]
theorem aaJ (w:World) (b:Nat) (es:Array MapEntry) (clock:Nat) (n:Int) (x:Value) (hb:w.heap[b]? =some (.map es clock)) (hn:Instr.findNow (.int .i64) (.int .i64 n) es.toList 0=some none):
  (Instr.mapUpdate 185 (.map (some b)) (.int .i64 n) x).run Tryz.prog w= .ok () {w with heap:=w.heap.setIfInBounds b (.map (es.push {key:= .int .i64 n,val:=x,born:=clock}) (clock+1))}:=by
 have hc:(Instr.checkKey false 10000 3 (.int .i64 n)).run Tryz.prog w= .ok () w:=MapKept.run_checkKey (k:= .int .i64 n) Tryz.underlying3 (by simp[MapKept.IsKey]) false 9999
 simp[Instr.mapUpdate,run_underlying Tryz.underlying185,MapKept.run_getObj_map hb,hc,MapKept.run_findKey Tryz.underlying3 hn,MapKept.run_setObj_map _ hb,Result.andThen]
def valOf:Option (Nat×Value)→Value
  |some p=>p.2
  |none=>wE false false false
theorem Yx (w:World) (b:Nat) (es:Array MapEntry) (clock:Nat) (n:Int) (r:Option (Nat×Value)) (hb:w.heap[b]? =some (.map es clock)) (hn:Instr.findNow (.int .i64) (.int .i64 n) es.toList 0=some r):
  (Instr.lookup 185 (.map (some b)) (.int .i64 n) true).run Tryz.prog w= .ok (.tuple #[(valOf r),.bool r.isSome]) w:=by
 have hc:(Instr.checkKey es.isEmpty 10000 3 (.int .i64 n)).run Tryz.prog w= .ok () w:=MapKept.run_checkKey (k:= .int .i64 n) Tryz.underlying3 (by simp[MapKept.IsKey]) _ 9999
 have hz:(zeroValue 134).run Tryz.prog w= .ok (wE false false false) w:=by kernel_rfl
 cases r with
 |none=>simp[Instr.lookup,run_underlying Tryz.underlying185,MapKept.run_getObj_map hb,hc,MapKept.run_findKey Tryz.underlying3 hn,hz,Result.andThen,valOf]
 |some p=>simp[Instr.lookup,run_underlying Tryz.underlying185,MapKept.run_getObj_map hb,hc,MapKept.run_findKey Tryz.underlying3 hn,Result.andThen,valOf]
def ent (n:Int) (e u c:Bool) (b:Nat):MapEntry:={key:= .int .i64 n,val:=wE e u c,born:=b}
def ents:List MapEntry:=[ent 1 true false false 0,ent 2 false true false 1,ent 3 false false true 2,ent 4 true false false 3,ent 5 false false true 4]
theorem U5 (k:Int): ∃r,Instr.findNow (.int .i64) (.int .i64 k) ents 0=some r∧(valOf r)=wE (zl k) (zn k) (zo k)∧r.isSome=PI k:=by
 by_cases h:1≤k∧k≤5
 · rcases(show k=1∨k=2∨k=3∨k=4∨k=5 by omega)with rfl|rfl|rfl|rfl|rfl<;>exact⟨_,rfl,rfl,rfl⟩
 · refine⟨none, ?_, ?_, ?_⟩
   · have h1:(k==1)=false:=by simp;omega
     have h2:(k==2)=false:=by simp;omega
     have h3:(k==3)=false:=by simp;omega
     have h4:(k==4)=false:=by simp;omega
     have h5:(k==5)=false:=by simp;omega
     simp[ents,ent,Instr.findNow,Instr.sameNow,h1,h2,h3,h4,h5]
   · simp[valOf,wE,zl,zn,zo];omega
   · simp[PI];omega
theorem set_push (a:Array Obj) (o o':Obj):(a.push o).setIfInBounds a.size o'=a.push o':=by
 apply Array.ext'
 rw[Array.toList_setIfInBounds,Array.toList_push,Array.toList_push,←Array.length_toList,List.set_append_right _ _ (Nat.le_refl _),Nat.sub_self]
 rfl
theorem U6 (w:World) (o o':Obj):({(w.alloc o)with heap:=(w.alloc o).heap.setIfInBounds w.heap.size o'}:World)=w.alloc o':=by
 show({w with heap:=(w.heap.push o).setIfInBounds w.heap.size o'}:World)={w with heap:=w.heap.push o'}
 rw[set_push]
theorem sV (w:World) (b:Nat) (l:List MapEntry) (n:Int) (e u c:Bool) (hb:b=w.heap.size) (hn:Instr.findNow (.int .i64) (.int .i64 n) l 0=some none):
  (Instr.mapUpdate 185 (.map (some b)) (.int .i64 n) (.agg #[.bool e,.bool u,.bool c])).run Tryz.prog (w.alloc (.map l.toArray l.length))= .ok () (w.alloc (.map (l++[ent n e u c l.length]).toArray (l.length+1))):=by
 subst hb
 rw[aaJ _ _ l.toArray l.length n _ (heap_alloc_new w _) (by simpa using hn),U6]
 simp[ent,wE]
theorem U7 (k:Int) (w:World):Calls Tryz.prog 75 #[.int .i64 k] w fun e w'=>e= .returned (.tuple #[wE (zl k) (zn k) (zo k),.bool (PI k)])∧Below w.heap.size w w':=by
 have hmm:= @run_makeMap Tryz.prog
 obtain⟨W1,hW⟩: ∃W1,W1=w.alloc (.cells #[.bool false,.bool false,.bool false] 134):=⟨_,rfl⟩
 have hs:w.heap.size+1=W1.heap.size:=by rw[hW];simp
 have h1:(Instr.mapUpdate 185 (.map (some (w.heap.size+1))) (.int .i64 1) (.agg #[.bool true,.bool false,.bool false])).run Tryz.prog (W1.alloc (.map #[] 0))= .ok () (W1.alloc (.map #[ent 1 true false false 0] 1)):=sV W1 _ [] 1 true false false hs rfl
 have h2:(Instr.mapUpdate 185 (.map (some (w.heap.size+1))) (.int .i64 2) (.agg #[.bool false,.bool true,.bool false])).run Tryz.prog (W1.alloc (.map #[ent 1 true false false 0] 1))= .ok () (W1.alloc (.map #[ent 1 true false false 0,ent 2 false true false 1] 2)):=sV W1 _ [ent 1 true false false 0] 2 false true false hs rfl
 have h3:(Instr.mapUpdate 185 (.map (some (w.heap.size+1))) (.int .i64 3) (.agg #[.bool false,.bool false,.bool true])).run Tryz.prog (W1.alloc (.map #[ent 1 true false false 0,ent 2 false true false 1] 2))= .ok () (W1.alloc (.map #[ent 1 true false false 0,ent 2 false true false 1,ent 3 false false true 2] 3)):=sV W1 _ [ent 1 true false false 0,ent 2 false true false 1] 3 false false true hs rfl
 have h4:(Instr.mapUpdate 185 (.map (some (w.heap.size+1))) (.int .i64 4) (.agg #[.bool true,.bool false,.bool false])).run Tryz.prog (W1.alloc (.map #[ent 1 true false false 0,ent 2 false true false 1,ent 3 false false true 2] 3))= .ok () (W1.alloc (.map #[ent 1 true false false 0,ent 2 false true false 1,ent 3 false false true 2,ent 4 true false false 3] 4)):=sV W1 _ [ent 1 true false false 0,ent 2 false true false 1,ent 3 false false true 2] 4 true false false hs rfl
 have h5:(Instr.mapUpdate 185 (.map (some (w.heap.size+1))) (.int .i64 5) (.agg #[.bool false,.bool false,.bool true])).run Tryz.prog (W1.alloc (.map #[ent 1 true false false 0,ent 2 false true false 1,ent 3 false false true 2,ent 4 true false false 3] 4))= .ok () (W1.alloc (.map #[ent 1 true false false 0,ent 2 false true false 1,ent 3 false false true 2,ent 4 true false false 3,ent 5 false false true 4] 5)):=sV W1 _ [ent 1 true false false 0,ent 2 false true false 1,ent 3 false false true 2,ent 4 true false false 3] 5 false false true hs rfl
 obtain⟨r,hr1,hr2,hr3⟩:=U5 k
 have hl:=Yx (W1.alloc (.map ents.toArray 5)) (w.heap.size+1) ents.toArray 5 k r (by rw[hs];exact heap_alloc_new W1 _) (by simpa using hr1)
 rw[hr2,hr3]at hl
 unfold ents at hl
 rw[hW]at h1 h2 h3 h4 h5 hl
 have H1:=Lib.hid h1
 have H2:=Lib.hid h2
 have H3:=Lib.hid h3
 have H4:=Lib.hid h4
 have H5:=Lib.hid h5
 have HL:=Lib.hid hl
 clear h1 h2 h3 h4 h5 hl hr1 hr2 hr3 hs hW
 go_enter Tryz.func75,Tryz.ntmps75
 go_wp2
 rw[H1.out]
 go_wp2
 rw[H2.out]
 go_wp2
 rw[H3.out]
 go_wp2
 rw[H4.out]
 go_wp2
 rw[H5.out]
 go_wp2
 rw[HL.out]
 simp only[wE]
 go_wp2
 go_returns
 exact⟨rfl,by go_grown⟩
theorem kR (k:Int):aG Tryz.prog 75 [.v (.int .i64 k)] (.dL [.agg [.v (.bool (zl k)),.v (.bool (zn k)),.v (.bool (zo k))],.v (.bool (PI k))]) []:=by
 refine⟨⟨_,_,Tryz.func75,rfl,rfl⟩,fun w keep args _ hargs=>?_⟩
 obtain⟨u,rfl,hu⟩:=qR hargs
 have hu:u= .int .i64 k:=hu
 subst hu
 refine(U7 k w).mono ?_
 rintro e w' ⟨h1,h2⟩
 exact⟨_,fun _=>undef,h1,h2,⟨[.agg #[.bool (zl k),.bool (zn k),.bool (zo k)],.bool (PI k)],rfl,aF.cons ⟨[.bool (zl k),.bool (zn k),.bool (zo k)],rfl,aF.cons rfl (aF.cons rfl (aF.cons rfl aF.nil))⟩ (aF.cons rfl aF.nil)⟩,(fun p hp=>by cases hp),by simp[ah],(fun b hb=>by simp[ah]at hb)⟩
end
section
open Go.RowKit
theorem Oq (k:Int) (h: ¬ (1≤k∧k≤5)):aG Tryz.prog 75 [.v (.int .i64 k)] (.dL [.agg [.v (.bool false),.v (.bool false),.v (.bool false)],.v (.bool false)]) []:=by
 have:=kR k
 rw[show zl k=false by simp[zl];omega,show zn k=false by simp[zn];omega,show zo k=false by simp[zo];omega,show PI k=false by simp[PI];omega]at this
 exact this
theorem Lr (n:Int):aG Tryz.prog 108 [.v (.int .i64 n)] (.v (.bool (nG n))) []:=by
 refine K1.E 0x5 Tryz.func108 ?_
 repeat' ((conv=>whnf);first|refine K1.w ?_|refine K1.u ?_|refine aJ.dR ?_|refine K1.z ?_|refine K1.y (fun _=>?_) (fun _=>?_)|fail)
 all_goals(conv=>whnf)
 all_goals(refine bG.mk (aT.of ?_))
 all_goals simp[nG,gu, *]
def rX (k r:Int) (e:Ev):Bool:=decide (fB e=0)&&(decide (k≠1)||decide (e.r=r))
theorem Yy {k r:Int} {e:Ev} (h: ¬fB e=0):rX k r e=false:=by simp[rX,h]
theorem Yz {k r:Int} {e:Ev} (hk:k=1) (h: ¬e.r=r):rX k r e=false:=by simp[rX,h,hk]
theorem Jm {k r:Int} {e:Ev} (h:fB e=0) (hk:k≠1):rX k r e=true:=by simp[rX,h,hk]
theorem Jo {k r:Int} {e:Ev} (h:fB e=0) (hr:e.r=r):rX k r e=true:=by simp[rX,h,hr]
def iK (x:Rc):Bool:=
 PI x.k&&decide (0≤x.r)&&decide (x.r<5)&&nG x.u&&(zn x.k||decide (x.u=0))&&(zo x.k||Le x.c)&&(zl x.k||decide (x.ev.length=0))&&PG x.c&&decide (x.ev.length≤20)&&(decide (x.k≠1)||decide (x.ev.length≠0))&&
  x.ev.all (rX x.k x.r)
theorem Ls {p:Ev→Bool} {l:List Ev} {j:Nat} (hj:j<l.length) (h:p (l.getD j default)=false):l.all p=false:=by
 rw[List.all_eq_false]
 refine⟨l[j],List.getElem_mem hj, ?_⟩
 rw[List.getD,List.getElem?_eq_getElem hj]at h
 simpa using h
theorem Ot {p:Ev→Bool} {l:List Ev} (h: ∀i,i<l.length→p (l.getD i default)=true):l.all p=true:=by
 rw[List.all_eq_true]
 intro e he
 obtain⟨i,hi,rfl⟩:=List.mem_iff_getElem.1 he
 have:=h i hi
 rw[List.getD,List.getElem?_eq_getElem hi]at this
 exact this
theorem uF (x:Rc) (hl:x.ev.length≤140737488355328):aG Tryz.prog 74 [x.av] (.v (.bool (iK x))) []:=by
 obtain⟨k,r,u,⟨c0,c1,c2,c3,c4⟩,ev⟩:=x
 dsimp only at hl
 obtain⟨kk,hkk⟩: ∃kk,kk=k:=⟨_,rfl⟩
 rcases(show k=1∨k=2∨k=3∨k=4∨k=5∨ ¬ (1≤k∧k≤5) by omega)with rfl|rfl|rfl|rfl|rfl|hk
 all_goals dsimp only[Rc.av,Rc.cs]
 all_goals
  refine K1.E 0x10000f400047400000010000015f Tryz.func74 ?_
  repeat' ((conv=>whnf);first|refine K1.w ?_|refine K1.u ?_|refine K1.P1 (Oq _ hk) rfl ?_|refine K1.P1 (kR _) rfl ?_|refine K1.P1 (Lr _) rfl ?_|refine aN.sO 65 6 rfl ?_|refine PD.mk (bn.vs ⟨c0,c1,c2,c3,c4⟩) (bn.vs dS) (bn.mk c0 c1 c2 c3 c4=dS) rfl rfl (uy _ _) ?_|refine aJ.dR ?_|refine K1.z ?_|refine K1.y (fun _=>?_) (fun _=>?_)|fail)
  all_goals(conv=>whnf)
  all_goals first
    |refine bG.mk (aT.of ?_)
    |refine aN.mk {j:Nat//j≤ev.length∧ ∀i,i<j→rX kk r (ev.getD i default)=true} (fun j=>⟨[(1,.box 0 0),(88,.sl 12 ev.length true (eG ev)),(89,.v (.int .i64 (ev.length:Int))),(90,.v (.int .i64 (j.1:Int)))],
       [(0,.box 47 [.v (.int .i64 _),.v (.int .i64 r),.v (.int .i64 u),.v (.int .i64 c0),.v (.int .i64 c1),.v (.int .i64 c2),.v (.int .i64 c3),.v (.int .i64 c4),.sl 12 ev.length true (eG ev)])],[],4⟩) (fun j=>ev.length-j.1) ⟨0,Nat.zero_le _,fun i h=>absurd h (Nat.not_lt_zero i)⟩ _
       (dO.mk' [] _ _ _ rfl ⟨aj,aj,aj,aT.int rfl,trivial⟩ ⟨aH rfl,trivial⟩ rfl) ?_
  all_goals try(simp[iK,PI,zn,zl,zo,PG,jq,-List.length_eq_zero_iff, *]<;>omega;done)
  all_goals(rintro⟨j,hj,hall⟩;dsimp only)
  all_goals repeat' ((conv=>whnf);first|refine K1.w ?_|refine K1.u ?_|refine K1.P1 (lG (ev.getD (j:Int).toNat default)) rfl ?_|refine aJ.dR ?_|refine K1.z ?_|refine K1.y (fun _=>?_) (fun _=>?_)|fail)
  all_goals first
    | (conv=>whnf
       refine⟨⟨j+1,by omega,fun i hi=>?_⟩,_,dO.mk' [] _ _ _ rfl ⟨aj,aj,aj,aT.int rfl,trivial⟩ ⟨aH rfl,trivial⟩ rfl,by show ev.length-(j+1)<ev.length-j;omega⟩
       rcases Nat.lt_or_ge i j with h|h
       · exact hall i h
       · obtain rfl:i=j:=by omega
         have h0:fB (ev.getD i default)=0:= ‹fB (ev.getD (i:Int).toNat default)=0›
         first
           |exact Jm h0 (by omega)
           |exact Jo h0 ‹(ev.getD (i:Int).toNat default).r=r›)
    | (conv=>whnf
       refine bG.mk (aT.of ?_)
       have hno:=Ls (p:=rX kk r) (l:=ev) (j:=j) (by omega) (Yy ‹¬fB (ev.getD (j:Int).toNat default)=0›)
       rw[hkk]at hno
       simp[iK,hno])
    | (conv=>whnf
       refine bG.mk (aT.of ?_)
       have hno:=Ls (p:=rX kk r) (l:=ev) (j:=j) (by omega) (Yz hkk ‹¬ (ev.getD (j:Int).toNat default).r=r›)
       rw[hkk]at hno
       simp[iK,hno])
    | (conv=>whnf
       refine bG.mk (aT.of ?_)
       have hyes:=Ot (p:=rX kk r) (l:=ev) (fun i hi=>hall i (by omega))
       rw[hkk]at hyes
       simp[iK,show nG 0=true from rfl,PI,zn,zl,zo,PG,jq,-List.length_eq_zero_iff, *]<;>omega)
end
section
open Go.RowKit
def jV (x:Rc):List UInt8:=
 [byteOf x.k,byteOf x.r]++(if zl x.k then UInt8.ofNat x.ev.length::fZ x.ev else [])++(if zn x.k then iM x.u else [])++(if zo x.k then zk x.c else [])
def bg (x:Rc):List UInt8:=eX (aA (jV x).length++jV x)
structure aez (x:Rc):Prop where
 k:1≤x.k∧x.k≤5
 r:0≤x.r∧x.r<5
 u:nG x.u=true
 u0:zn x.k=true∨x.u=0
 c0:zo x.k=true∨x.c=dS
 e0:zl x.k=true∨x.ev.length=0
 c:nG x.c.c0=true∧nG x.c.c1=true∧nG x.c.c2=true∧nG x.c.c3=true∧nG x.c.c4=true
 l:x.ev.length≤20
 one:x.k≠1∨x.ev.length≠0
 ev:x.ev.all (rX x.k x.r)=true
theorem oh {x:Rc} (h:iK x=true):aez x:=by
 simp only[iK,Bool.and_eq_true,Bool.or_eq_true,decide_eq_true_eq,jq,PG,PI]at h
 obtain⟨⟨⟨⟨⟨⟨⟨⟨⟨⟨h1,h2⟩,h3⟩,h4⟩,h5⟩,h6⟩,h7⟩,⟨⟨⟨h8,h9⟩,h10⟩,h11⟩,h12⟩,h13⟩,h14⟩,h15⟩:=h
 exact⟨h1,⟨h2,h3⟩,h4,h5,h6,h7,⟨h8,h9,h10,h11,h12⟩,h13,h14,h15⟩
theorem AU {k r:Int} {l:List Ev} (h:l.all (rX k r)=true):l.all (fun e=>decide (fB e=0))=true:=by
 rw[List.all_eq_true]at h⊢
 intro e he
 have:=h e he
 simp only[rX,Bool.and_eq_true]at this
 exact this.1
theorem YA (x:Rc) (hl:x.ev.length≤140737488355328) (h:iK x=false):aG Tryz.prog 41 [x.av] (.dL [.v (.slice none 0 0),.v (.int .i64 1)]) []:=by
 have hm:=uF x hl
 rw[h]at hm
 refine K1.E 0x3a020807804000975f Tryz.func41 ?_
 repeat' ((conv=>whnf);first|refine K1.w ?_|refine K1.u ?_|refine K1.P1 hm rfl ?_|refine aJ.dR ?_|refine K1.z ?_|refine K1.y (fun _=>?_) (fun _=>?_)|fail)
 conv=>whnf
 exact bG.mk (aj)
theorem Tq (d:Nat) (x:Rc) (h:iK x=true) (hk:x.k=1∨x.k=4):
  aG Tryz.prog 41 [x.av] (.dL [.own d,.v (.int .i64 0)]) [(d,.row 5 1 (bg x).length true (aV (bg x)))]:=by
 have m:=oh h
 have hm:=uF x (by have:=m.l;omega)
 rw[h]at hm
 obtain⟨k,r,u,c,ev⟩:=x
 obtain⟨mk,mr,mu,wC,uO,me0,mc,ml,m1,yw⟩:=m
 dsimp only at mk mr mu ml mc wC uO me0 yw m1 hk
 have Gf:=AU yw
 have hat: ∀j,j<ev.length→fB (ev.getD j default)=0:=fun j hj=>Ll Gf hj
 have h44: ∀j,j<ev.length→(aS (ev.getD j default)).length≤44:=fun j hj=>oM (hat j hj)
 have hlen: ∀j,(fZ (ev.take j)).length≤44*j:=fun j=>Nat.le_trans (sU fun e he=>pK Gf e (List.mem_of_mem_take he)) (Nat.mul_le_mul_left _ (by rw[List.length_take];omega))
 obtain⟨kk,hkk⟩: ∃kk,kk=k:=⟨_,rfl⟩
 have hmore: ∀j,(([byteOf' kk,byteOf' r]++[byteOf' (ev.length:Int)])++fZ (ev.take j)).length=3+(fZ (ev.take j)).length:=fun j=>by simp;omega
 rcases hk with rfl|rfl
 all_goals
  dsimp only[Rc.av,Rc.cs]at hm⊢
  refine K1.E 0x3a020807804000975f Tryz.func41 ?_
  repeat' ((conv=>whnf);first|refine K1.w ?_|refine K1.u ?_|refine K1.P1 hm rfl ?_|refine K1.P1 (kR _) rfl ?_|refine K1.z ?_|refine K1.y (fun _=>?_) (fun _=>?_)|fail)
  conv=>whnf
  refine aN.mk {j:Nat//j≤ev.length} (fun j=>⟨[(1,.box 0 0),(4,.box 1 0),(6,.own 90),(39,.sl 12 ev.length true (eG ev)),(40,.v (.int .i64 (ev.length:Int))),(41,.v (.int .i64 (j.1:Int)))],
    [(1,.box 134 [.v (.bool true),.v (.bool false),.v (.bool false)]),(90,.row 5 1 (([byteOf' kk,byteOf' r]++[byteOf' (ev.length:Int)])++fZ (ev.take j.1)).length true (aV (([byteOf' kk,byteOf' r]++[byteOf' (ev.length:Int)])++fZ (ev.take j.1))))],[],91⟩) (fun j=>ev.length-j.1) ⟨0,Nat.zero_le _⟩ _
    (dO.mk' [(4,90)] _ _ _ rfl ⟨aj,aj,aj,aj,aj,aT.int rfl,trivial⟩ ⟨aH rfl,⟨_,rfl,cO.pF (bD.app (bD.two (by omega) (by omega) (by omega) (by omega)) (bD.one (by omega) (by omega)) rfl) (by simp<;>omega) (by simp[fZ,hkk])⟩,trivial⟩ rfl) ?_
  rintro⟨j,hj⟩
  dsimp only
  have acJ:=h44 (j:Int).toNat
  have hmj:=hmore j
  have hlj:=hlen j
  have hsl:=eH (aA (([byteOf' kk,byteOf' r]++[byteOf' (ev.length:Int)])++fZ (ev.take j)).length++(([byteOf' kk,byteOf' r]++[byteOf' (ev.length:Int)])++fZ (ev.take j)))
  have hvs:(aA (([byteOf' kk,byteOf' r]++[byteOf' (ev.length:Int)])++fZ (ev.take j)).length).length≤10:=bU 9 _
  repeat' ((conv=>whnf);first|refine K1.w ?_|refine K1.u ?_|refine K1.F1 (uz _ (ev.getD (j:Int).toNat default) (hat _ (by omega))) rfl ?_|refine K1.F1 (eP _ (([byteOf' kk,byteOf' r]++[byteOf' (ev.length:Int)])++fZ (ev.take j)).length (by omega)) rfl ?_|refine K1.F1 (nT _ (aA (([byteOf' kk,byteOf' r]++[byteOf' (ev.length:Int)])++fZ (ev.take j)).length++(([byteOf' kk,byteOf' r]++[byteOf' (ev.length:Int)])++fZ (ev.take j))) (bD.app (bD.bytes _) (bD.bytes _) rfl) List.length_append.symm (by rw[List.length_append];omega)) rfl ?_|refine K1.z ?_|refine K1.y (fun _=>?_) (fun _=>?_)|fail)
  · conv=>whnf
    refine⟨⟨j+1,by omega⟩,_,dO.mk' [(93,90)] _ _ _ rfl ⟨aj,aj,aj,aj,aj,aT.int rfl,trivial⟩ ⟨aH rfl,⟨_,rfl,cO.pF (bD.app (bD.bytes _) (bD.bytes _) rfl) List.length_append.symm ?_⟩,trivial⟩ rfl,by show ev.length-(j+1)<ev.length-j;omega⟩
    rw[xW (by omega),List.append_assoc]
    rfl
  · conv=>whnf
    refine aJ.qo d rfl rfl ?_ (aj)
    refine cO.pF (bD.bytes _) rfl ?_
    rw[List.take_of_length_le (by omega)]
    unfold bg jV
    simp[hkk,zl,zn,zo,byteOf,byteOf']
theorem aaK (d:Nat) (x:Rc) (h:iK x=true) (hk:x.k=2):
  aG Tryz.prog 41 [x.av] (.dL [.own d,.v (.int .i64 0)]) [(d,.row 5 1 (bg x).length true (aV (bg x)))]:=by
 have m:=oh h
 have hm:=uF x (by have:=m.l;omega)
 rw[h]at hm
 obtain⟨k,r,u,c,ev⟩:=x
 obtain⟨mk,mr,mu,wC,uO,me0,mc,ml,m1,yw⟩:=m
 dsimp only at mk mr mu ml mc wC uO me0 yw m1 hk
 obtain⟨kk,hkk⟩: ∃kk,kk=k:=⟨_,rfl⟩
 obtain⟨un,rfl,hun⟩:=gq mu
 have hvu:(aA un).length≤10:=bU 9 _
 have hmore:([byteOf' kk,byteOf' r]++aA un).length=2+(aA un).length:=by simp;omega
 have hsl:=eH (aA (2+(aA un).length)++([byteOf' kk,byteOf' r]++aA un))
 have hvs:(aA (2+(aA un).length)).length≤10:=bU 9 _
 subst hk
 have hP:bD (qh 2 (chunk 1 [.v (.int .u8 2),.v (.int .u8 r)]) (aV (aA un))) ([byteOf' kk,byteOf' r]++aA un):=hkk▸bD.app (bD.two (by omega) (by omega) (by omega) (by omega)) (bD.bytes _) rfl
 have hn:2+(aA un).length=([byteOf' kk,byteOf' r]++aA un).length:=by omega
 dsimp only[Rc.av,Rc.cs]at hm⊢
 refine K1.E 0x3a020807804000975f Tryz.func41 ?_
 repeat' ((conv=>whnf);first|refine K1.w ?_|refine K1.u ?_|refine K1.P1 hm rfl ?_|refine K1.P1 (kR _) rfl ?_|refine K1.F1 (eP _ un (by omega)) rfl ?_|refine K1.F1 (eP _ (2+(aA un).length) (by omega)) rfl ?_|refine K1.F1 (nT _ (aA (2+(aA un).length)++([byteOf' kk,byteOf' r]++aA un)) (bD.app (bD.bytes _) hP rfl) (by rw[List.length_append,←hn]) (by rw[List.length_append,←hn];omega)) rfl ?_|refine K1.z ?_|refine K1.y (fun _=>?_) (fun _=>?_)|fail)
 conv=>whnf
 refine aJ.qo d rfl rfl ?_ (aj)
 refine cO.pF (bD.bytes _) rfl ?_
 rw[hn]
 unfold bg jV
 simp[hkk,zl,zn,zo,byteOf,byteOf',iM]
theorem Tt (d:Nat) (x:Rc) (h:iK x=true) (hk:x.k=3∨x.k=5):
  aG Tryz.prog 41 [x.av] (.dL [.own d,.v (.int .i64 0)]) [(d,.row 5 1 (bg x).length true (aV (bg x)))]:=by
 have m:=oh h
 have hm:=uF x (by have:=m.l;omega)
 rw[h]at hm
 obtain⟨k,r,u,⟨c0,c1,c2,c3,c4⟩,ev⟩:=x
 obtain⟨mk,mr,mu,wC,uO,me0,⟨m0,m1,m2,m3,m4⟩,ml,Lp,yw⟩:=m
 dsimp only at mk mr mu ml m0 m1 m2 m3 m4 wC uO me0 yw Lp hk
 obtain⟨kk,hkk⟩: ∃kk,kk=k:=⟨_,rfl⟩
 obtain⟨c0,rfl,hc0⟩:=gq m0
 obtain⟨c1,rfl,hc1⟩:=gq m1
 obtain⟨c2,rfl,hc2⟩:=gq m2
 obtain⟨c3,rfl,hc3⟩:=gq m3
 obtain⟨c4,rfl,hc4⟩:=gq m4
 have q0:(aA c0).length≤10:=bU 9 _
 have q1:(aA c1).length≤10:=bU 9 _
 have q2:(aA c2).length≤10:=bU 9 _
 have q3:(aA c3).length≤10:=bU 9 _
 have q4:(aA c4).length≤10:=bU 9 _
 obtain⟨n,hn0⟩: ∃n,n=2+(aA c0).length+(aA c1).length+(aA c2).length+(aA c3).length+(aA c4).length:=⟨_,rfl⟩
 have hn:n=([byteOf' kk,byteOf' r]++aA c0++aA c1++aA c2++aA c3++aA c4).length:=by rw[hn0];simp;omega
 have hvs:(aA (2+(aA c0).length+(aA c1).length+(aA c2).length+(aA c3).length+(aA c4).length)).length≤10:=bU 9 _
 have hsl:=eH (aA (2+(aA c0).length+(aA c1).length+(aA c2).length+(aA c3).length+(aA c4).length)++([byteOf' kk,byteOf' r]++aA c0++aA c1++aA c2++aA c3++aA c4))
 rcases hk with rfl|rfl
 all_goals
  have hP:=bD.app (bD.app (bD.app (bD.app (bD.app (bD.two (x:=kk) (y:=r) (by omega) (by omega) (by omega) (by omega)) (bD.bytes (aA c0)) rfl) (bD.bytes (aA c1)) (n:=2+(aA c0).length) (by simp<;>omega)) (bD.bytes (aA c2)) (n:=2+(aA c0).length+(aA c1).length) (by simp<;>omega)) (bD.bytes (aA c3)) (n:=2+(aA c0).length+(aA c1).length+(aA c2).length) (by simp<;>omega)) (bD.bytes (aA c4)) (n:=2+(aA c0).length+(aA c1).length+(aA c2).length+(aA c3).length) (by simp<;>omega)
  rw[hkk]at hP hn
  dsimp only[Rc.av,Rc.cs]at hm⊢
  refine K1.E 0x3a020807804000975f Tryz.func41 ?_
  repeat' ((conv=>whnf);first|refine K1.w ?_|refine K1.u ?_|refine K1.P1 hm rfl ?_|refine K1.P1 (kR _) rfl ?_|refine K1.F1 (eP _ c0 (by omega)) rfl ?_|refine K1.F1 (eP _ c1 (by omega)) rfl ?_|refine K1.F1 (eP _ c2 (by omega)) rfl ?_|refine K1.F1 (eP _ c3 (by omega)) rfl ?_|refine K1.F1 (eP _ c4 (by omega)) rfl ?_|refine K1.F1 (eP _ (2+(aA c0).length+(aA c1).length+(aA c2).length+(aA c3).length+(aA c4).length) (by omega)) rfl ?_|refine K1.F1 (nT _ (aA (2+(aA c0).length+(aA c1).length+(aA c2).length+(aA c3).length+(aA c4).length)++([byteOf' _,byteOf' r]++aA c0++aA c1++aA c2++aA c3++aA c4)) (bD.app (bD.bytes _) hP rfl) (by rw[List.length_append,←hn,hn0]) (by rw[List.length_append,←hn,hn0];omega)) rfl ?_|refine aN.sO 68 6 rfl ?_|refine K1.z ?_|refine K1.y (fun _=>?_) (fun _=>?_)|fail)
  conv=>whnf
  refine aJ.qo d rfl rfl ?_ (aj)
  refine cO.pF (bD.bytes _) rfl ?_
  rw[←hn0,hn]
  unfold bg jV
  simp[zl,zn,zo,byteOf,byteOf',iM,zk]
theorem Cb (d:Nat) (x:Rc) (h:iK x=true):
  aG Tryz.prog 41 [x.av] (.dL [.own d,.v (.int .i64 0)]) [(d,.row 5 1 (bg x).length true (aV (bg x)))]:=by
 have m:=(oh h).k
 rcases(show x.k=1∨x.k=2∨x.k=3∨x.k=4∨x.k=5 by omega)with hk|hk|hk|hk|hk
 · exact Tq d x h (.inl hk)
 · exact aaK d x h hk
 · exact Tt d x h (.inl hk)
 · exact Tq d x h (.inr hk)
 · exact Tt d x h (.inr hk)
end
end Go.Proofs.YtimhagicagdkfaaGreat
