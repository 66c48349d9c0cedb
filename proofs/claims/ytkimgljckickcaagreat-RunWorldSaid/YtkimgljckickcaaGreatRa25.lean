/-
  Contracts of the walk:TkE.
-/
import Derived.Test.YtkimgljckickcaaGreatRa19
import Derived.Test.YtkimgljckickcaaGreatRa13
set_option maxHeartbeats 16000000
set_option maxRecDepth 100000
set_option linter.unusedVariables false
set_option linter.unusedSimpArgs false
namespace Go.Proofs.YtkimgljckickcaaGreat
open Go.RowKit
open Go.Proofs.Tryz
variable{e:Ev}{c hi lo:Int}{bs:List UInt8}{s s':Sq}
def QO:Ev:=⟨0,0,⟨0,0,0,0,0⟩,0,0,⟨#[]⟩,0,⟨#[]⟩⟩
def oJ(bs:List UInt8):Ev×Nat×Int:=if(nD bs (0,0)).2.2≠0 then(QO,0,(nD bs (0,0)).2.2)else((nD bs (0,0)).1,(nD bs (0,0)).2.1,0)
def tkR(t:Ev×Nat×Int):AV:= .aZ [t.1.av,.v (.int .i64 (t.2.1:Int)),.v (.int .i64 t.2.2)]
theorem U9(h:nD bs (0,0)=(e,s))(h0:s.2=0):tkR (e,s.1,0)=tkR (oJ bs):=by
 unfold oJ;rw[h,if_neg (λ k=>k h0)]
theorem Va(h:nD bs (0,0)=(e,s))(h0:¬s.2=0):tkR (QO,0,s.2)=tkR (oJ bs):=by
 unfold oJ;rw[h,if_pos h0]
theorem ajN(_h0:0<=lo)(h1:0<=hi):0<=(jo bs lo hi s).1/\(jo bs lo hi s).1<=hi:=by
 unfold jo;split
 ·exact⟨aom _,h1⟩
 ·split
  ·exact⟨aom _,h1⟩
  ·split
   ·rename_i h;exact⟨o_,h.2⟩
   ·exact⟨aom _,h1⟩
theorem Ep(h:gZ bs lo hi s=(c,s'))(hu:s.1<=bs.length):s'.1<=bs.length/\(0<=c/\c<=255):=by
 have h1:=agJ (lo:=lo) (hi:=hi) hu;have h2:=ajC (bs:=bs) (lo:=lo) (hi:=hi) (s:=s);rw[h]at h1 h2;exact⟨h1,h2⟩
theorem Ah(h:jo bs lo hi s=(c,s'))(hu:s.1<=bs.length)(h0:0<=lo)(h1:0<=hi):s'.1<=bs.length/\(0<=c/\c<=hi):=by
 have h3:=ag9 (lo:=lo) (hi:=hi) hu;have h2:=ajN (bs:=bs) (lo:=lo) (hi:=hi) (s:=s) h0 h1;rw[h]at h3 h2;exact⟨h3,h2⟩
theorem aeY{sz:Int}{may:ByteArray->Int}{c:ByteArray}(h:je bs sz may s=(c,s'))(hu:s.1<=bs.length):s'.1<=bs.length:=by
 have h1:=aen (sz:=sz) (may:=may) hu;rw[h]at h1;exact h1
theorem aa9(bs:List UInt8)(hl:bs.length<=1000000000):aF prog 241 [.sl 1 bs.length true (aO bs)] (.aZ [(oJ bs).1.av,.v (.int .i64 ((oJ bs).2.1:Int)),.v (.int .i64 (oJ bs).2.2)]) []:=by
 obtain⟨⟨k,s1⟩,e1⟩:∃p,gZ bs 1 5 (0,0)=p:=⟨_,rfl⟩;obtain⟨q1,g1⟩:=Ep e1 (ane _);obtain⟨⟨R,s2⟩,e2⟩:∃p,gZ bs 0 4 s1=p:=⟨_,rfl⟩;have hR0:=Jt (bs:=bs) (lo:=0) (hi:=4) (s:=s1);rw[e2]at hR0;obtain⟨q2,g2⟩:=Ep e2 q1;obtain⟨⟨N,s3⟩,e3⟩:∃p,jo bs 1 1048576 s2=p:=⟨_,rfl⟩;obtain⟨q3,g3⟩:=Ah e3 q2 o_ o_;obtain⟨⟨x1,t1⟩,f1⟩:∃p,jo bs 0 1048576 s3=p:=⟨_,rfl⟩;obtain⟨p1,_⟩:=Ah f1 q3 o_ o_;obtain⟨⟨x2,t2⟩,f2⟩:∃p,jo bs 0 1048576 t1=p:=⟨_,rfl⟩;obtain⟨p2,_⟩:=Ah f2 p1 o_ o_;obtain⟨⟨x3,t3⟩,f3⟩:∃p,jo bs 0 1048576 t2=p:=⟨_,rfl⟩;obtain⟨p3,_⟩:=Ah f3 p2 o_ o_;obtain⟨⟨x4,t4⟩,f4⟩:∃p,jo bs 0 1048576 t3=p:=⟨_,rfl⟩;obtain⟨p4,_⟩:=Ah f4 p3 o_ o_;obtain⟨⟨H,s5⟩,e5⟩:∃p,jo bs 1 16777216 t4=p:=⟨_,rfl⟩;obtain⟨q5,g5⟩:=Ah e5 p4 o_ o_;obtain⟨⟨ks,s6⟩,e6⟩:∃p,gZ bs 1 8 s5=p:=⟨_,rfl⟩;obtain⟨q6,g6⟩:=Ep e6 q5;obtain⟨⟨key,s7⟩,e7⟩:∃p,je bs ks keyE s6=p:=⟨_,rfl⟩;have q7:=aeY e7 q6;obtain⟨⟨l,s8⟩,e8⟩:∃p,gZ bs 0 1 s7=p:=⟨_,rfl⟩;obtain⟨q8,g8⟩:=Ep e8 q7;obtain⟨⟨vs,s9⟩,e9⟩:∃p,gZ bs 1 12 s8=p:=⟨_,rfl⟩;obtain⟨q9,g9⟩:=Ep e9 q8;obtain⟨⟨v,s10⟩,e10⟩:∃p,je bs vs lD s9=p:=⟨_,rfl⟩;have hR:0<=R/\R<=4:=by simp only at hR0;omega
 have hF:=zW (l:=l) (vs:=vs) (v:=v) (s8:=s8) (s9:=s9) (s10:=s10) hR e1 e2 e3 f1 f2 f3 f4 e5 e6 e7;have hS:=hF.1;have hL:=hF.2 e8 e9 e10;clear hF;rcases(show R=0\/R=1\/R=2\/R=3\/R=4 by omega)with rfl|rfl|rfl|rfl|rfl;all_goals
  refine K1.E 0x100ff func241 ?_;repeat' ((conv=>whnf);first|refine K1.u ?_|refine K1.C 3 [(0,_),(1,_),(2,_)] (D9 bs _ _ _ _ _ e1 hl) rfl ?_|refine K1.C 3 [(0,_),(1,_),(2,_)] (D9 bs _ _ _ _ _ e2 hl) rfl ?_|refine K1.C 3 [(0,_),(1,_),(2,_)] (vK bs _ _ _ _ _ e3 a_ hl o_ o_ o_) rfl ?_ rfl rfl rfl|refine K1.C 3 [(0,_),(1,_),(2,_)] (vK bs _ _ _ _ _ f1 a_ hl o_ o_ o_) rfl ?_ rfl rfl rfl|refine K1.C 3 [(0,_),(1,_),(2,_)] (vK bs _ _ _ _ _ f2 a_ hl o_ o_ o_) rfl ?_ rfl rfl rfl|refine K1.C 3 [(0,_),(1,_),(2,_)] (vK bs _ _ _ _ _ f3 a_ hl o_ o_ o_) rfl ?_ rfl rfl rfl|refine K1.C 3 [(0,_),(1,_),(2,_)] (vK bs _ _ _ _ _ f4 a_ hl o_ o_ o_) rfl ?_ rfl rfl rfl|refine K1.C 3 [(0,_),(1,_),(2,_)] (vK bs _ _ _ _ _ e5 a_ hl o_ o_ o_) rfl ?_ rfl rfl rfl|refine K1.C 3 [(0,_),(1,_),(2,_)] (D9 bs _ _ _ _ _ e6 hl) rfl ?_|refine K1.C 3 [(0,_),(1,_),(2,_)] (aeo bs _ _ _ _ e7 a_ hl a_) rfl ?_ rfl rfl rfl|refine K1.C 3 [(0,_),(1,_),(2,_)] (D9 bs _ _ _ _ _ e8 hl) rfl ?_|refine K1.C 3 [(0,_),(1,_),(2,_)] (D9 bs _ _ _ _ _ e9 hl) rfl ?_|refine K1.C 3 [(0,_),(1,_),(2,_)] (aep bs _ _ _ _ e10 a_ hl a_) rfl ?_ rfl rfl rfl|refine K1.P1 (Gn _) ?_|refine aI.rounds 6 ?_|refine K1.I 0x4000004301c7 func250 ?_|refine K1.o (id:=6) (nN [0,1] [(2,some []),(3,some []),(4,some [1])]) ?_|refine K1.o (id:=7) (nN [0,1] [(2,some [0]),(3,some [0,1]),(4,some [0,1])]) ?_|refine K1.z ?_|refine K1.y (λ _=>?_) (λ _=>?_)|fail)
  all_goals refine aT.fH ?_
  all_goals(conv=>whnf)
  all_goals refine bF.mk (dJ.of ?_)
  all_goals first|exact U9 (hL ‹_›) ‹_› |exact Va (hL ‹_›) ‹_› |exact U9 (hS ‹_›) ‹_› |exact Va (hS ‹_›) ‹_›
end Go.Proofs.YtkimgljckickcaaGreat
