/-
  Contracts of the walk:RcV,AmG,RcW.
-/
import Derived.Test.YtopfgjgdadnjeaaGreatHp10
import Derived.Test.YtopfgjgdadnjeaaGreatHp5
import Derived.ScopeJumps
set_option maxHeartbeats 16000000
set_option maxRecDepth 100000
set_option linter.unusedVariables false
set_option linter.unusedSimpArgs false
namespace Go.Proofs.YtopfgjgdadnjeaaGreat
open Go.RowKit
variable{n:Nat}{F:Nat->List AV}
theorem bI.bJ{xs ys:List AV}(h:Ch xs ys):bI (.bJ xs) (.bJ ys):=λ _ _ ⟨us,e,ha⟩=>⟨us,e,h.all ha⟩
theorem ru(l:List UInt8){m k:Nat}(h:kN l=some (m,k))(hF:aS F l)(hn:n=l.length):aC Tryz.prog 136 [.sl 1 n true F] (.bJ [.v (.int .i64 (m:Int)),.sl 1 (l.drop k).length true (aG (l.drop k)),.v (.bool true)]) []:=by
 have hle:=uO h;obtain⟨⟨a,c,e⟩,hv⟩:∃p,dH l=p:=⟨_,rfl⟩;have hs:=iW l hF hn;unfold kN at h;rw[hv]at hs h;dsimp only at hs h;split at h
 ·rename_i h0;obtain⟨h0,h1⟩:=h0;simp only[Option.some.injEq,Prod.mk.injEq]at h;obtain⟨rfl,rfl⟩:=h;subst h0;refine K1.E 0x800fd Tryz.func136 ?_;repeat' ((conv=>whnf);first|refine K1.u ?_|refine K1.P1 hs ?_|refine aO.dW ?_|refine K1.o (id:=4) (nN [0,1,2,3,4,5,6,7] []) ?_|refine K1.z ?_|refine K1.y (λ _=>?_) (λ _=>?_)|fail)
  conv=>whnf
  exact aW.mk (bI.bJ (.same (.lH (aS.drop hF _) (by simp[hn]) (.same .nil))))
 ·cases h
theorem rC(l:List UInt8)(h:kN l=none)(hF:aS F l)(hn:n=l.length):aC Tryz.prog 136 [.sl 1 n true F] (.bJ [.v (.int .i64 0),.v (.slice none 0 0),.v (.bool false)]) []:=by
 obtain⟨⟨a,c,e⟩,hv⟩:∃p,dH l=p:=⟨_,rfl⟩;have hs:=iW l hF hn;unfold kN at h;rw[hv]at hs h;dsimp only at hs h;split at h
 ·cases h
 ·rename_i h0;refine K1.E 0x800fd Tryz.func136 ?_;repeat' ((conv=>whnf);first|refine K1.u ?_|refine K1.P1 hs ?_|refine aO.dW ?_|refine K1.o (id:=4) (nN [0,1,2,3,4,5,6,7] []) ?_|refine K1.z ?_|refine K1.y (λ _=>?_) (λ _=>?_)|fail)
  all_goals(conv=>whnf)
  all_goals first
   |exact aW.mk (aP)
   |(exfalso;apply h0;constructor<;>omega)
theorem Zf(b:List UInt8)(hl:b.length<=1000000000):aC Tryz.prog 137 [.sl 1 b.length true (aG b)] (GI (ni b)) []:=by
 cases hN:kN b with
 |none=>
  have hnum:=rC b hN (aS.bytes b) rfl;rw[show ni b=none by unfold ni;rw[hN]];refine K1.E 0x101e003fd Tryz.func137 ?_;repeat' ((conv=>whnf);first|refine K1.u ?_|refine K1.P1 hnum ?_|refine aO.dW ?_|refine K1.o (id:=10) (nN [0,1,4,5,6] ((2,some [1])::(3,some [1])::nN [7,8] [])) ?_|refine K1.z ?_|refine K1.y (λ _=>?_) (λ _=>?_)|fail)
  all_goals(conv=>whnf)
  all_goals exact aW.mk (aP)
 |some p=>
  obtain⟨c,k⟩:=p;have hnum:=ru b hN (aS.bytes b) rfl;have hle:=uO hN;have hdl:(b.drop k).length<=b.length:=by rw[List.length_drop];omega
  by_cases hc:4096<c
  ·rw[show ni b=none by unfold ni;rw[hN];dsimp only;rw[if_pos hc]];refine K1.E 0x101e003fd Tryz.func137 ?_;repeat' ((conv=>whnf);first|refine K1.u ?_|refine K1.P1 hnum ?_|refine aO.dW ?_|refine K1.o (id:=10) (nN [0,1,4,5,6] ((2,some [1])::(3,some [1])::nN [7,8] [])) ?_|refine K1.z ?_|refine K1.y (λ _=>?_) (λ _=>?_)|fail)
   all_goals(conv=>whnf)
   all_goals exact aW.mk (aP)
  ·have hlf:ni b=(je (b.drop k) c).map (·.1):=by unfold ni;rw[hN];dsimp only;rw[if_neg hc]
   generalize b.drop k=t at hnum hdl hlf;refine K1.E 0x101e003fd Tryz.func137 ?_;repeat' ((conv=>whnf);first|refine K1.u ?_|refine K1.P1 hnum ?_|refine aO.dW ?_|refine K1.o (id:=10) (nN [0,1,4,5,6] ((2,some [1])::(3,some [1])::nN [7,8] [])) ?_|refine K1.z ?_|refine K1.y (λ _=>?_) (λ _=>?_)|fail)
   conv=>whnf
   refine aK.mk {p:Nat×List Ev×List UInt8//je t p.1=some p.2/\p.1<=c} (λ p=>match p with
    |⟨(0,_,r),_⟩=>⟨[(0,.sl 1 r.length true (aG r)),(6,.v (.slice none 0 0)),(22,.v (.int .i64 (c:Int))),(23,.v (.int .i64 0))],[],[],0⟩
    |⟨(i+1,l,r),_⟩=>⟨[(0,.sl 1 r.length true (aG r)),(6,.own 90),(22,.v (.int .i64 (c:Int))),(23,.v (.int .i64 ((i:Int)+1)))],[(90,.row 84 12 l.length true (jH l))],[],91⟩)
    (λ p=>c-p.1.1) ⟨(0,[],t),rfl,Nat.zero_le _⟩ _
    (iw.mk' [] _ _ _ rfl ⟨aP,aP,aP,bI.int rfl,trivial⟩ trivial rfl) ?_
   rintro⟨⟨_|i,l,r⟩,hp,hj⟩
   ·dsimp only at hp hj;obtain⟨hl0,hr0⟩:=nZ hp;obtain rfl:l=[]:=List.eq_nil_of_length_eq_zero hl0;have hz:c=0->ni b=some []:=λ h=>by rw[hlf,h,hp];rfl
    rcases uJ r with⟨e,m,ht,-,hm,-⟩|ht|ht
    ·dsimp only;repeat' ((conv=>whnf);first|refine K1.u ?_|refine K1.P1 (take_any r ht (aS.bytes r) rfl (by omega)) ?_ rfl rfl|refine aO.dW ?_|refine K1.o (id:=10) (nN [0,1,4,5,6] ((2,some [1])::(3,some [1])::nN [7,8] [])) ?_|refine K1.z ?_|refine K1.y (λ _=>?_) (λ _=>?_)|fail)
     all_goals(conv=>whnf)
     ·refine⟨⟨(0+1,[]++[e],r.drop m),qC hp ht,by omega⟩,_,iw.mk' [(2,90)] _ _ _ rfl ⟨bI.lH (aS.drop (aS.bytes r) m) (by simp),aP,aP,bI.int rfl,trivial⟩ ⟨⟨_,rfl,fP.row rfl (λ i hi=>?_)⟩,trivial⟩ rfl,by show c-(0+1)<c-0;omega⟩;have hi:i<1:=hi;obtain rfl:i=0:=by omega
      rfl
     ·rw[hz (by omega)];exact aW.mk (bI.Zb _)
    all_goals
     have hno:0<c->ni b=none:=λ h=>by rw[hlf,uM (uK hp (by rw[ht];decide)) c (by omega)];rfl
     dsimp only;repeat' ((conv=>whnf);first|refine K1.u ?_|refine K1.P1 (take_any r ht (aS.bytes r) rfl (by omega)) ?_ rfl rfl|refine aO.dW ?_|refine K1.o (id:=10) (nN [0,1,4,5,6] ((2,some [1])::(3,some [1])::nN [7,8] [])) ?_|refine K1.z ?_|refine K1.y (λ _=>?_) (λ _=>?_)|fail)
     all_goals(conv=>whnf)
     ·rw[hno (by omega)];exact aW.mk (aP)
     ·rw[hz (by omega)];exact aW.mk (bI.Zb _)
   ·dsimp only at hp hj;obtain⟨hl0,hr0⟩:=nZ hp;have hz:c=i+1->ni b=some l:=λ h=>by rw[hlf,h,hp];rfl
    rcases uJ r with⟨e,m,ht,-,hm,-⟩|ht|ht
    ·dsimp only;repeat' ((conv=>whnf);first|refine K1.u ?_|refine K1.P1 (take_any r ht (aS.bytes r) rfl (by omega)) ?_ rfl rfl|refine aO.dW ?_|refine K1.o (id:=10) (nN [0,1,4,5,6] ((2,some [1])::(3,some [1])::nN [7,8] [])) ?_|refine K1.z ?_|refine K1.y (λ _=>?_) (λ _=>?_)|fail)
     all_goals(conv=>whnf)
     ·refine⟨⟨(i+1+1,l++[e],r.drop m),qC hp ht,by omega⟩,_,iw.mk' [(93,90)] _ _ _ rfl ⟨bI.lH (aS.drop (aS.bytes r) m) (by simp),aP,aP,bI.int rfl,trivial⟩ ⟨⟨_,rfl,fP.row (by simp) (λ m hm=>jX (c:=Ev.cs) rfl rfl m hm)⟩,trivial⟩ rfl,by show c-(i+1+1)<c-(i+1);omega⟩
     ·rw[hz (by omega)];exact aW.mk (aP)
    all_goals
     have hno:i+1<c->ni b=none:=λ h=>by rw[hlf,uM (uK hp (by rw[ht];decide)) c (by omega)];rfl
     dsimp only;repeat' ((conv=>whnf);first|refine K1.u ?_|refine K1.P1 (take_any r ht (aS.bytes r) rfl (by omega)) ?_ rfl rfl|refine aO.dW ?_|refine K1.o (id:=10) (nN [0,1,4,5,6] ((2,some [1])::(3,some [1])::nN [7,8] [])) ?_|refine K1.z ?_|refine K1.y (λ _=>?_) (λ _=>?_)|fail)
     all_goals(conv=>whnf)
     ·rw[hno (by omega)];exact aW.mk (aP)
     ·rw[hz (by omega)];exact aW.mk (aP)
theorem FC(b:List UInt8)(hF:aS F b)(hn:n=b.length)(hl:b.length<=1000000000):aC Tryz.prog 137 [.sl 1 n true F] (GI (ni b)) []:=
 (Zf b hl).args (Ch.lH hF hn .nil)
theorem MN(k:Int)(h:k=1\/k=2\/k=5):aC Tryz.prog 116 [.v (.int .i64 k)] (.bJ [.v (.bool false),.v (.bool true),.v (.bool false),.v (.bool true)]) []:=by
 have:=gG k;rcases h with rfl|rfl|rfl<;>exact this
theorem MO(k:Int)(h:k=3):aC Tryz.prog 116 [.v (.int .i64 k)] (.bJ [.v (.bool true),.v (.bool false),.v (.bool false),.v (.bool true)]) []:=by
 have:=gG k;rcases h with rfl;exact this
theorem BP(k:Int)(h:k=4):aC Tryz.prog 116 [.v (.int .i64 k)] (.bJ [.v (.bool true),.v (.bool true),.v (.bool false),.v (.bool true)]) []:=by
 have:=gG k;rcases h with rfl;exact this
theorem tH(k:Int)(h:k=6):aC Tryz.prog 116 [.v (.int .i64 k)] (.bJ [.v (.bool false),.v (.bool false),.v (.bool true),.v (.bool true)]) []:=by
 have:=gG k;rcases h with rfl;exact this
theorem wI{b:List UInt8}(hu:2<=b.length):jG b=Ze ((b.getD 0 default).toNat:Int) ((b.getD 1 default).toNat:Int) (b.drop 2):=by
 unfold jG;rw[if_neg (by omega)]
theorem WY(b:List UInt8)(hl:b.length<=1000000000)(h:b.length<2):
  aC Tryz.prog 127 [.sl 1 b.length true (aG b)] (.bJ [(jG b).1.av,.v (.bool (jG b).2)]) []:=by
 rw[show jG b=(Gs,false) by unfold jG;rw[if_pos h]];dsimp only[Rc.av,Rc.cs];refine K1.E 0x200042020000027fd Tryz.func127 ?_;repeat' ((conv=>whnf);first|refine K1.u ?_|refine aK.jA 10 6 rfl ?_|refine aO.dW ?_|refine K1.o (id:=3) (nN [0,1,2,3,4,5,6,7,8] [(9,some []),(10,some [7,6,3,2])]) ?_|refine K1.z ?_|refine K1.y (λ _=>?_) (λ _=>?_)|fail)
 all_goals(conv=>whnf)
 all_goals exact aW.mk (bI.fO _)
theorem Pn(b:List UInt8)(hl:b.length<=1000000000)(hu:2<=b.length)(hk:¬ (((b.getD 0 default).toNat:Int)=1\/((b.getD 0 default).toNat:Int)=2\/((b.getD 0 default).toNat:Int)=5)/\ ¬ ((b.getD 0 default).toNat:Int)=3/\ ¬ ((b.getD 0 default).toNat:Int)=4/\ ¬ ((b.getD 0 default).toNat:Int)=6):
  aC Tryz.prog 127 [.sl 1 b.length true (aG b)] (.bJ [(jG b).1.av,.v (.bool (jG b).2)]) []:=by
 rw[wI hu];unfold Ze;rw[if_neg hk.1,if_neg hk.2.1,if_neg hk.2.2.1,if_neg hk.2.2.2];have hf:=CW ((b.getD 0 default).toNat:Int) (by omega);dsimp only[Rc.av,Rc.cs];refine K1.E 0x200042020000027fd Tryz.func127 ?_;repeat' ((conv=>whnf);first|refine K1.u ?_|refine K1.P1 hf ?_|refine aK.jA 10 6 rfl ?_|refine aO.dW ?_|refine K1.o (id:=3) (nN [0,1,2,3,4,5,6,7,8] [(9,some []),(10,some [7,6,3,2])]) ?_|refine K1.z ?_|refine K1.y (λ _=>?_) (λ _=>?_)|fail)
 all_goals(conv=>whnf)
 all_goals exact aW.mk (bI.fO _)
theorem Zg(b:List UInt8)(hl:b.length<=1000000000)(hu:2<=b.length)(hk:((b.getD 0 default).toNat:Int)=1\/((b.getD 0 default).toNat:Int)=2\/((b.getD 0 default).toNat:Int)=5):
  aC Tryz.prog 127 [.sl 1 b.length true (aG b)] (.bJ [(jG b).1.av,.v (.bool (jG b).2)]) []:=by
 rw[wI hu];unfold Ze;rw[if_pos hk];unfold ML;have he:=FC (n:=b.length-2) (b.drop 2) (aS.drop (aS.bytes b) 2) (by simp) (by simp;omega);cases hE:ni (b.drop 2)with
 |none=>
  rw[hE]at he;dsimp only[GI]at he;dsimp only[Rc.av,Rc.cs];refine K1.E 0x200042020000027fd Tryz.func127 ?_;repeat' ((conv=>whnf);first|refine K1.u ?_|refine K1.P1 (MN _ hk) ?_|refine K1.P1 he ?_|refine aK.jA 10 6 rfl ?_|refine aO.dW ?_|refine K1.o (id:=3) (nN [0,1,2,3,4,5,6,7,8] [(9,some []),(10,some [7,6,3,2])]) ?_|refine K1.z ?_|refine K1.y (λ _=>?_) (λ _=>?_)|fail)
  all_goals(conv=>whnf)
  all_goals exact aW.mk (bI.fO _)
 |some l=>
  rw[hE]at he;dsimp only[GI]at he;dsimp only[Rc.av,Rc.cs];refine K1.E 0x200042020000027fd Tryz.func127 ?_;repeat' ((conv=>whnf);first|refine K1.u ?_|refine K1.P1 (MN _ hk) ?_|refine K1.P1 he ?_|refine aK.jA 10 6 rfl ?_|refine aO.dW ?_|refine K1.o (id:=3) (nN [0,1,2,3,4,5,6,7,8] [(9,some []),(10,some [7,6,3,2])]) ?_|refine K1.z ?_|refine K1.y (λ _=>?_) (λ _=>?_)|fail)
  all_goals(conv=>whnf)
  all_goals exact aW.mk (aP)
theorem Zh(b:List UInt8)(hl:b.length<=1000000000)(hu:2<=b.length)(hk:((b.getD 0 default).toNat:Int)=3):
  aC Tryz.prog 127 [.sl 1 b.length true (aG b)] (.bJ [(jG b).1.av,.v (.bool (jG b).2)]) []:=by
 rw[wI hu];unfold Ze;rw[if_neg (by omega),if_pos hk];unfold Zd;cases hE:kN (b.drop 2)with
 |none=>
  have he:=rC (n:=b.length-2) (b.drop 2) hE (aS.drop (aS.bytes b) 2) (by simp);dsimp only[Rc.av,Rc.cs];refine K1.E 0x200042020000027fd Tryz.func127 ?_;repeat' ((conv=>whnf);first|refine K1.u ?_|refine K1.P1 (MO _ hk) ?_|refine K1.P1 he ?_|refine aK.jA 10 6 rfl ?_|refine aO.dW ?_|refine K1.o (id:=3) (nN [0,1,2,3,4,5,6,7,8] [(9,some []),(10,some [7,6,3,2])]) ?_|refine K1.z ?_|refine K1.y (λ _=>?_) (λ _=>?_)|fail)
  all_goals(conv=>whnf)
  all_goals exact aW.mk (bI.fO _)
 |some p=>
  obtain⟨m,k⟩:=p;have he:=ru (n:=b.length-2) (b.drop 2) hE (aS.drop (aS.bytes b) 2) (by simp);dsimp only[Rc.av,Rc.cs];refine K1.E 0x200042020000027fd Tryz.func127 ?_;repeat' ((conv=>whnf);first|refine K1.u ?_|refine K1.P1 (MO _ hk) ?_|refine K1.P1 he ?_|refine aK.jA 10 6 rfl ?_|refine aO.dW ?_|refine K1.o (id:=3) (nN [0,1,2,3,4,5,6,7,8] [(9,some []),(10,some [7,6,3,2])]) ?_|refine K1.z ?_|refine K1.y (λ _=>?_) (λ _=>?_)|fail)
  all_goals(conv=>whnf)
  all_goals exact aW.mk (bI.fO _)
theorem WZ(b:List UInt8)(hl:b.length<=1000000000)(hu:2<=b.length)(hk:((b.getD 0 default).toNat:Int)=4):
  aC Tryz.prog 127 [.sl 1 b.length true (aG b)] (.bJ [(jG b).1.av,.v (.bool (jG b).2)]) []:=by
 rw[wI hu];unfold Ze;rw[if_neg (by omega),if_neg (by omega),if_pos hk];cases hE:kN (b.drop 2)with
 |none=>
  have he:=rC (n:=b.length-2) (b.drop 2) hE (aS.drop (aS.bytes b) 2) (by simp);dsimp only[Rc.av,Rc.cs];refine K1.E 0x200042020000027fd Tryz.func127 ?_;repeat' ((conv=>whnf);first|refine K1.u ?_|refine K1.P1 (BP _ hk) ?_|refine K1.P1 he ?_|refine aK.jA 10 6 rfl ?_|refine aO.dW ?_|refine K1.o (id:=3) (nN [0,1,2,3,4,5,6,7,8] [(9,some []),(10,some [7,6,3,2])]) ?_|refine K1.z ?_|refine K1.y (λ _=>?_) (λ _=>?_)|fail)
  all_goals(conv=>whnf)
  all_goals exact aW.mk (bI.fO _)
 |some p=>
  obtain⟨m,k⟩:=p;have he:=ru (n:=b.length-2) (b.drop 2) hE (aS.drop (aS.bytes b) 2) (by simp);dsimp only;have hdl:((b.drop 2).drop k).length<=b.length:=by rw[List.length_drop,List.length_drop];omega
  generalize(b.drop 2).drop k=t at he hdl;have hli:=FC t (aS.bytes t) rfl (by omega);unfold ML;cases hL:ni t with
  |none=>
   rw[hL]at hli;dsimp only[GI]at hli;dsimp only[Rc.av,Rc.cs];refine K1.E 0x200042020000027fd Tryz.func127 ?_;repeat' ((conv=>whnf);first|refine K1.u ?_|refine K1.P1 (BP _ hk) ?_|refine K1.P1 he ?_|refine K1.P1 hli ?_|refine aK.jA 10 6 rfl ?_|refine aO.dW ?_|refine K1.o (id:=3) (nN [0,1,2,3,4,5,6,7,8] [(9,some []),(10,some [7,6,3,2])]) ?_|refine K1.z ?_|refine K1.y (λ _=>?_) (λ _=>?_)|fail)
   all_goals(conv=>whnf)
   all_goals exact aW.mk (bI.fO _)
  |some l=>
   rw[hL]at hli;dsimp only[GI]at hli;dsimp only[Rc.av,Rc.cs];refine K1.E 0x200042020000027fd Tryz.func127 ?_;repeat' ((conv=>whnf);first|refine K1.u ?_|refine K1.P1 (BP _ hk) ?_|refine K1.P1 he ?_|refine K1.P1 hli ?_|refine aK.jA 10 6 rfl ?_|refine aO.dW ?_|refine K1.o (id:=3) (nN [0,1,2,3,4,5,6,7,8] [(9,some []),(10,some [7,6,3,2])]) ?_|refine K1.z ?_|refine K1.y (λ _=>?_) (λ _=>?_)|fail)
   all_goals(conv=>whnf)
   all_goals exact aW.mk (aP)
theorem Zi(b:List UInt8)(hl:b.length<=1000000000)(hu:2<=b.length)(hk:((b.getD 0 default).toNat:Int)=6):
  aC Tryz.prog 127 [.sl 1 b.length true (aG b)] (.bJ [(jG b).1.av,.v (.bool (jG b).2)]) []:=by
 rw[wI hu];unfold Ze;rw[if_neg (by omega),if_neg (by omega),if_neg (by omega),if_pos hk];cases g0:kN (b.drop 2)with
 |none=>
  have e0:=rC (n:=b.length-2) (b.drop 2) g0 (aS.drop (aS.bytes b) 2) (by simp);have hr:zB (b.drop 2)=(⟨0,0,0,0,0⟩,false):=by unfold zB;simp only[g0]
  rw[hr];dsimp only[Rc.av,Rc.cs];refine K1.E 0x200042020000027fd Tryz.func127 ?_;repeat' ((conv=>whnf);first|refine K1.u ?_|refine K1.P1 (tH _ hk) ?_|refine K1.P1 e0 ?_|refine aK.jA 10 6 rfl ?_|refine aO.dW ?_|refine K1.o (id:=3) (nN [0,1,2,3,4,5,6,7,8] [(9,some []),(10,some [7,6,3,2])]) ?_|refine K1.z ?_|refine K1.y (λ _=>?_) (λ _=>?_)|fail)
  all_goals(conv=>whnf)
  all_goals exact aW.mk (bI.fO _)
 |some p0=>
  obtain⟨m0,k0⟩:=p0;have e0:=ru (n:=b.length-2) (b.drop 2) g0 (aS.drop (aS.bytes b) 2) (by simp);cases g1:kN ((b.drop 2).drop k0)with
  |none=>
   have e1:=rC ((b.drop 2).drop k0) g1 (aS.bytes _) rfl;have hr:zB (b.drop 2)=(⟨m0,0,0,0,0⟩,false):=by unfold zB;simp only[g0,g1]
   rw[hr];dsimp only[Rc.av,Rc.cs];refine K1.E 0x200042020000027fd Tryz.func127 ?_;repeat' ((conv=>whnf);first|refine K1.u ?_|refine K1.P1 (tH _ hk) ?_|refine K1.P1 e0 ?_|refine K1.P1 e1 ?_|refine aK.jA 10 6 rfl ?_|refine aO.dW ?_|refine K1.o (id:=3) (nN [0,1,2,3,4,5,6,7,8] [(9,some []),(10,some [7,6,3,2])]) ?_|refine K1.z ?_|refine K1.y (λ _=>?_) (λ _=>?_)|fail)
   all_goals(conv=>whnf)
   all_goals exact aW.mk (bI.fO _)
  |some p1=>
   obtain⟨m1,k1⟩:=p1;have e1:=ru ((b.drop 2).drop k0) g1 (aS.bytes _) rfl;cases g2:kN (((b.drop 2).drop k0).drop k1)with
   |none=>
    have e2:=rC (((b.drop 2).drop k0).drop k1) g2 (aS.bytes _) rfl;have hr:zB (b.drop 2)=(⟨m0,m1,0,0,0⟩,false):=by unfold zB;simp only[g0,g1,g2]
    rw[hr];dsimp only[Rc.av,Rc.cs];refine K1.E 0x200042020000027fd Tryz.func127 ?_;repeat' ((conv=>whnf);first|refine K1.u ?_|refine K1.P1 (tH _ hk) ?_|refine K1.P1 e0 ?_|refine K1.P1 e1 ?_|refine K1.P1 e2 ?_|refine aK.jA 10 6 rfl ?_|refine aO.dW ?_|refine K1.o (id:=3) (nN [0,1,2,3,4,5,6,7,8] [(9,some []),(10,some [7,6,3,2])]) ?_|refine K1.z ?_|refine K1.y (λ _=>?_) (λ _=>?_)|fail)
    all_goals(conv=>whnf)
    all_goals exact aW.mk (bI.fO _)
   |some p2=>
    obtain⟨m2,k2⟩:=p2;have e2:=ru (((b.drop 2).drop k0).drop k1) g2 (aS.bytes _) rfl;cases g3:kN ((((b.drop 2).drop k0).drop k1).drop k2)with
    |none=>
     have e3:=rC ((((b.drop 2).drop k0).drop k1).drop k2) g3 (aS.bytes _) rfl;have hr:zB (b.drop 2)=(⟨m0,m1,m2,0,0⟩,false):=by unfold zB;simp only[g0,g1,g2,g3]
     rw[hr];dsimp only[Rc.av,Rc.cs];refine K1.E 0x200042020000027fd Tryz.func127 ?_;repeat' ((conv=>whnf);first|refine K1.u ?_|refine K1.P1 (tH _ hk) ?_|refine K1.P1 e0 ?_|refine K1.P1 e1 ?_|refine K1.P1 e2 ?_|refine K1.P1 e3 ?_|refine aK.jA 10 6 rfl ?_|refine aO.dW ?_|refine K1.o (id:=3) (nN [0,1,2,3,4,5,6,7,8] [(9,some []),(10,some [7,6,3,2])]) ?_|refine K1.z ?_|refine K1.y (λ _=>?_) (λ _=>?_)|fail)
     all_goals(conv=>whnf)
     all_goals exact aW.mk (bI.fO _)
    |some p3=>
     obtain⟨m3,k3⟩:=p3;have e3:=ru ((((b.drop 2).drop k0).drop k1).drop k2) g3 (aS.bytes _) rfl;cases g4:kN (((((b.drop 2).drop k0).drop k1).drop k2).drop k3)with
     |none=>
      have e4:=rC (((((b.drop 2).drop k0).drop k1).drop k2).drop k3) g4 (aS.bytes _) rfl;have hr:zB (b.drop 2)=(⟨m0,m1,m2,m3,0⟩,false):=by unfold zB;simp only[g0,g1,g2,g3,g4]
      rw[hr];dsimp only[Rc.av,Rc.cs];refine K1.E 0x200042020000027fd Tryz.func127 ?_;repeat' ((conv=>whnf);first|refine K1.u ?_|refine K1.P1 (tH _ hk) ?_|refine K1.P1 e0 ?_|refine K1.P1 e1 ?_|refine K1.P1 e2 ?_|refine K1.P1 e3 ?_|refine K1.P1 e4 ?_|refine aK.jA 10 6 rfl ?_|refine aO.dW ?_|refine K1.o (id:=3) (nN [0,1,2,3,4,5,6,7,8] [(9,some []),(10,some [7,6,3,2])]) ?_|refine K1.z ?_|refine K1.y (λ _=>?_) (λ _=>?_)|fail)
      all_goals(conv=>whnf)
      all_goals exact aW.mk (bI.fO _)
     |some p4=>
      obtain⟨m4,k4⟩:=p4;have e4:=ru (((((b.drop 2).drop k0).drop k1).drop k2).drop k3) g4 (aS.bytes _) rfl;have hr:zB (b.drop 2)=(⟨m0,m1,m2,m3,m4⟩,true):=by unfold zB;simp only[g0,g1,g2,g3,g4]
      rw[hr];dsimp only[Rc.av,Rc.cs];refine K1.E 0x200042020000027fd Tryz.func127 ?_;repeat' ((conv=>whnf);first|refine K1.u ?_|refine K1.P1 (tH _ hk) ?_|refine K1.P1 e0 ?_|refine K1.P1 e1 ?_|refine K1.P1 e2 ?_|refine K1.P1 e3 ?_|refine K1.P1 e4 ?_|refine aK.jA 10 6 rfl ?_|refine aO.dW ?_|refine K1.o (id:=3) (nN [0,1,2,3,4,5,6,7,8] [(9,some []),(10,some [7,6,3,2])]) ?_|refine K1.z ?_|refine K1.y (λ _=>?_) (λ _=>?_)|fail)
      all_goals(conv=>whnf)
      all_goals exact aW.mk (bI.fO _)
theorem Po(b:List UInt8)(hF:aS F b)(hn:n=b.length)(hl:b.length<=1000000000):aC Tryz.prog 127 [.sl 1 n true F] (.bJ [(jG b).1.av,.v (.bool (jG b).2)]) []:=by
 refine aC.args ?_ (Ch.lH hF hn .nil);by_cases h:b.length<2
 ·exact WY b hl h
 ·have hu:2<=b.length:=by omega
  by_cases h1:((b.getD 0 default).toNat:Int)=1\/((b.getD 0 default).toNat:Int)=2\/((b.getD 0 default).toNat:Int)=5
  ·exact Zg b hl hu h1
  ·by_cases h2:((b.getD 0 default).toNat:Int)=3
   ·exact Zh b hl hu h2
   ·by_cases h3:((b.getD 0 default).toNat:Int)=4
    ·exact WZ b hl hu h3
    ·by_cases h4:((b.getD 0 default).toNat:Int)=6
     ·exact Zi b hl hu h4
     ·exact Pn b hl hu ⟨h1,h2,h3,h4⟩
def kQ(K:AS->Prop):jK->AS->Prop:=λ e st=>match e with| .normal=>K st|_=>False
structure acY(P:Program)(L:Lay)(W:Walk)(N lv:Nat)(t:Operand)(x0 x1 y0 y1 z:Code)(Q:jK->AS->Prop)(K:AS->Prop)(st:AS):Prop where
 h:kD P L W N lv x0 (kQ λ st=>kD P L W N lv x1 (kQ λ st=>match st.ev t with
  | .v (.bool b)=>(match b with
    |true=>kD P L W N lv y0 (kQ λ st=>kD P L W N lv y1 (kQ K) st) st
    |false=>kD P L W N lv z Q st)
  |_=>False) st) st
inductive W9(P:Program)(L:Lay)(W:Walk)(N lv:Nat)(t:Operand)(x0 x1 y0 y1 z:Code)(Q:jK->AS->Prop)(st:AS):Prop where
 |mk (X:Type) (S:X->AS) (m:X->Nat) (i0:X) (σ:List (Nat×Nat)) (h0:iw σ st (S i0))
  (hb:∀i,kD P L W N lv x0 (kQ λ st=>kD P L W N lv x1 (kQ λ st=>match st.ev t with
  | .v (.bool b)=>(match b with
    |true=>kD P L W N lv y0 (kQ λ st=>kD P L W N lv y1 (kQ λ st=> ∃j σ,iw σ st (S j)/\m j<m i) st) st
    |false=>kD P L W N lv z Q st)
  |_=>False) st) (S i)):W9 P L W N lv t x0 x1 y0 y1 z Q st
section
variable{P:Program}{L:Lay}{g:Base}{N:Nat}{bs:List (Array Value)}{ρ:Nat->Value}{a:Act}{w:World}{st:AS}
theorem Xa(hL:bQ P L){f:FuncId}{fn:Func}{c:Code}{bD:List AV}{r:AV}{hh:List (Nat×AO)}(hf:P.funcs[f]? =some fn)(hn:(fn.name== "runtime.NumGoroutine")=false)(hb:fn.body=some c)(hsz:Nat.ble bD.length fn.ntmps=true)
  (h:∀(g:Base)(E:Exit->Act->World->Prop){ρ:Nat->Value}{a:Act}{w:World},qOf g fn.ntmps [] (KO L fn r hh) E->Rel g fn.ntmps [] ρ a w (start bD)->c.wp P E a w):aC P f bD r hh:=by
 refine⟨⟨fn,c,hf,hn,hb⟩,λ w keep args hkeep hargs=>?_⟩;have hsz:=Nat.le_of_ble_eq_true hsz;have hlen:args.length=bD.length:=hargs.1.symm;refine calls_of_wp hf hb ?_;let g:Base:=base0 w keep;have EK:aN (C2 (aB g w (λ _=>undef) [])) bD args:=hargs.imp λ _ _ h=>C2.kF (C1.same (X:=⟨w,keep,λ _=>undef⟩) (Y:=aB g w (λ _=>undef) []) (λ b hb=>⟨hkeep b hb,λ _=> .inl hb,by simp[ah]⟩) (λ _ _=>rfl) rfl h);have R0:Rel g fn.ntmps [] (λ _=>undef) {tmps:=args.toArray++Array.replicate (fn.ntmps-args.toArray.size) undef,defers:=[]} w (start bD):=
  ⟨by simp;omega,rfl,gy.refl _ _ _,qX EK hsz,(λ p hp=>by cases hp),by simp[start,ah],(λ b hb=>by simp[start,ah]at hb),trivial⟩
 have fin:∀(e:Exit),(e= .normal\/e= .ret)-> ∀ρ a w' st,Rel g fn.ntmps [] ρ a w' st->qO L st fn.results.toList (λ x=>aO st x r hh)->
   bodyPost P fn (λ e w'=> ∃u ρ,e= .returned u/\Below w.heap.size w w'/\C2 (aB (base0 w keep) w' ρ hh) r u/\(∀p∈hh,bn (aB (base0 w keep) w' ρ hh) p.1 p.2)/\(ah ρ hh).Nodup/\ ∀b∈ah ρ hh,w.heap.size<=b) e a w':=by
  intro e he ρ a w' st R hq;obtain⟨x,u,hret,hc,hrun⟩:=DJ hL R hq;have post:a.defers=[]/\ ∃v,(results fn a.tmps).run P w'= .ok v w'/\ ∃u ρ,Ending.returned v= .returned u/\Below w.heap.size w w'/\C2 (aB (base0 w keep) w' ρ hh) r u/\(∀p∈hh,bn (aB (base0 w keep) w' ρ hh) p.1 p.2)/\(ah ρ hh).Nodup/\ ∀b∈ah ρ hh,w.heap.size<=b:=by
   have hbel:Below w.heap.size w w':=R.below.less λ _ h=>h;have hlt':∀{b:Nat},b∈ah ρ st.heap->g.w.heap.size<=b:=λ{b} h=>(R.own b h).elim id False.elim;refine⟨R.defers,u,hrun, ?_⟩;cases hret with
   |plain _ hr=>
    let k:Nat->Prop:=aI g w' (λ _=>undef) [];have hk:∀b,aI g w' ρ st.heap b->k b:=λ b h=>⟨h.1,h.2.1,by simp[ah]⟩;have rd:∀y,Reads st ρ w' k y:=λ y id e s n sc f _ hf=>nR R hf hk λ b hb=>by
     have hin:=aU.2 ⟨_,aA hf,hb⟩;have:=R.iq hin;exact⟨this.1,λ hlt=>absurd hlt (by have:=hlt' hin;omega),by simp[ah]⟩
    refine⟨u,λ _=>undef,rfl,hbel,hr _ _ ?_,(λ p hp=>by cases hp),by simp[ah],(λ b hb=>by simp[ah]at hb)⟩;cases x with
    |bJ vs=>
     obtain⟨us,rfl,ha⟩:=C2.zN hc;exact⟨us,rfl,ha.mD λ y v hy=>DL hk rd (C2.kF hy)⟩
    |_=>exact C2.kF (DL hk rd hc)
   |nil d e s f hx hs=>
    subst hx;obtain rfl:=C2.dN hc;have hb:ah (λ _:Nat=>Value.slice none 0 0) [(d,AO.row e s 0 true f)]=[]:=rfl;refine⟨.slice none 0 0,λ _=> .slice none 0 0,rfl,hbel,rfl,λ p hp=>?_,by rw[hb];exact List.nodup_nil,λ b hb'=>by rw[hb]at hb';cases hb'⟩;obtain rfl:=List.mem_singleton.1 hp;exact⟨[],World.ownsRow_nil w' _ e s,hs,λ i hi=>absurd hi (by omega),(λ _ x hx=>by cases hx),aN.nil⟩
   |own id d _ e s n sc f o' hfo ho hr=>
    have hin:=aA hfo;let ρ':Nat->Value:=λ i=>if i=d then ρ id else undef
    have EL:ρ' d=ρ id:=by simp[ρ']
    have hbl:∀o'':AO,ah ρ' [(d,o'')]=blks (ρ id):=by intro o'';rw[aT];simp[ρ',ah]
    let k:Nat->Prop:=aI g w' ρ' [(d,o')];have hk:∀b,aI g w' ρ st.heap b->k b:=λ b h=>⟨h.1,h.2.1,λ hb=>h.2.2 (by
     rw[hbl]at hb;exact aU.2 ⟨_,hin,hb⟩)⟩
    have rd:∀i,i≠id->Reads st ρ w' k (.own i):=λ i hi j e s n sc f hij hf=>nR R hf hk λ b hb=>by
     cases hij;have hin0:=aU.2 ⟨_,aA hf,hb⟩;have:=R.iq hin0;refine⟨this.1,λ hlt=>absurd hlt (by have:=hlt' hin0;omega),λ hin'=>?_⟩;rw[hbl]at hin';exact hi (gJ R.apart _ (aA hf) _ hin hb hin')
    refine⟨u,ρ',rfl,hbel,hr _ _ ?_, ?_, ?_, ?_⟩
    ·cases x with
     |bJ vs=>
      obtain⟨us,rfl,ha⟩:=C2.zN hc;exact⟨us,rfl,ha.mD λ y v hy=>qY hk EL rd (C2.kF hy)⟩
     |agg cs=>exact C2.kF (qY hk EL rd hc)
     |v y=>exact hc
     |own i=>exact C2.kF (qY hk EL rd (x:= .own i) hc)
     |sl s n sc f=>exact C2.kF (qY hk EL rd (x:= .sl s n sc f) hc)
     |_=>trivial
    ·intro p hp;simp only[List.mem_singleton]at hp;subst hp;refine ho _ _ ?_;obtain⟨us,hown,hs,hfl,hsc,ha⟩:=R.objs _ hin;exact⟨us,by simpa[aB,EL]using hown,hs,hfl,hsc,ha.imp λ _ _=>PC.mono hk (λ _ _=>rfl)⟩
    ·rw[hbl];exact kV R.apart hin
    ·intro b hb;rw[hbl]at hb;exact hlt' (aU.2 ⟨_,hin,hb⟩)
  rcases he with rfl|rfl
  ·exact post
  ·exact post
 exact h g _ ⟨λ ρ a w' st R h=>fin _ (.inl rfl) ρ a w' st R h,λ i ρ a w' st R h=>h.elim,λ ρ a w' st R h=>fin _ (.inr rfl) ρ a w' st R h⟩ R0
theorem yY(hL:bQ P L){W:Walk}(hW:KD P W){lv:Nat}{p next:Code}{K:AS->Prop}{E:Exit->Act->World->Prop}(R:Rel g N bs ρ a w st)(h:kD P L W N lv p (kQ K) st)
  (hk:∀ρ a w st,Rel g N bs ρ a w st->K st->next.wp P E a w):(Code.seq p next).wp P E a w:=
 wp_seq (mW hL hW lv p (Q:=kQ K) (E:=Exit.then (next.wp P E) E) ⟨λ ρ a w st R h=>hk ρ a w st R h,λ _ _ _ _ _ _ h=>h.elim,λ _ _ _ _ _ h=>h.elim⟩ R h)
def JN(P:Program)(L:Lay)(W:Walk)(g:Base)(N lv:Nat)(bs:List (Array Value))(t:Operand)(x0 x1 y0 y1 z:Code)(Q:jK->AS->Prop)(a:Act)(w:World)(n:Nat):Prop:=
 ∃(X:Type) (S:X->AS) (m:X->Nat) (i:X) (ρ:Nat->Value),(∀i,kD P L W N lv x0 (kQ λ st=>kD P L W N lv x1 (kQ λ st=>match st.ev t with
  | .v (.bool b)=>(match b with
    |true=>kD P L W N lv y0 (kQ λ st=>kD P L W N lv y1 (kQ λ st=> ∃j σ,iw σ st (S j)/\m j<m i) st) st
    |false=>kD P L W N lv z Q st)
  |_=>False) st) (S i))/\Rel g N bs ρ a w (S i)/\m i=n
theorem Pq(hL:bQ P L)(lv:Nat){f:FuncId}{fn:Func}{p0 p1 p2 x0 x1 y0 y1 z:Code}{t:Operand}{l:Nat}{bD:List AV}{r:AV}{hh:List (Nat×AO)}(hf:P.funcs[f]? =some fn)(hn:(fn.name== "runtime.NumGoroutine")=false)
  (hb:fn.body=some (.seq p0 (.scope (.seq p1 (.seq p2 (.seq (.label l) (.seq (.seq x0 (.seq x1 (.cond t (.seq y0 (.seq y1 (.goto l))) .skip))) z)))))))(hsz:Nat.ble bD.length fn.ntmps=true)
  (hl:findLabel (.seq p1 (.seq p2 (.seq (.label l) (.seq (.seq x0 (.seq x1 (.cond t (.seq y0 (.seq y1 (.goto l))) .skip))) z)))) l=some (.seq .skip (.seq (.seq x0 (.seq x1 (.cond t (.seq y0 (.seq y1 (.goto l))) .skip))) z)))
  (h:kD P L (Cm P L 8) fn.ntmps lv p0 (kQ λ st=>kD P L (Cm P L 8) fn.ntmps lv p1 (kQ λ st=>kD P L (Cm P L 8) fn.ntmps lv p2 (kQ λ st=>W9 P L (Cm P L 8) fn.ntmps lv t x0 x1 y0 y1 z (KO L fn r hh) st) st) st) (start bD)):aC P f bD r hh:=by
 refine Xa hL hf hn hb hsz λ g E ρ a w hq R=>?_;have hW:=fF hL 8;let J:Act->World->Nat->Prop:=JN P L (Cm P L 8) g fn.ntmps lv [] t x0 x1 y0 y1 z (KO L fn r hh);refine yY hL hW R h λ ρ a w st R h=>?_;refine wp_scope_jumps l (λ a w=> ∃n,J a w n) (λ a w=>least (J a w)) hl ?_ ?_;all_goals
  have body:∀(J':Act->World->Prop)(X:Type)(S:X->AS)(m:X->Nat)(i:X)(ρ:Nat->Value)(a:Act)(w:World),(∀a w n,n<m i->J a w n->J' a w)->(∀i,kD P L (Cm P L 8) fn.ntmps lv x0 (kQ λ st=>kD P L (Cm P L 8) fn.ntmps lv x1 (kQ λ st=>match st.ev t with
    | .v (.bool b)=>(match b with
      |true=>kD P L (Cm P L 8) fn.ntmps lv y0 (kQ λ st=>kD P L (Cm P L 8) fn.ntmps lv y1 (kQ λ st=> ∃j σ,iw σ st (S j)/\m j<m i) st) st
      |false=>kD P L (Cm P L 8) fn.ntmps lv z (KO L fn r hh) st)
    |_=>False) st) (S i))->Rel g fn.ntmps [] ρ a w (S i)->(Code.seq (.seq x0 (.seq x1 (.cond t (.seq y0 (.seq y1 (.goto l))) .skip))) z).wp P (Exit.jump l J' E) a w:=by
   intro J' X S m i ρ a w hJ hb R;refine wp_seq ?_;refine yY hL hW R (hb i) λ ρ a w st R h=>?_;refine yY hL hW R h λ ρ a w st R h=>?_;split at h
   ·rename_i b et;have hc:=R.ev t;rw[et]at hc;have hc:=C2.dN hc;cases b with
    |true=>
     refine wp_cond_true hc ?_;refine yY hL hW R h λ ρ a w st R h=>?_;refine yY hL hW R h λ ρ a w st R h=>?_;obtain⟨j,σ,hle,hlt⟩:=h;obtain⟨ρ',R'⟩:=R.Ls hle;exact wp_goto ⟨rfl,hJ a w (m j) hlt ⟨X,S,m,j,ρ',hb,R',rfl⟩⟩
    |false=>
     refine wp_cond_false hc (wp_skip ?_);exact mW hL hW lv z (Q:=KO L fn r hh) (E:=Exit.jump l J' E) ⟨λ ρ a w st R h=>hq.1 ρ a w st R h,λ i ρ a w st R h=>hq.2.1 i ρ a w st R h,λ ρ a w st R h=>hq.2.2 ρ a w st R h⟩ R h
   ·exact h.elim
 ·refine yY hL hW R h λ ρ a w st R h=>?_;refine yY hL hW R h λ ρ a w st R h=>?_;refine wp_seq (wp_label ?_);cases h with
  |mk X S m i0 σ h0 hb=>
   obtain⟨ρ',R'⟩:=R.Ls h0;exact body _ X S m i0 ρ' a w (λ a w n _ hj=>⟨n,hj⟩) hb R'
 ·intro a w hJ;obtain⟨X,S,m,i,ρ,hb,R,hm⟩:=EJ hJ;refine wp_seq (wp_skip ?_);refine body _ X S m i ρ a w (λ a' w' n hlt hj=>⟨⟨n,hj⟩, ?_⟩) hb R;have:=least_le hj;show least (J a' w')<least (J a w);omega
end
theorem TD(b:List UInt8):(jG b).1.ev.length<=4096:=by
 have hl (t:List UInt8) (l:List Ev) (h:ni t=some l):l.length<=4096:=by
  unfold ni at h;split at h
  ·cases h
  ·split at h
   ·cases h
   ·rename_i m k _ hm;cases h0:je (t.drop k) m with
    |none=>rw[h0]at h;cases h
    |some p=>
     obtain⟨l0,r0⟩:=p;rw[h0]at h;simp only[Option.map_some,Option.some.injEq]at h;subst h;have:=(nZ h0).1;omega
 have hr (k r u:Int) (t:List UInt8):(ML k r u t).1.ev.length<=4096:=by
  unfold ML;split
  ·simp
  ·rename_i l h;exact hl t l h
 unfold jG;split
 ·simp[Gs]
 ·unfold Ze;split
  ·exact hr ..
  ·split
   ·unfold Zd;split<;>simp
   ·split
    ·split
     ·simp
     ·exact hr ..
    ·split<;>simp
def wJ:Option (Rc×Nat)->AV
 |none=> .bJ [Gs.av,.v (.int .i64 0),.v (.bool false)]
 |some (x,n)=> .bJ [x.av,.v (.int .i64 (n:Int)),.v (.bool true)]
theorem MP(b c:AV)(f:Nat->List AV){a1 a2 a3 a4 a5 a6 a7 a8:AV}:bI (.bJ [.agg [a1,a2,a3,a4,a5,a6,a7,a8,.v (.slice none 0 0)],b,c]) (.bJ [.agg [a1,a2,a3,a4,a5,a6,a7,a8,.sl 12 0 true f],b,c]):=
 bI.bJ (.of (λ _ _ h=>C1.pF h) (.same (.same .nil)))
theorem Zj(b:List UInt8)(hl:b.length<=1000000000):aC Tryz.prog 109 [.sl 1 b.length true (aG b)] (wJ (og b)) []:=by
 have hs:=iW b (aS.bytes b) rfl;have hle:=wB b;unfold og;obtain⟨⟨v,u,e⟩,hv⟩:∃p,dH b=p:=⟨_,rfl⟩;rw[hv]at hs hle⊢;dsimp only at hs hle⊢;by_cases h0:e≠0\/b.length-u<v
 ·rw[if_pos h0];dsimp only[wJ];refine K1.E 0x100040400040003ffd Tryz.func109 ?_;repeat' ((conv=>whnf);first|refine K1.u ?_|refine K1.P1 hs ?_|refine aO.dW ?_|refine K1.z ?_|refine K1.y (λ _=>?_) (λ _=>?_)|fail)
  all_goals(conv=>whnf)
  all_goals first
   |exact aW.mk (MP _ _ _)
   |(exfalso;omega)
 ·rw[if_neg h0];obtain rfl:e=0:=by omega
  have hvl:u+v<=b.length:=by omega
  obtain⟨W,hW⟩:∃W,W=(b.drop u).take v:=⟨_,rfl⟩;have hWl:W.length=v:=by rw[hW,List.length_take,List.length_drop];omega
  have hWF:aS (λ i=>aG b (u+i)) W:=by rw[hW];exact(aS.drop (aS.bytes b) u).take v
  rw[<-hW];by_cases ho:nV W
  ·rw[if_pos ho];have hil:(inner W).length<=W.length:=by unfold inner;rw[List.length_take];omega
   have hop:∀{n:Nat}{F:Nat->List AV}(_:aS F W)(_:n=W.length),_:=λ{n} {F} hF hn=>(Ic 0 (n:=n) (F:=F) (inner W) (by rw[<-qE ho];exact hF) (by rw[<-qE ho];exact hn) (by omega)).thaw;have hrd:=Po (inner W) (aS.bytes _) rfl (by omega);have hrl:=TD (inner W);generalize inner W=m at hop hrd hrl hil;obtain⟨⟨z,ok⟩,hz⟩:∃p,jG m=p:=⟨_,rfl⟩;rw[hz]at hrd hrl⊢;dsimp only at hrd hrl⊢;cases ok with
   |false=>
    rw[if_neg (by simp)];dsimp only[wJ];refine K1.E 0x100040400040003ffd Tryz.func109 ?_;repeat' ((conv=>whnf);first|refine K1.u ?_|refine K1.P1 hs ?_|refine K1.P1 (hop hWF (by omega)) ?_ rfl rfl|refine K1.P1 hrd ?_|refine aO.dW ?_|refine K1.z ?_|refine K1.y (λ _=>?_) (λ _=>?_)|fail)
    all_goals(conv=>whnf)
    all_goals exact aW.mk (MP _ _ _)
   |true=>
    cases hm:jR z with
    |false=>
     rw[if_neg (by simp)];have hp:=WH z (by omega) hm;dsimp only[wJ];refine K1.E 0x100040400040003ffd Tryz.func109 ?_;repeat' ((conv=>whnf);first|refine K1.u ?_|refine K1.P1 hs ?_|refine K1.P1 (hop hWF (by omega)) ?_ rfl rfl|refine K1.P1 hrd ?_|refine K1.P1 hp ?_|refine aO.dW ?_|refine K1.z ?_|refine K1.y (λ _=>?_) (λ _=>?_)|fail)
     all_goals(conv=>whnf)
     all_goals exact aW.mk (MP _ _ _)
    |true=>
     have hp:=(Ig 0 z hm).thaw;have he:∀{n:Nat}(_:n=u+v),_:=λ{n} hn=>Fz (m:=n) (aH z) (b.take (u+v)) (aS.bytes _) rfl ((aS.bytes b).take (u+v)) (by rw[List.length_take];omega);by_cases hb:aH z=b.take (u+v)
     ·rw[if_pos ⟨rfl,rfl,hb⟩];dsimp only[wJ];rw[decide_eq_true hb]at he;generalize aH z=w at hp he;refine K1.E 0x100040400040003ffd Tryz.func109 ?_;repeat' ((conv=>whnf);first|refine K1.u ?_|refine K1.P1 hs ?_|refine K1.P1 (hop hWF (by omega)) ?_ rfl rfl|refine K1.P1 hrd ?_|refine K1.P1 hp ?_|refine K1.P1 (he (by omega)) ?_ rfl rfl|refine aO.dW ?_|refine K1.z ?_|refine K1.y (λ _=>?_) (λ _=>?_)|fail)
      all_goals(conv=>whnf)
      all_goals exact aW.mk (bI.bJ (.same (.of (λ X u h=>bI.int (by omega) X u h) (.same .nil))))
     ·rw[if_neg (λ h=>hb h.2.2)];dsimp only[wJ];rw[decide_eq_false hb]at he;generalize aH z=w at hp he;refine K1.E 0x100040400040003ffd Tryz.func109 ?_;repeat' ((conv=>whnf);first|refine K1.u ?_|refine K1.P1 hs ?_|refine K1.P1 (hop hWF (by omega)) ?_ rfl rfl|refine K1.P1 hrd ?_|refine K1.P1 hp ?_|refine K1.P1 (he (by omega)) ?_ rfl rfl|refine aO.dW ?_|refine K1.z ?_|refine K1.y (λ _=>?_) (λ _=>?_)|fail)
      all_goals(conv=>whnf)
      all_goals exact aW.mk (MP _ _ _)
  ·rw[if_neg ho];dsimp only[wJ];have hop:∀{n:Nat}{F:Nat->List AV}(_:aS F W)(_:n=W.length),_:=λ{n} {F} hF hn=>QT (n:=n) (F:=F) W ho hF hn (by omega);refine K1.E 0x100040400040003ffd Tryz.func109 ?_;repeat' ((conv=>whnf);first|refine K1.u ?_|refine K1.P1 hs ?_|refine K1.P1 (hop hWF (by omega)) ?_ rfl rfl|refine aO.dW ?_|refine K1.z ?_|refine K1.y (λ _=>?_) (λ _=>?_)|fail)
   all_goals(conv=>whnf)
   all_goals exact aW.mk (MP _ _ _)
theorem uP(b:List UInt8){p:Option (Rc×Nat)}(hp:og b=p)(hF:aS F b)(hn:n=b.length)(hl:b.length<=1000000000):aC Tryz.prog 109 [.sl 1 n true F] (wJ p) []:=by
 have:=(Zj b hl).args (Ch.lH hF hn .nil);rwa [hp]at this
abbrev rcF(l:List Rc):Nat->List AV:=qP Rc.cs l
theorem FD:∀l:List Rc,l.length<=(kE l).length
 |[]=>Nat.le_refl _
 |x::l=>by
  have:=FD l;have:=CY x;show l.length+1<=(aH x++kE l).length;rw[List.length_append];omega
theorem ab9(b:List UInt8)(hl:b.length<=1000000000)(l:List Rc)(t:List UInt8)(hr:yX b l t):
  aC Tryz.prog 79 [.sl 1 b.length true (aG b)] (.bJ [.sl 9 l.length false (rcF l),.v (.int .i64 ((kE l).length:Int))]) []:=by
 have hbl:(kE l).length<=b.length:=by rw[hr.eq,List.length_append];omega
 have hat:∀j,j<=l.length->(kE (l.take j)).length<=b.length:=by
  intro j _;have e:kE l=kE (l.take j)++kE (l.drop j):=by
   show _=List.flatMap aH (l.take j)++List.flatMap aH (l.drop j);rw[<-List.flatMap_append,List.take_append_drop];rfl
  have:=congrArg List.length e;rw[List.length_append]at this;omega
 have hnx:∀j,j<l.length->(kE (l.take (j+1))).length=(kE (l.take j)).length+(aH (l.getD j default)).length:=λ j hj=>by rw[TB hj,List.length_append]
 have hll:=FD l;have hstep:=TA hr;have hend:=WX hr;refine Pq cZ 0x201fd (l:=0) Tryz.func79 rfl rfl rfl (by rfl) ?_;conv=>whnf
 refine W9.mk {j:Nat//j<=l.length} (λ j=>match j with
  |⟨0,_⟩=>⟨[(0,.sl 1 b.length true (aG b)),(4,.v (.slice none 0 0)),(5,.v (.int .i64 0))],[],[],0⟩
  |⟨i+1,_⟩=>⟨[(0,.sl 1 b.length true (aG b)),(4,.own 90),(5,.v (.int .i64 ((kE (l.take (i+1))).length:Int)))],[(90,.row 95 9 (i+1) false (rcF (l.take (i+1))))],[],91⟩)
  (λ j=>l.length-j.1) ⟨0,Nat.zero_le _⟩ _
  (iw.mk' [] _ _ _ rfl ⟨aP,aP,bI.int rfl,trivial⟩ trivial rfl) ?_
 rintro⟨_|i,hj⟩
 ·dsimp only;by_cases h0:0<l.length
  ·have hs:=hstep 0 h0;have hn:=hnx 0 h0;have ha:=hat (0+1) (by omega);rw[show kE (l.take 0)=[]from rfl,List.length_nil]at hs hn;have htk:(l.take (0+1)).length=1:=by rw[List.length_take];omega
   have hg:l.take (0+1)=[l.getD 0 default]:=by cases l with|nil=>cases h0|cons a l=>rfl
   repeat' ((conv=>whnf);first|refine K1.u ?_|refine K1.P1 (uP (b.drop 0) hs (aS.drop (aS.bytes b) 0) (by simp) (by simp;omega)) ?_ rfl rfl|refine aO.dW ?_|refine K1.z ?_|refine K1.y (λ _=>?_) (λ _=>?_)|fail)
   conv=>whnf
   refine⟨⟨0+1,by omega⟩,_,iw.mk' [(2,90)] _ _ _ rfl ⟨aP,aP,bI.int (by omega),trivial⟩ ⟨⟨_,rfl,fP.row rfl (λ m hm=>?_)⟩,trivial⟩ rfl,by show l.length-(0+1)<l.length-0;omega⟩;have hm:m<1:=hm;obtain rfl:m=0:=by omega
   show _=rcF (l.take (0+1)) 0;rw[hg];rfl
  ·have hl0:l=[]:=List.eq_nil_of_length_eq_zero (by omega);subst hl0;rw[show kE []=[]from rfl,List.length_nil]at hend;repeat' ((conv=>whnf);first|refine K1.u ?_|refine K1.P1 (uP (b.drop 0) hend (aS.drop (aS.bytes b) 0) (by simp) (by simp;omega)) ?_ rfl rfl|refine aO.dW ?_|refine K1.z ?_|refine K1.y (λ _=>?_) (λ _=>?_)|fail)
   conv=>whnf
   exact aW.mk (bI.bJ (.of (λ X u h=>C1.acP (by decide) h) (.same .nil)))
 ·dsimp only;have hai:=hat (i+1) hj;have hlt:(l.take (i+1)).length=i+1:=by rw[List.length_take];omega
  by_cases h0:i+1<l.length
  ·have hs:=hstep (i+1) h0;have hn:=hnx (i+1) h0;have ha:=hat (i+1+1) (by omega);have hg:l.take (i+1+1)=l.take (i+1)++[l.getD (i+1) default]:=by
    rw[List.getD,List.getElem?_eq_getElem h0];exact(List.take_append_getElem h0).symm
   repeat' ((conv=>whnf);first|refine K1.u ?_|refine K1.P1 (uP (b.drop (kE (l.take (i+1))).length) hs (aS.drop (aS.bytes b) _) (by simp) (by simp;omega)) ?_ rfl rfl|refine aO.dW ?_|refine K1.z ?_|refine K1.y (λ _=>?_) (λ _=>?_)|fail)
   conv=>whnf
   refine⟨⟨i+1+1,by omega⟩,_,iw.mk' [(93,90)] _ _ _ rfl ⟨aP,aP,bI.int (by omega),trivial⟩ ⟨⟨_,rfl,fP.row rfl (λ m hm=>?_)⟩,trivial⟩ rfl,by show l.length-(i+1+1)<l.length-(i+1);omega⟩;show _=rcF (l.take (i+1+1)) m;rw[hg];exact jX (c:=Rc.cs) hlt.symm rfl m hm
  ·have hli:l.take (i+1)=l:=List.take_of_length_le (by omega);have hle:i+1=l.length:=by omega
   rw[hli]at hai hlt⊢;rw[hle];repeat' ((conv=>whnf);first|refine K1.u ?_|refine K1.P1 (uP (b.drop (kE l).length) hend (aS.drop (aS.bytes b) _) (by simp) (by simp;omega)) ?_ rfl rfl|refine aO.dW ?_|refine K1.z ?_|refine K1.y (λ _=>?_) (λ _=>?_)|fail)
   conv=>whnf
   exact aW.mk (aP)
theorem MQ(b:List UInt8)(hF:aS F b)(hn:n=b.length)(hl:b.length<=1000000000){l:List Rc}{t:List UInt8}(hr:yX b l t):
  aC Tryz.prog 79 [.sl 1 n true F] (.bJ [.sl 9 l.length false (rcF l),.v (.int .i64 ((kE l).length:Int))]) []:=
 (ab9 b hl l t hr).args (Ch.lH hF hn .nil)
end Go.Proofs.YtopfgjgdadnjeaaGreat
