/-
  Contracts of the walk:RnP,WcP,WdB,WdJ,WdA,WdCh.
-/
import Derived.Test.YtkimgljckickcaaGreatRa41
import Derived.Test.YtkimgljckickcaaGreatRa37
import Derived.Test.YtkimgljckickcaaGreatRa16
import Derived.Test.YtkimgljckickcaaGreatRa12
set_option maxHeartbeats 16000000
set_option maxRecDepth 100000
set_option linter.unusedVariables false
set_option linter.unusedSimpArgs false
namespace Go.Proofs.YtkimgljckickcaaGreat
open Go.RowKit
open Go.Proofs.Tryz
variable{k:Nat}{w:Wy}
def wAt(w:Wy)(l:List Stp)(i:Nat):Wy:=(l.take i).foldl (λ w s=>(w.step s).1) w
def tdA(w:Wy)(l:List Stp)(i:Nat):Int:=((wAt w l i).step (l.getD i default)).2
section
variable{w:Wy}{l:List Stp}{i:Nat}
theorem VT(h:i<l.length):wAt w l (i+1)=((wAt w l i).step (l.getD i default)).1:=by
 unfold wAt;rw[aoa,amX h,aoj];simp[List.getD,h]
theorem aia(hw:GU 0 w)(hl:l.length<=480):∀i,i<=l.length->GU i (wAt w l i)
 |0,_=>hw
 |i+1,h=>by
  rw[VT o_];exact(aia hw hl i o_).step o_ _
theorem aib:∀i,i<=l.length->(wAt w l i).ns.length=w.ns.length
 |0,_=>rfl
 |i+1,h=>by
  rw[VT o_];exact(af4 _ _).1.trans (aib i o_)
theorem aic{n:Nat}{m:List Stp}(hn:n<=l.length)(hi:i<=n):wAt w (l.take n++m) i=wAt w l i:=by
 unfold wAt;rw[aoD (by rw[am5];omega),ape,aow hi]
theorem alx{n:Nat}{m:List Stp}(hn:n<=l.length)(hi:i<n):tdA w (l.take n++m) i=tdA w l i:=by
 unfold tdA;rw[aic hn o_];congr 2;simp only[ang];rw[anq (by rw[am5];omega),apl hi]
end
section
variable{k:Nat}{T:List Ev}{H:Nat->aS}{y:Ny}{w:Wy}
theorem agf(ho:sU k T H y)(hk:k<=480)(hu:y.up=true):aj prog 53 [(0,.obs (vW k y))] [.box 0 0] (.aZ [.own 3,.v (.int .i64 0)]) [(0,.obs (vW k y)),(3,.row 86 7 (qV y.log).length false (TQ (qV y.log)))]:=
 nC (ho:=[_]) ⟨_,_,func53,rfl,rfl⟩ (λ h hr=>⟨h,hr,by
  have e:=(hr.on hu).1;have:=ho.g.len ho.p ho.r ho.hc;rw[<-e];exact abn h (hr.up.trans hu) (by rw[e];exact ho.p.pst ho.g) (by rw[e];omega)⟩) rfl
theorem RF(k:Nat){y:Ny}(hu:y.up=false):aj prog 53 [(0,.obs (vW k y))] [.box 0 0] (.aZ [.v (.slice none 0 0),.v (.int .i64 18)]) [(0,.obs (vW k y))]:=
 nC (ho:=[]) ⟨_,_,func53,rfl,rfl⟩ (λ h hr=>⟨h,hr,XI h (hr.up.trans hu)⟩) rfl
theorem GU.five(h:GU k w):1<=w.ns.length/\w.ns.length<=5:=by
 obtain⟨⟨T,H,h1⟩,-⟩:=h;exact h1.five
theorem lU(h:GU k w):1<=(nJ k w.ns).length/\(nJ k w.ns).length<=5:=by rw[dL];exact h.five
theorem aly(h:GU k w)(hk:k<=480){r:Nat}(hr:r<w.ns.length):aj prog 16 [(0,.obs (CQ k w))] [.box 0 0,.v (.int .i64 (r:Int))] (Pj (w.nd r)) [(0,.obs (CQ k w))]:=by
 obtain⟨⟨T,H,h1⟩,g,h2⟩:=id h;exact afx _ _ _ r (lU h).2 (by rw[dL];exact hr) (by rw[l9 hr];exact af5 (h1.nd r hr).1 hk)
theorem aie(h:GU k w){r:Int}(hr:¬w.has r):aj prog 16 [(0,.obs (CQ k w))] [.box 0 0,.v (.int .i64 r)] (Aw false aV 0 [] []) [(0,.obs (CQ k w))]:=
 VI _ _ _ (lU h).1 (lU h).2 r (by rw[dL];unfold Wy.has at hr;omega)
theorem alz(h:GU k w)(hk:k<=480){r:Nat}(hr:r<w.ns.length)(hu:(w.nd r).up=true):aj prog 22 [(0,.obs (CQ k w))] [.box 0 0,.v (.int .i64 (r:Int))] (.aZ [.own 20,.v (.int .i64 0)]) [(0,.obs (CQ k w)),(20,.row 86 7 (qV (w.nd r).log).length false (TQ (qV (w.nd r).log)))]:=by
 obtain⟨⟨T,H,h1⟩,g,h2⟩:=id h;exact afR _ _ _ r (lU h).2 (by rw[dL];exact hr) (by rw[l9 hr];exact agf (h1.nd r hr).1 hk hu)
theorem aiI(h:GU k w){r:Nat}(hr:r<w.ns.length)(hu:(w.nd r).up=false):aj prog 22 [(0,.obs (CQ k w))] [.box 0 0,.v (.int .i64 (r:Int))] (.aZ [.v (.slice none 0 0),.v (.int .i64 18)]) [(0,.obs (CQ k w))]:=
 Ya _ _ _ r (lU h).2 (by rw[dL];exact hr) (by rw[l9 hr];exact RF k hu)
theorem aif(h:GU k w){r:Int}(hr:¬w.has r):aj prog 22 [(0,.obs (CQ k w))] [.box 0 0,.v (.int .i64 r)] (.aZ [.v (.slice none 0 0),.v (.int .i64 1)]) [(0,.obs (CQ k w))]:=
 VH _ _ _ (lU h).1 (lU h).2 r (by rw[dL];unfold Wy.has at hr;omega)
theorem amn(h:GU k w):aj prog 17 [(0,.obs (CQ k w))] [.box 0 0] (.agg ((ZF w.hb).vs.map .v)) [(0,.obs (CQ k w))]:=
 ahW _ _ _ (lU h).1 (lU h).2 _ (af9 k w.hb)
theorem akk(h:GU k w):aj prog 18 [(0,.obs (CQ k w))] [.box 0 0] (.v (.int .i64 (w.fl.length:Int))) [(0,.obs (CQ k w))]:=
 Yb _ _ _ (lU h).1 (lU h).2 (afv w.fl)
end
theorem ab8:aF prog 23 [.v (.slice none 0 0),.v (.slice none 0 0)] (.v (.bool true)) []:=by
 refine K1.E 0x2004433 func23 ?_;repeat' ((conv=>whnf);first|refine K1.u ?_|refine aT.fH ?_|refine aI.rounds 1 ?_|refine K1.z ?_|refine K1.y (λ _=>?_) (λ _=>?_)|fail)
 all_goals(conv=>whnf)
 all_goals exact bF.mk (bY)
theorem mark_eq(a0 a1 b0 b1:Int):EN prog 79 [.int .i64 a0,.int .i64 a1] [.int .i64 b0,.int .i64 b1] (a0=b0/\a1=b1):=by
 refine⟨by kernel_rfl,λ w=>⟨decide (a0=b0/\a1=b1),by rw[decide_eq_true_eq], ?_⟩⟩;show(Op.equalIn 10000 79 (.agg #[.int .i64 a0,.int .i64 a1]) (.agg #[.int .i64 b0,.int .i64 b1])).run prog w=_;rw[show(10000:Nat)=9999+1 from rfl,Op.equalIn];simp only[am',run_underlying Tryz.underlying79,am8];have u3:=Tryz.underlying3;have a3':=Tryz.isAgg3;have z3:=Tryz.sizeOf3;go_simp;repeat' split
 all_goals simp_all
theorem xK(h:List Ev)(hl:h.length<=1000000):aF prog 23 [.sl 2 h.length true (LV h),.sl 2 h.length true (LV h)] (.v (.bool true)) []:=by
 refine K1.E 0x2004433 func23 ?_;repeat' ((conv=>whnf);first|refine K1.u ?_|refine aT.fH ?_|refine K1.z ?_|refine K1.y (λ _=>?_) (λ _=>?_)|fail)
 all_goals(conv=>whnf)
 refine aI.mk {i:Nat//i<=h.length} (λ i=>⟨[(0,.sl 2 h.length true (LV h)),(1,.sl 2 h.length true (LV h)),(5,.v (.int .i64 (i.1:Int)))],[],[],0⟩) (λ i=>h.length-i.1) ⟨0,ane _⟩ _
  (dZ.mk' [] _ _ _ rfl gQ trivial rfl) ?_
 rintro⟨i,hi⟩;dsimp only;rcases anr i h.length with hlt|hge
 ·repeat' ((conv=>whnf);first|refine K1.u ?_|refine ZI.mk [.int .i64 _,.int .i64 _] [.int .i64 _,.int .i64 _] _ rfl rfl (mark_eq _ _ _ _) ?_|refine nR.yes ⟨rfl,rfl⟩ ?_|refine nR.no (λ h=>h ⟨rfl,rfl⟩) ?_|refine K1.z ?_|refine K1.y (λ _=>?_) (λ _=>?_)|fail)
  all_goals(conv=>whnf)
  all_goals first
   |exact⟨⟨i+1,hlt⟩,_,dZ.mk' [] _ _ _ rfl ⟨bY,bY,dJ.int (by show(i:Int)+1=((i+1:Nat):Int);omega),trivial⟩ trivial rfl,by show h.length-(i+1)<h.length-i;omega⟩
   |trace_state
 ·repeat' ((conv=>whnf);first|refine K1.u ?_|refine aT.fH ?_|refine K1.z ?_|refine K1.y (λ _=>?_) (λ _=>?_)|fail)
  all_goals(conv=>whnf)
  all_goals exact bF.mk (bY)
theorem aiJ(up:Bool)(c:aS)(s:Int)(h l:List Ev)(hh:h.length<=1000000)(hl:l.length<=1000000):aF prog 33 [Aw up c s h l,Aw up c s h l] (.v (.bool true)) []:=by
 have h1:=xK h hh;have h2:=xK l hl;have h3:=ab8;obtain⟨c0,c1,c2,c3,c4⟩:=c;unfold Aw;cases up;all_goals
  dsimp only[cond_true,cond_false];refine K1.E 0x7f func33 ?_;repeat' ((conv=>whnf);first|refine K1.u ?_|refine K1.P1 h1 ?_|refine K1.P1 h2 ?_|refine K1.P1 h3 ?_|refine ZI.mk [.int .i64 _,.int .i64 _,.int .i64 _,.int .i64 _,.int .i64 _] [.int .i64 _,.int .i64 _,.int .i64 _,.int .i64 _,.int .i64 _] _ rfl rfl (Fq ⟨_,_,_,_,_⟩ ⟨_,_,_,_,_⟩) ?_|refine nR.yes rfl ?_|refine nR.no (λ h=>h rfl) ?_|refine aT.fH ?_|refine K1.z ?_|refine K1.y (λ _=>?_) (λ _=>?_)|fail)
  all_goals(conv=>whnf)
  all_goals exact bF.mk (bY)
def Pm(up:Bool)(c:aS)(s:Int)(h l:List Ev):List AV:=[.v (.bool up),.v (.int .i64 c.c0),.v (.int .i64 c.c1),.v (.int .i64 c.c2),.v (.int .i64 c.c3),.v (.int .i64 c.c4),.v (.int .i64 s),.sl 2 h.length true (LV h),.sl 2 l.length true (LV l)]
def alo(y:Ny):List AV:=Pm y.up (bif y.up then y.clk else aV) (bif y.up then y.sent else 0) (bif y.up then y.held else []) (bif y.up then y.log else [])
theorem ab9(up:Bool)(c:aS)(s:Int)(h l:List Ev)(hh:h.length<=1000000)(hl:l.length<=1000000):aF prog 33 [.agg (Pm up c s h l),.agg (Pm up c s h l)] (.v (.bool true)) []:=by
 have h1:=xK h hh;have h2:=xK l hl;obtain⟨c0,c1,c2,c3,c4⟩:=c;unfold Pm;dsimp only;refine K1.E 0x7f func33 ?_;repeat' ((conv=>whnf);first|refine K1.u ?_|refine K1.P1 h1 ?_|refine K1.P1 h2 ?_|refine ZI.mk [.int .i64 _,.int .i64 _,.int .i64 _,.int .i64 _,.int .i64 _] [.int .i64 _,.int .i64 _,.int .i64 _,.int .i64 _,.int .i64 _] _ rfl rfl (Fq ⟨_,_,_,_,_⟩ ⟨_,_,_,_,_⟩) ?_|refine nR.yes rfl ?_|refine aT.fH ?_|refine K1.y (λ _=>?_) (λ _=>?_)|fail)
 all_goals(conv=>whnf)
 all_goals first
  |exact bF.mk (bY)
  |fail
theorem PC.agh{w:World}{keep:Nat->Prop}{u:Value}(h:PC w keep (.v (.slice none 0 0)) u):PC w keep (.sl 2 0 true (LV [])) u:=by
 cases h with
 |v _ _=>exact .sl 2 0 true _ none 0 [] o_ (ani _) (by simp[maxLen]) rfl (λ i hi=>absurd hi (anA i)) (λ _ x hx=>by simp[flat]at hx) (λ i x v hx hv=>by simp at hv) (.inl rfl)
def alp:List AV:=[.v (.bool false),.v (.int .i64 0),.v (.int .i64 0),.v (.int .i64 0),.v (.int .i64 0),.v (.int .i64 0),.v (.int .i64 0),.v (.slice none 0 0),.v (.slice none 0 0)]
theorem alq:mZ alp (Pm false aV 0 [] []):=
 mZ.cons (λ _ _ _ h=>h) (mZ.cons (λ _ _ _ h=>h) (mZ.cons (λ _ _ _ h=>h) (mZ.cons (λ _ _ _ h=>h) (mZ.cons (λ _ _ _ h=>h) (mZ.cons (λ _ _ _ h=>h) (mZ.cons (λ _ _ _ h=>h) (mZ.cons (λ _ _ _ h=>PC.agh h) (mZ.cons (λ _ _ _ h=>PC.agh h) mZ.nil))))))))
theorem acd(up:Bool)(c:aS)(s:Int)(h l:List Ev)(X:CX)(u:Value)(hu:C1 X (Aw up c s h l) u):C1 X (.agg (Pm up (bif up then c else aV) (bif up then s else 0) (bif up then h else []) (bif up then l else []))) u:=by
 cases up with
 |true=>exact hu
 |false=>
  obtain⟨us,rfl,ha⟩:=hu;refine⟨us,rfl,ha.1,λ k z v hz hv=>?_⟩;match k with
  |0=>cases hz;exact ha.2 0 _ v rfl hv
  |1=>cases hz;exact ha.2 1 _ v rfl hv
  |2=>cases hz;exact ha.2 2 _ v rfl hv
  |3=>cases hz;exact ha.2 3 _ v rfl hv
  |4=>cases hz;exact ha.2 4 _ v rfl hv
  |5=>cases hz;exact ha.2 5 _ v rfl hv
  |6=>cases hz;exact ha.2 6 _ v rfl hv
  |7=>cases hz;exact C1.iC (X:=X) (s:=2) (sc:=true) (f:=LV []) d_ (ha.2 7 _ v rfl hv)
  |8=>cases hz;exact C1.iC (X:=X) (s:=2) (sc:=true) (f:=LV []) d_ (ha.2 8 _ v rfl hv)
  |k+9=>cases hz
theorem akl(y:Ny)(hh:y.held.length<=1000000)(hl:y.log.length<=1000000):aF prog 33 [Pj y,.agg (alo y)] (.v (.bool true)) []:=
 (ab9 _ _ _ _ _ (by cases y.up<;>simp[hh]) (by cases y.up<;>simp[hl])).args (.of (acd _ _ _ _ _) (.same .nil))
theorem GU.mono{k m:Nat}{w:Wy}(h:GU k w)(hm:k<=m):GU m w:=by
 obtain⟨⟨T,H,h1⟩,g,h2⟩:=h;exact⟨⟨T,H,h1.mono hm⟩,g,h2.mono hm⟩
theorem alr{L:List Stp}(hl:∀s∈L,s.rng){j:Nat}(hj:j<L.length):(L.getD (j:Int).toNat default).rng:=hl _ (by rw[anP,ang,amX hj];exact anH _)
theorem amF(x:Int):0<=BH x 3/\BH x 3<=3:=DK x 3 o_
theorem amu(x:Int):0<=BH x 1023/\BH x 1023<=1023:=DK x 1023 o_
theorem GU.amo(h:GU k w):w.fl.length<=k:=by
 obtain⟨⟨T,H,h1⟩,-⟩:=h;exact h1.len
theorem GU.lens(h:GU k w)(hk:k<=480){r:Nat}(hr:r<w.ns.length):(w.nd r).held.length<=1000000/\(w.nd r).log.length<=1000000:=by
 obtain⟨⟨T,H,h1⟩,-⟩:=h;have ho:=(h1.nd r hr).1;have e:w.nd (r:Int)=w.ns.getD r default:=rfl;rw[e];have h2:=ho.bounds;have h3:=ho.g.len ho.p ho.r ho.hc;omega
theorem alA{m q:Nat}(h:GU k w)(hk:k<=m)(hm:m<=480)(hq:q=m+1)(s:Stp)(hb:s.bit=0)(hs:s.mask=0){x:Int}(hx:w.step s=(w,x)):aj prog 15 [(0,.obs (CQ m w))] [.box 0 0,s.av] (.v (.int .i64 x)) [(0,.obs (CQ q w))]:=by
 have:=ah' (h.mono hk) hm s (by rw[hb];decide) (by rw[hs];decide);rw[hx]at this;rw[hq];exact this
end Go.Proofs.YtkimgljckickcaaGreat
