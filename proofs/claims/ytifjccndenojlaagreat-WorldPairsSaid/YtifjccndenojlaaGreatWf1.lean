/-
  Contracts of the walk:Plain,EvM,BkPlain,BkU.
-/
import Derived.Lib.RowBridge
import Derived.Test.YtifjccndenojlaaGreatWf0
set_option maxHeartbeats 16000000
set_option maxRecDepth 100000
set_option linter.unusedVariables false
set_option linter.unusedSimpArgs false
namespace Go.Proofs.YtifjccndenojlaaGreat
variable{a b n:Int}{acc t:List UInt8}{f m:Nat}
structure aV where
 (c0 c1 c2 c3 c4:Int)
def aV.get(c:aV)(r:Int):Int:=if r=0 then c.c0 else if r=1 then c.c1 else if r=2 then c.c2 else if r=3 then c.c3 else c.c4
structure Ev where
 (r n:Int)(c:aV)(h k:Int)(key:ByteArray)(l:Int)(v:ByteArray)
structure Ed where
 (k:Int)(key:ByteArray)(l:Int)(v:ByteArray)
def Ev.ed(e:Ev):Ed:=⟨e.k,e.key,e.l,e.v⟩
def jf(n a b:Int):Bool:=decide (a<=n)&&decide (n<=b)
def jF(k:Int):Bool:=k !=1&&k !=2
def hasB(c:aV)(r n:Int):Bool:=decide (0<=r/\r<5/\1<=n/\n<=c.get r)
def aP(a b:Ev):Bool:=hasB b.c a.r a.n
def DJ(s:ByteArray):Bool:=s.data.toList.all λ b=>decide (97<=b.toNat/\b.toNat<=122)
def keyE(s:ByteArray):Int:=if 1<=s.size/\s.size<=8/\DJ s=true then 0 else 10
def sO(n:Int):Int:=if 0<=n/\n<2 then 0 else 11
def lQ(s:ByteArray):Int:=if 1<=s.size/\s.size<=12 then 0 else 12
def lS(e:Ed):Int:=
 if e.k<1\/5<e.k then 1
 else if keyE e.key≠0 then keyE e.key
 else if e.k=1\/e.k=2 then(if e.l≠0 then 11 else if e.v.size≠0 then 12 else 0)
 else if sO e.l≠0 then sO e.l
 else lQ e.v
def qE(n:Int):Bool:=jf n 0 1048576
def eH(e:Ev):Int:=
 if !(jf e.r 0 4&&jf e.n 1 1048576&&jf e.h 1 16777216)then 1
 else if !(qE e.c.c0&&qE e.c.c1&&qE e.c.c2&&qE e.c.c3&&qE e.c.c4)then 1
 else if e.c.get e.r !=e.n-1 then 1
 else lS e.ed
def fZ:Nat->Nat->List UInt8
 |0,n=>[UInt8.ofNat n]
 |f+1,n=>if n<128 then [UInt8.ofNat n]else UInt8.ofNat (n%128+128)::fZ f (n/128)
def aN(n:Nat):List UInt8:=fZ 9 n
def ig(n:Int):List UInt8:=aN n.toNat
def others(e:Ev):List Int:=
 (if e.r≠0 then [e.c.c0]else [])++(if e.r≠1 then [e.c.c1]else [])++(if e.r≠2 then [e.c.c2]else [])++(if e.r≠3 then [e.c.c3]else [])++(if e.r≠4 then [e.c.c4]else [])
def byteOf(n:Int):UInt8:=UInt8.ofNat n.toNat
def words(s:ByteArray):List UInt8:=UInt8.ofNat s.size::s.data.toList
def fC(e:Ev):List UInt8:=
 [byteOf e.k,byteOf e.r]++ig e.n++(others e).flatMap ig++ig e.h++words e.key++(if jF e.k then byteOf e.l::words e.v else [])
theorem vH(f n:Nat):1<=(fZ f n).length:=by
 cases f with
 |zero=>simp[fZ]
 |succ f=>unfold fZ;split<;>simp
theorem dF(f n:Nat):(fZ f n).length<=f+1:=by
 induction f generalizing n with
 |zero=>simp[fZ]
 |succ f ih=>unfold fZ;split<;>simp;exact ih _
theorem Jl(h:acc++fZ f m=t)(hm:m<128^(f+1))(h128:128<=m):
  ∃f',(acc++[UInt8.ofNat (m%128+128)])++fZ f' (m/128)=t/\m/128<128^(f'+1):=by
 cases f with
 |zero=>simp at hm;omega
 |succ f=>
  refine⟨f, ?_, ?_⟩
  ·rw[<-h];simp[fZ,Nat.not_lt.2 h128]
  ·rw[aqK]at hm;exact Nat.div_lt_of_lt_mul o_
theorem Og(h:acc++fZ f m=t)(hm:m<128):acc++[UInt8.ofNat m]=t:=by
 rw[<-h];cases f with
 |zero=>rfl
 |succ f=>simp[fZ,hm]
theorem Jm(n:Nat)(h:n<=4294967296):([]:List UInt8)++fZ 9 n=aN n/\n<128^(9+1):=⟨rfl,by
 have:128^(9+1)=1180591620717411303424:=d_
 omega⟩
theorem fP(h:jf n a b=true):a<=n/\n<=b:=by simpa[jf]using h
theorem kH(h:a<=n/\n<=b):jf n a b=true:=by simp[jf,h.1,h.2]
structure alX(e:Ev):Prop where
 r0:0<=e.r
 r4:e.r<=4
 n1:1<=e.n
 n2:e.n<=1048576
 h1:1<=e.h
 h2:e.h<=16777216
 a0:0<=e.c.c0/\e.c.c0<=1048576
 a1:0<=e.c.c1/\e.c.c1<=1048576
 a2:0<=e.c.c2/\e.c.c2<=1048576
 a3:0<=e.c.c3/\e.c.c3<=1048576
 a4:0<=e.c.c4/\e.c.c4<=1048576
 own:e.c.get e.r=e.n-1
 ed:lS e.ed=0
theorem pV{e:Ev}(h:eH e=0):alX e:=by
 unfold eH at h;split at h
 ·cases h
 ·rename_i g1;split at h
  ·cases h
  ·rename_i g2;split at h
   ·cases h
   ·rename_i g3;simp only[Bool.not_eq_true,Bool.not_eq_false',aon,qE]at g1 g2;simp only[bne_iff_ne,ne_eq,aqV]at g3;obtain⟨⟨hr,hn⟩,hh⟩:=g1;obtain⟨⟨⟨⟨h0,h1⟩,h2⟩,h3⟩,h4⟩:=g2;exact⟨(fP hr).1,(fP hr).2,(fP hn).1,(fP hn).2,(fP hh).1,(fP hh).2,fP h0,fP h1,fP h2,fP h3,fP h4,g3,h⟩
theorem wU{e:Ed}(h:lS e=0):1<=e.k/\e.k<=5/\1<=e.key.size/\e.key.size<=8/\DJ e.key=true/\(jF e.k=true->0<=e.l/\e.l<=1/\1<=e.v.size/\e.v.size<=12)/\(jF e.k=false->e.l=0/\e.v.size=0):=by
 unfold lS at h;by_cases h1:e.k<1\/5<e.k
 ·rw[if_pos h1]at h;cases h
 ·rw[if_neg h1]at h;by_cases h2:keyE e.key≠0
  ·rw[if_pos h2]at h;exact absurd h h2
  ·rw[if_neg h2]at h;have hk:keyE e.key=0:=by simpa using h2
   unfold keyE at hk;split at hk
   ·rename_i hk';refine⟨o_,o_,hk'.1,hk'.2.1,hk'.2.2, ?_, ?_⟩
    ·intro hl;simp only[jF,aon,bne_iff_ne,ne_eq]at hl;rw[if_neg o_]at h;by_cases h3:sO e.l≠0
     ·rw[if_pos h3]at h;exact absurd h h3
     ·rw[if_neg h3]at h;have h4:sO e.l=0:=by simpa using h3
      unfold sO at h4;unfold lQ at h;split at h4
      ·split at h
       ·rename_i a b;exact⟨o_,o_,b.1,b.2⟩
       ·cases h
      ·cases h4
    ·intro hl;simp only[jF,Bool.and_eq_false_iff,bne_eq_false_iff_eq]at hl;rw[if_pos hl]at h;by_cases h3:e.l≠0
     ·rw[if_pos h3]at h;cases h
     ·rw[if_neg h3]at h;by_cases h4:e.v.size≠0
      ·rw[if_pos h4]at h;cases h
      ·exact⟨by simpa using h3,by simpa using h4⟩
   ·cases hk
theorem ZE{e:Ev}(m:alX e):eH e=0:=by
 unfold eH qE;rw[kH ⟨m.r0,m.r4⟩,kH ⟨m.n1,m.n2⟩,kH ⟨m.h1,m.h2⟩,kH m.a0,kH m.a1,kH m.a2,kH m.a3,kH m.a4];have:=m.own;simp[this,m.ed]
def gu(a b:Ev):Bool:=decide (a.key=b.key)
def tY(a b:Ev):Bool:=gu a b&&decide (a.l=b.l)
def lJ(a b:Ev):Bool:=tY a b&&decide (a.v=b.v)
def fM(k:Int)(same:Ev->Ev->Bool)(l:List Ev)(e:Ev):Bool:=l.any λ a=>decide (a.k=k)&&(same a e&&aP e a)
def gU(k:Int)(same:Ev->Ev->Bool)(l:List Ev)(e:Ev):Bool:=l.any λ a=>decide (a.k=k)&&(same a e&&aP a e)
def bU(l:List Ev)(e:Ev):Bool:=decide (e.k=1)&& !fM 2 gu l e
def aF(l:List Ev):List Ev:=l.filter (bU l)
def countB(l cr:List Ev)(e:Ev):Bool:=(decide (e.k=3)||(decide (e.k=4)&& !fM 5 lJ l e))&&gU 1 gu cr e
def bg(l cr:List Ev):List Ev:=l.filter (countB l cr)
structure Ct where
 (key:ByteArray)(h0 h1:Bool)(f0 f1:ByteArray)(s0 s1:List ByteArray)
def eX(l:List Ev)(e:Ev):Bool:=fM e.k (if e.k=4 then lJ else tY) l e
def qF(l:List Ev):Nat:=(aF l).length+((bg l (aF l)).filter λ e=> !eX l e).length
section
open Go.Lib
abbrev Str:=List UInt8
theorem QH{a b:Str}(h:a<b):a<=b:=List.le_of_lt h
theorem uN(a:Str):¬a<a:=List.lt_irrefl a
theorem QI{a b:Str}(h:a<=b)(hn:a≠b):a<b:=by
 rcases List.le_iff_lt_or_eq.1 h with h|h
 ·exact h
 ·exact absurd h hn
theorem Il{a b c:Str}(h:a<=b)(k:b<c):a<c:=List.lt_of_le_of_lt h k
theorem QJ{a b c:Str}(h:a<b)(k:b<c):a<c:=List.lt_of_le_of_lt (QH h) k
def uniq(l:List Str):List Str:=Lib.compact (l.mergeSort λ x y=>decide (x<=y))
theorem tZ(d:Array Str)(hs:∀i j,i<=j->j<d.size->d[i]! <=d[j]!):∀m,m<=d.size->(compactUpTo d m).Pairwise (·< ·)/\(∀x∈compactUpTo d m,∃j,j<m/\x=d[j]!)/\ ∀j,j<m->d[j]! ∈compactUpTo d m
 |0,_=>by
  refine⟨?_,λ x hx=> ?_,λ j hj=>absurd hj (aoM j)⟩
  ·show(compactUpTo d 0).Pairwise _;exact List.Pairwise.nil
  ·exact absurd hx (by show x ∉ ([]:List Str);simp)
 |m+1,hm=>by
  obtain⟨h1,h2,h3⟩:=tZ d hs m o_;rw[compactUpTo_succ];by_cases hk:keeps d m=true
  ·rw[if_pos hk];refine⟨?_,λ x hx=> ?_,λ j hj=> ?_⟩
   ·refine apw.2 ⟨h1,apI _ _,λ x hx y hy=> ?_⟩;rw[aoo.1 hy];obtain⟨j,hj,rfl⟩:=h2 x hx;have hne:m=0\/d[m]! ≠d[m-1]! :=of_decide_eq_true hk;have hne:d[m]! ≠d[m-1]! :=by
     rcases hne with h|h
     ·omega
     ·exact h
    exact Il (hs j (m-1) o_ o_) (QI (hs (m-1) m o_ o_) λ e=>hne e.symm)
   ·rcases aov.1 hx with hx|hx
    ·obtain⟨j,hj,e⟩:=h2 x hx;exact⟨j,o_,e⟩
    ·exact⟨m,o_,aoo.1 hx⟩
   ·rcases aoP j m with h|h
    ·exact aov.2 (.inl (h3 j h))
    ·obtain rfl:j=m:=o_
     exact aov.2 (.inr (aoo.2 rfl))
  ·rw[if_neg hk,aor];refine⟨h1,λ x hx=> ?_,λ j hj=> ?_⟩
   ·obtain⟨j,hj,e⟩:=h2 x hx;exact⟨j,o_,e⟩
   ·rcases aoP j m with h|h
    ·exact h3 j h
    ·obtain rfl:j=m:=o_
     have hk:¬ (j=0\/d[j]! ≠d[j-1]!):=λ h=>hk (decide_eq_true h);have e:d[j]! =d[j-1]! :=Classical.byContradiction λ h=>hk (.inr h);rw[e];exact h3 (j-1) (by have:j≠0:=λ h=>hk (.inl h);omega)
theorem Nw(l:List Str):(l.mergeSort λ x y=>decide (x<=y)).Pairwise (·<= ·):=by
 have tr:∀a b c:Str,decide (a<=b)=true->decide (b<=c)=true->decide (a<=c)=true:=λ a b c h1 h2=>by simp only[decide_eq_true_eq]at*;exact List.le_trans h1 h2
 have to:∀a b:Str,(decide (a<=b)||decide (b<=a))=true:=λ a b=>by simp only[apf,decide_eq_true_eq];exact List.le_total a b
 exact(List.pairwise_mergeSort tr to l).imp λ h=>of_decide_eq_true h
theorem Ug(a:Str):a<=a:=List.le_refl a
theorem jG(l:List Str):(uniq l).Pairwise (·< ·)/\ ∀x,x∈uniq l↔x∈l:=by
 have hp:=Nw l;have hm:∀x,x∈(l.mergeSort λ x y=>decide (x<=y))↔x∈l:=λ x=>List.mem_mergeSort;unfold uniq;generalize(l.mergeSort λ x y=>decide (x<=y))=s at hp hm;have hg:∀i(h:i<s.length),s.toArray[i]! =s[i]:=λ i h=>by simp[h]
 obtain⟨h1,h2,h3⟩:=tZ s.toArray (λ i j hij hj=>by
  have hj:j<s.length:=hj;rw[hg j hj,hg i o_];rcases aoP i j with h|h
  ·exact aqj.1 hp i j o_ hj h
  ·obtain rfl:i=j:=o_
   exact Ug _) s.length (aoH _)
 refine⟨h1,λ x=> ?_⟩;rw[<-hm];constructor
 ·intro hx;obtain⟨j,hj,rfl⟩:=h2 x hx;rw[hg j hj];exact ao1 _
 ·intro hx;obtain⟨j,hj,rfl⟩:=ape hx;have:=h3 j hj;rw[hg j hj]at this;exact this
theorem Ai:∀{a b:List Str},a.Pairwise (·< ·)->b.Pairwise (·< ·)->(∀x,x∈a↔x∈b)->a=b
 |[],[],_,_,_=>rfl
 |[],y::_,_,_,h=>absurd ((h y).2 aol) s_
 |x::_,[],_,_,h=>absurd ((h x).1 aol) s_
 |x::a,y::b,ha,hb,h=>by
  obtain⟨ha1,ha2⟩:=List.pairwise_cons.1 ha;obtain⟨hb1,hb2⟩:=List.pairwise_cons.1 hb;have e:x=y:=by
   rcases aot.1 ((h x).1 aol)with e|hx
   ·exact e
   ·rcases aot.1 ((h y).2 aol)with e|hy
    ·exact e.symm
    ·exact absurd (QJ (hb1 x hx) (ha1 y hy)) (uN _)
  subst e;rw[Ai ha2 hb2 λ z=>⟨λ hz=> ?_,λ hz=> ?_⟩]
  ·rcases aot.1 ((h z).1 (aoq _ hz))with e|h'
   ·exact absurd (e▸ha1 z hz) (uN _)
   ·exact h'
  ·rcases aot.1 ((h z).2 (aoq _ hz))with e|h'
   ·exact absurd (e▸hb1 z hz) (uN _)
   ·exact h'
theorem yV{a b:List Str}(h:∀x,x∈a↔x∈b):uniq a=uniq b:=
 Ai (jG a).1 (jG b).1 λ x=>by rw[(jG a).2,(jG b).2,h]
theorem any_congr{α:Type}{p q:α->Bool}:∀{l:List α},(∀x∈l,p x=q x)->l.any p=l.any q
 |[],_=>rfl
 |x::l,h=>by rw[List.any_cons,List.any_cons,h x aol,any_congr λ y hy=>h y (aoq _ hy)]
end
end Go.Proofs.YtifjccndenojlaaGreat
