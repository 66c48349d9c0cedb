/-
  Contracts of the walk:Plain,EvM,BkPlain,BkU.
-/
import Derived.Lib.RowBridge
import Derived.Test.YtkimgljckickcaaGreatRa0
set_option maxHeartbeats 16000000
set_option maxRecDepth 100000
set_option linter.unusedVariables false
set_option linter.unusedSimpArgs false
namespace Go.Proofs.YtkimgljckickcaaGreat
variable{a b n:Int}{acc t:List UInt8}{f m:Nat}
structure aS where
 (c0 c1 c2 c3 c4:Int)
def aS.get(c:aS)(r:Int):Int:=if r=0 then c.c0 else if r=1 then c.c1 else if r=2 then c.c2 else if r=3 then c.c3 else c.c4
structure Ev where
 (r n:Int)(c:aS)(h k:Int)(key:ByteArray)(l:Int)(v:ByteArray)
structure Ed where
 (k:Int)(key:ByteArray)(l:Int)(v:ByteArray)
def Ev.ed(e:Ev):Ed:=⟨e.k,e.key,e.l,e.v⟩
def iY(n a b:Int):Bool:=decide (a<=n)&&decide (n<=b)
def jy(k:Int):Bool:=k !=1&&k !=2
def hasB(c:aS)(r n:Int):Bool:=decide (0<=r/\r<5/\1<=n/\n<=c.get r)
def aJ(a b:Ev):Bool:=hasB b.c a.r a.n
def CS(s:ByteArray):Bool:=s.data.toList.all λ b=>decide (97<=b.toNat/\b.toNat<=122)
def keyE(s:ByteArray):Int:=if 1<=s.size/\s.size<=8/\CS s=true then 0 else 10
def rQ(n:Int):Int:=if 0<=n/\n<2 then 0 else 11
def lD(s:ByteArray):Int:=if 1<=s.size/\s.size<=12 then 0 else 12
def lF(e:Ed):Int:=
 if e.k<1\/5<e.k then 1
 else if keyE e.key≠0 then keyE e.key
 else if e.k=1\/e.k=2 then(if e.l≠0 then 11 else if e.v.size≠0 then 12 else 0)
 else if rQ e.l≠0 then rQ e.l
 else lD e.v
def pR(n:Int):Bool:=iY n 0 1048576
def dU(e:Ev):Int:=
 if !(iY e.r 0 4&&iY e.n 1 1048576&&iY e.h 1 16777216)then 1
 else if !(pR e.c.c0&&pR e.c.c1&&pR e.c.c2&&pR e.c.c3&&pR e.c.c4)then 1
 else if e.c.get e.r !=e.n-1 then 1
 else lF e.ed
def fP:Nat->Nat->List UInt8
 |0,n=>[UInt8.ofNat n]
 |f+1,n=>if n<128 then [UInt8.ofNat n]else UInt8.ofNat (n%128+128)::fP f (n/128)
def aK(n:Nat):List UInt8:=fP 9 n
def gU(n:Int):List UInt8:=aK n.toNat
def others(e:Ev):List Int:=
 (if e.r≠0 then [e.c.c0]else [])++(if e.r≠1 then [e.c.c1]else [])++(if e.r≠2 then [e.c.c2]else [])++(if e.r≠3 then [e.c.c3]else [])++(if e.r≠4 then [e.c.c4]else [])
def byteOf(n:Int):UInt8:=UInt8.ofNat n.toNat
def words(s:ByteArray):List UInt8:=UInt8.ofNat s.size::s.data.toList
def eH(e:Ev):List UInt8:=
 [byteOf e.k,byteOf e.r]++gU e.n++(others e).flatMap gU++gU e.h++words e.key++(if jy e.k then byteOf e.l::words e.v else [])
theorem zy(f n:Nat):1<=(fP f n).length:=by
 cases f with
 |zero=>simp[fP]
 |succ f=>unfold fP;split<;>simp
theorem dF(f n:Nat):(fP f n).length<=f+1:=by
 induction f generalizing n with
 |zero=>simp[fP]
 |succ f ih=>unfold fP;split<;>simp;exact ih _
theorem VZ(h:acc++fP f m=t)(hm:m<128^(f+1))(h128:128<=m):
  ∃f',(acc++[UInt8.ofNat (m%128+128)])++fP f' (m/128)=t/\m/128<128^(f'+1):=by
 cases f with
 |zero=>simp at hm;omega
 |succ f=>
  refine⟨f, ?_, ?_⟩
  ·rw[<-h];simp[fP,Nat.not_lt.2 h128]
  ·rw[apf]at hm;exact Nat.div_lt_of_lt_mul o_
theorem ZG(h:acc++fP f m=t)(hm:m<128):acc++[UInt8.ofNat m]=t:=by
 rw[<-h];cases f with
 |zero=>rfl
 |succ f=>simp[fP,hm]
theorem V3(n:Nat)(h:n<=4294967296):([]:List UInt8)++fP 9 n=aK n/\n<128^(9+1):=⟨rfl,by
 have:128^(9+1)=1180591620717411303424:=d_
 omega⟩
theorem fD(h:iY n a b=true):a<=n/\n<=b:=by simpa[iY]using h
theorem kC(h:a<=n/\n<=b):iY n a b=true:=by simp[iY,h.1,h.2]
structure akm(e:Ev):Prop where
 r0:0<=e.r
 r4:e.r<=4
 n1:1<=e.n
 n2:e.n<=1048576
 h1:1<=e.h
 h2:e.h<=16777216
 a0:0<=e.c.c0/\e.c.c0<=1048576
 a1:0<=e.c.c1/\e.c.c1<=1048576
 a2:0<=e.c.c2/\e.c.c2<=1048576
 a3:0<=e.c.c3/\e.c.c3<=1048576
 a4:0<=e.c.c4/\e.c.c4<=1048576
 own:e.c.get e.r=e.n-1
 ed:lF e.ed=0
theorem oW{e:Ev}(h:dU e=0):akm e:=by
 unfold dU at h;split at h
 ·cases h
 ·rename_i g1;split at h
  ·cases h
  ·rename_i g2;split at h
   ·cases h
   ·rename_i g3;simp only[Bool.not_eq_true,Bool.not_eq_false',amY,pR]at g1 g2;simp only[bne_iff_ne,ne_eq,apu]at g3;obtain⟨⟨hr,hn⟩,hh⟩:=g1;obtain⟨⟨⟨⟨h0,h1⟩,h2⟩,h3⟩,h4⟩:=g2;exact⟨(fD hr).1,(fD hr).2,(fD hn).1,(fD hn).2,(fD hh).1,(fD hh).2,fD h0,fD h1,fD h2,fD h3,fD h4,g3,h⟩
theorem vY{e:Ed}(h:lF e=0):1<=e.k/\e.k<=5/\1<=e.key.size/\e.key.size<=8/\CS e.key=true/\(jy e.k=true->0<=e.l/\e.l<=1/\1<=e.v.size/\e.v.size<=12)/\(jy e.k=false->e.l=0/\e.v.size=0):=by
 unfold lF at h;by_cases h1:e.k<1\/5<e.k
 ·rw[if_pos h1]at h;cases h
 ·rw[if_neg h1]at h;by_cases h2:keyE e.key≠0
  ·rw[if_pos h2]at h;exact absurd h h2
  ·rw[if_neg h2]at h;have hk:keyE e.key=0:=by simpa using h2
   unfold keyE at hk;split at hk
   ·rename_i hk';refine⟨o_,o_,hk'.1,hk'.2.1,hk'.2.2, ?_, ?_⟩
    ·intro hl;simp only[jy,amY,bne_iff_ne,ne_eq]at hl;rw[if_neg o_]at h;by_cases h3:rQ e.l≠0
     ·rw[if_pos h3]at h;exact absurd h h3
     ·rw[if_neg h3]at h;have h4:rQ e.l=0:=by simpa using h3
      unfold rQ at h4;unfold lD at h;split at h4
      ·split at h
       ·rename_i a b;exact⟨o_,o_,b.1,b.2⟩
       ·cases h
      ·cases h4
    ·intro hl;simp only[jy,Bool.and_eq_false_iff,bne_eq_false_iff_eq]at hl;rw[if_pos hl]at h;by_cases h3:e.l≠0
     ·rw[if_pos h3]at h;cases h
     ·rw[if_neg h3]at h;by_cases h4:e.v.size≠0
      ·rw[if_pos h4]at h;cases h
      ·exact⟨by simpa using h3,by simpa using h4⟩
   ·cases hk
theorem Yi{e:Ev}(m:akm e):dU e=0:=by
 unfold dU pR;rw[kC ⟨m.r0,m.r4⟩,kC ⟨m.n1,m.n2⟩,kC ⟨m.h1,m.h2⟩,kC m.a0,kC m.a1,kC m.a2,kC m.a3,kC m.a4];have:=m.own;simp[this,m.ed]
def fM(a b:Ev):Bool:=decide (a.key=b.key)
def sV(a b:Ev):Bool:=fM a b&&decide (a.l=b.l)
def lq(a b:Ev):Bool:=sV a b&&decide (a.v=b.v)
def fK(k:Int)(same:Ev->Ev->Bool)(l:List Ev)(e:Ev):Bool:=l.any λ a=>decide (a.k=k)&&(same a e&&aJ e a)
def iq(k:Int)(same:Ev->Ev->Bool)(l:List Ev)(e:Ev):Bool:=l.any λ a=>decide (a.k=k)&&(same a e&&aJ a e)
def bP(l:List Ev)(e:Ev):Bool:=decide (e.k=1)&& !fK 2 fM l e
def aB(l:List Ev):List Ev:=l.filter (bP l)
def countB(l cr:List Ev)(e:Ev):Bool:=(decide (e.k=3)||(decide (e.k=4)&& !fK 5 lq l e))&&iq 1 fM cr e
def bI(l cr:List Ev):List Ev:=l.filter (countB l cr)
structure Ct where
 (key:ByteArray)(h0 h1:Bool)(f0 f1:ByteArray)(s0 s1:List ByteArray)
def dX(l:List Ev)(e:Ev):Bool:=fK e.k (if e.k=4 then lq else sV) l e
def pU(l:List Ev):Nat:=(aB l).length+((bI l (aB l)).filter λ e=> !dX l e).length
section
open Go.Lib
abbrev Str:=List UInt8
theorem Pn{a b:Str}(h:a<b):a<=b:=List.le_of_lt h
theorem uq(a:Str):¬a<a:=List.lt_irrefl a
theorem Po{a b:Str}(h:a<=b)(hn:a≠b):a<b:=by
 rcases List.le_iff_lt_or_eq.1 h with h|h
 ·exact h
 ·exact absurd h hn
theorem GV{a b c:Str}(h:a<=b)(k:b<c):a<c:=List.lt_of_le_of_lt h k
theorem Pq{a b c:Str}(h:a<b)(k:b<c):a<c:=List.lt_of_le_of_lt (Pn h) k
def uniq(l:List Str):List Str:=Lib.compact (l.mergeSort λ x y=>decide (x<=y))
theorem sW(d:Array Str)(hs:∀i j,i<=j->j<d.size->d[i]! <=d[j]!):∀m,m<=d.size->(compactUpTo d m).Pairwise (·< ·)/\(∀x∈compactUpTo d m,∃j,j<m/\x=d[j]!)/\ ∀j,j<m->d[j]! ∈compactUpTo d m
 |0,_=>by
  refine⟨?_,λ x hx=> ?_,λ j hj=>absurd hj (anA j)⟩
  ·show(compactUpTo d 0).Pairwise _;exact List.Pairwise.nil
  ·exact absurd hx (by show x ∉ ([]:List Str);simp)
 |m+1,hm=>by
  obtain⟨h1,h2,h3⟩:=sW d hs m o_;rw[compactUpTo_succ];by_cases hk:keeps d m=true
  ·rw[if_pos hk];refine⟨?_,λ x hx=> ?_,λ j hj=> ?_⟩
   ·refine an4.2 ⟨h1,aog _ _,λ x hx y hy=> ?_⟩;rw[amZ.1 hy];obtain⟨j,hj,rfl⟩:=h2 x hx;have hne:m=0\/d[m]! ≠d[m-1]! :=of_decide_eq_true hk;have hne:d[m]! ≠d[m-1]! :=by
     rcases hne with h|h
     ·omega
     ·exact h
    exact GV (hs j (m-1) o_ o_) (Po (hs (m-1) m o_ o_) λ e=>hne e.symm)
   ·rcases am6.1 hx with hx|hx
    ·obtain⟨j,hj,e⟩:=h2 x hx;exact⟨j,o_,e⟩
    ·exact⟨m,o_,amZ.1 hx⟩
   ·rcases anr j m with h|h
    ·exact am6.2 (.inl (h3 j h))
    ·obtain rfl:j=m:=o_
     exact am6.2 (.inr (amZ.2 rfl))
  ·rw[if_neg hk,am2];refine⟨h1,λ x hx=> ?_,λ j hj=> ?_⟩
   ·obtain⟨j,hj,e⟩:=h2 x hx;exact⟨j,o_,e⟩
   ·rcases anr j m with h|h
    ·exact h3 j h
    ·obtain rfl:j=m:=o_
     have hk:¬ (j=0\/d[j]! ≠d[j-1]!):=λ h=>hk (decide_eq_true h);have e:d[j]! =d[j-1]! :=Classical.byContradiction λ h=>hk (.inr h);rw[e];exact h3 (j-1) (by have:j≠0:=λ h=>hk (.inl h);omega)
theorem LG(l:List Str):(l.mergeSort λ x y=>decide (x<=y)).Pairwise (·<= ·):=by
 have tr:∀a b c:Str,decide (a<=b)=true->decide (b<=c)=true->decide (a<=c)=true:=λ a b c h1 h2=>by simp only[decide_eq_true_eq]at*;exact List.le_trans h1 h2
 have to:∀a b:Str,(decide (a<=b)||decide (b<=a))=true:=λ a b=>by simp only[anT,decide_eq_true_eq];exact List.le_total a b
 exact(List.pairwise_mergeSort tr to l).imp λ h=>of_decide_eq_true h
theorem RP(a:Str):a<=a:=List.le_refl a
theorem jA(l:List Str):(uniq l).Pairwise (·< ·)/\ ∀x,x∈uniq l↔x∈l:=by
 have hp:=LG l;have hm:∀x,x∈(l.mergeSort λ x y=>decide (x<=y))↔x∈l:=λ x=>List.mem_mergeSort;unfold uniq;generalize(l.mergeSort λ x y=>decide (x<=y))=s at hp hm;have hg:∀i(h:i<s.length),s.toArray[i]! =s[i]:=λ i h=>by simp[h]
 obtain⟨h1,h2,h3⟩:=sW s.toArray (λ i j hij hj=>by
  have hj:j<s.length:=hj;rw[hg j hj,hg i o_];rcases anr i j with h|h
  ·exact aoS.1 hp i j o_ hj h
  ·obtain rfl:i=j:=o_
   exact RP _) s.length (ani _)
 refine⟨h1,λ x=> ?_⟩;rw[<-hm];constructor
 ·intro hx;obtain⟨j,hj,rfl⟩:=h2 x hx;rw[hg j hj];exact anH _
 ·intro hx;obtain⟨j,hj,rfl⟩:=anR hx;have:=h3 j hj;rw[hg j hj]at this;exact this
theorem zA:∀{a b:List Str},a.Pairwise (·< ·)->b.Pairwise (·< ·)->(∀x,x∈a↔x∈b)->a=b
 |[],[],_,_,_=>rfl
 |[],y::_,_,_,h=>absurd ((h y).2 amW) s_
 |x::_,[],_,_,h=>absurd ((h x).1 amW) s_
 |x::a,y::b,ha,hb,h=>by
  obtain⟨ha1,ha2⟩:=List.pairwise_cons.1 ha;obtain⟨hb1,hb2⟩:=List.pairwise_cons.1 hb;have e:x=y:=by
   rcases am4.1 ((h x).1 amW)with e|hx
   ·exact e
   ·rcases am4.1 ((h y).2 amW)with e|hy
    ·exact e.symm
    ·exact absurd (Pq (hb1 x hx) (ha1 y hy)) (uq _)
  subst e;rw[zA ha2 hb2 λ z=>⟨λ hz=> ?_,λ hz=> ?_⟩]
  ·rcases am4.1 ((h z).1 (am1 _ hz))with e|h'
   ·exact absurd (e▸ha1 z hz) (uq _)
   ·exact h'
  ·rcases am4.1 ((h z).2 (am1 _ hz))with e|h'
   ·exact absurd (e▸hb1 z hz) (uq _)
   ·exact h'
theorem RQ{a b:List Str}(h:∀x,x∈a↔x∈b):uniq a=uniq b:=
 zA (jA a).1 (jA b).1 λ x=>by rw[(jA a).2,(jA b).2,h]
theorem any_congr{α:Type}{p q:α->Bool}:∀{l:List α},(∀x∈l,p x=q x)->l.any p=l.any q
 |[],_=>rfl
 |x::l,h=>by rw[List.any_cons,List.any_cons,h x amW,any_congr λ y hy=>h y (am1 _ hy)]
end
end Go.Proofs.YtkimgljckickcaaGreat
