/-
  Contracts of the walk:Plain,EvM.
-/

set_option maxHeartbeats 16000000
set_option maxRecDepth 100000
set_option linter.unusedVariables false
set_option linter.unusedSimpArgs false
namespace Go.Proofs.YtopfgjgdadnjeaaGreat
variable{a b n:Int}{acc t:List UInt8}{f m:Nat}
structure dD where
 (c0 c1 c2 c3 c4:Int)
def dD.get(c:dD)(r:Int):Int:=if r=0 then c.c0 else if r=1 then c.c1 else if r=2 then c.c2 else if r=3 then c.c3 else c.c4
structure Ev where
 (r n:Int)(c:dD)(h k:Int)(key:ByteArray)(l:Int)(v:ByteArray)
structure Ed where
 (k:Int)(key:ByteArray)(l:Int)(v:ByteArray)
def Ev.ed(e:Ev):Ed:=⟨e.k,e.key,e.l,e.v⟩
def iJ(n a b:Int):Bool:=decide (a<=n)&&decide (n<=b)
def cu(k:Int):Bool:=k !=1&&k !=2
def zC(s:ByteArray):Bool:=s.data.toList.all λ b=>decide (97<=b.toNat/\b.toNat<=122)
def keyE(s:ByteArray):Int:=if 1<=s.size/\s.size<=8/\zC s=true then 0 else 10
def mg(n:Int):Int:=if 0<=n/\n<2 then 0 else 11
def gI(s:ByteArray):Int:=if 1<=s.size/\s.size<=12 then 0 else 12
def uV(e:Ed):Int:=
 if e.k<1\/5<e.k then 1
 else if keyE e.key≠0 then keyE e.key
 else if e.k=1\/e.k=2 then(if e.l≠0 then 11 else if e.v.size≠0 then 12 else 0)
 else if mg e.l≠0 then mg e.l
 else gI e.v
def qp(n:Int):Bool:=iJ n 0 1048576
def fH(e:Ev):Int:=
 if !(iJ e.r 0 4&&iJ e.n 1 1048576&&iJ e.h 1 16777216)then 1
 else if !(qp e.c.c0&&qp e.c.c1&&qp e.c.c2&&qp e.c.c3&&qp e.c.c4)then 1
 else if e.c.get e.r !=e.n-1 then 1
 else uV e.ed
def fE:Nat->Nat->List UInt8
 |0,n=>[UInt8.ofNat n]
 |f+1,n=>if n<128 then [UInt8.ofNat n]else UInt8.ofNat (n%128+128)::fE f (n/128)
def ak(n:Nat):List UInt8:=fE 9 n
def gu(n:Int):List UInt8:=ak n.toNat
def others(e:Ev):List Int:=
 (if e.r≠0 then [e.c.c0]else [])++(if e.r≠1 then [e.c.c1]else [])++(if e.r≠2 then [e.c.c2]else [])++(if e.r≠3 then [e.c.c3]else [])++(if e.r≠4 then [e.c.c4]else [])
def byteOf(n:Int):UInt8:=UInt8.ofNat n.toNat
def words(s:ByteArray):List UInt8:=UInt8.ofNat s.size::s.data.toList
def dK(e:Ev):List UInt8:=
 [byteOf e.k,byteOf e.r]++gu e.n++(others e).flatMap gu++gu e.h++words e.key++(if cu e.k then byteOf e.l::words e.v else [])
theorem sG(f n:Nat):1<=(fE f n).length:=by
 cases f with
 |zero=>simp[fE]
 |succ f=>unfold fE;split<;>simp
theorem aX(f n:Nat):(fE f n).length<=f+1:=by
 induction f generalizing n with
 |zero=>simp[fE]
 |succ f ih=>unfold fE;split<;>simp;exact ih _
theorem DZ(h:acc++fE f m=t)(hm:m<128^(f+1))(h128:128<=m):
  ∃f',(acc++[UInt8.ofNat (m%128+128)])++fE f' (m/128)=t/\m/128<128^(f'+1):=by
 cases f with
 |zero=>simp at hm;omega
 |succ f=>
  refine⟨f, ?_, ?_⟩
  ·rw[<-h];simp[fE,Nat.not_lt.2 h128]
  ·rw[Nat.pow_succ]at hm;exact Nat.div_lt_of_lt_mul (by omega)
theorem GY(h:acc++fE f m=t)(hm:m<128):acc++[UInt8.ofNat m]=t:=by
 rw[<-h];cases f with
 |zero=>rfl
 |succ f=>simp[fE,hm]
theorem Ol(n:Nat)(h:n<=4294967296):([]:List UInt8)++fE 9 n=ak n/\n<128^(9+1):=⟨rfl,by
 have:128^(9+1)=1180591620717411303424:=by decide
 omega⟩
theorem fZ(h:iJ n a b=true):a<=n/\n<=b:=by simpa[iJ]using h
theorem jP(h:a<=n/\n<=b):iJ n a b=true:=by simp[iJ,h.1,h.2]
structure abC(e:Ev):Prop where
 r0:0<=e.r
 r4:e.r<=4
 n1:1<=e.n
 n2:e.n<=1048576
 h1:1<=e.h
 h2:e.h<=16777216
 a0:0<=e.c.c0/\e.c.c0<=1048576
 a1:0<=e.c.c1/\e.c.c1<=1048576
 a2:0<=e.c.c2/\e.c.c2<=1048576
 a3:0<=e.c.c3/\e.c.c3<=1048576
 a4:0<=e.c.c4/\e.c.c4<=1048576
 own:e.c.get e.r=e.n-1
 ed:uV e.ed=0
theorem lV{e:Ev}(h:fH e=0):abC e:=by
 unfold fH at h;split at h
 ·cases h
 ·rename_i g1;split at h
  ·cases h
  ·rename_i g2;split at h
   ·cases h
   ·rename_i g3;simp only[Bool.not_eq_true,Bool.not_eq_false',Bool.and_eq_true,qp]at g1 g2;simp only[bne_iff_ne,ne_eq,Decidable.not_not]at g3;obtain⟨⟨hr,hn⟩,hh⟩:=g1;obtain⟨⟨⟨⟨h0,h1⟩,h2⟩,h3⟩,h4⟩:=g2;exact⟨(fZ hr).1,(fZ hr).2,(fZ hn).1,(fZ hn).2,(fZ hh).1,(fZ hh).2,fZ h0,fZ h1,fZ h2,fZ h3,fZ h4,g3,h⟩
theorem um{e:Ed}(h:uV e=0):1<=e.k/\e.k<=5/\1<=e.key.size/\e.key.size<=8/\zC e.key=true/\(cu e.k=true->0<=e.l/\e.l<=1/\1<=e.v.size/\e.v.size<=12)/\(cu e.k=false->e.l=0/\e.v.size=0):=by
 unfold uV at h;by_cases h1:e.k<1\/5<e.k
 ·rw[if_pos h1]at h;cases h
 ·rw[if_neg h1]at h;by_cases h2:keyE e.key≠0
  ·rw[if_pos h2]at h;exact absurd h h2
  ·rw[if_neg h2]at h;have hk:keyE e.key=0:=by simpa using h2
   unfold keyE at hk;split at hk
   ·rename_i hk';refine⟨by omega,by omega,hk'.1,hk'.2.1,hk'.2.2, ?_, ?_⟩
    ·intro hl;simp only[cu,Bool.and_eq_true,bne_iff_ne,ne_eq]at hl;rw[if_neg (by omega)]at h;by_cases h3:mg e.l≠0
     ·rw[if_pos h3]at h;exact absurd h h3
     ·rw[if_neg h3]at h;have h4:mg e.l=0:=by simpa using h3
      unfold mg at h4;unfold gI at h;split at h4
      ·split at h
       ·rename_i a b;exact⟨by omega,by omega,b.1,b.2⟩
       ·cases h
      ·cases h4
    ·intro hl;simp only[cu,Bool.and_eq_false_iff,bne_eq_false_iff_eq]at hl;rw[if_pos hl]at h;by_cases h3:e.l≠0
     ·rw[if_pos h3]at h;cases h
     ·rw[if_neg h3]at h;by_cases h4:e.v.size≠0
      ·rw[if_pos h4]at h;cases h
      ·exact⟨by simpa using h3,by simpa using h4⟩
   ·cases hk
theorem Qo{e:Ev}(m:abC e):fH e=0:=by
 unfold fH qp;rw[jP ⟨m.r0,m.r4⟩,jP ⟨m.n1,m.n2⟩,jP ⟨m.h1,m.h2⟩,jP m.a0,jP m.a1,jP m.a2,jP m.a3,jP m.a4];have:=m.own;simp[this,m.ed]
end Go.Proofs.YtopfgjgdadnjeaaGreat
