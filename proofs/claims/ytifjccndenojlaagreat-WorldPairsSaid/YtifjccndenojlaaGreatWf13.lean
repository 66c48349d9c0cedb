/-
  Contracts of the walk:Shape,TkLaw,TkLawB,TkLawC,TkLawD,AmG,LvK,LvN,LvA.
-/
import Derived.Test.YtifjccndenojlaaGreatWf9
import Derived.Test.YtifjccndenojlaaGreatWf2
import Derived.WalkSpells
import Derived.WalkLawsBesides
import Derived.Handy
import Derived.WideMake
import Derived.Lib.Hide
import Derived.Test.YtifjccndenojlaaGreatWf1
import Derived.Test.YtifjccndenojlaaGreatWf5
import Derived.ScopeJumps
import Derived.Test.YtifjccndenojlaaGreatWf12
import Derived.Tactics
import Derived.Tactics2
import Derived.Defers
import Derived.Laws.Pointers
import Derived.Laws.LoneSync
import Derived.RegionTactic
import Derived.RegionCalls
import Derived.Test.YtifjccndenojlaaGreatWf10
set_option maxHeartbeats 16000000
set_option maxRecDepth 100000
set_option linter.unusedVariables false
set_option linter.unusedSimpArgs false
namespace Go.Proofs.YtifjccndenojlaaGreat
open Go.RowKit
open Go.Proofs.Tryz
variable{st:AS}{K:AV->AS->Prop}{may:ByteArray->Int}{e:Ed}{f:FuncId}{R a c hi k lo o sz:Int}{L:Lay}{cs:List AV}{bs l:List UInt8}{us xs:List Value}{d i m n u:Nat}{P:Program}{s s':Sq}{t:TypeId}{b:UInt8}{r x y:Value}{W:Walk}{w:World}
def Hw(k:Int):Bool:=k==1||k==4
def Hy(k:Int):Bool:=k==2
def Hz(k:Int):Bool:=k==3||k==5
def shK(k:Int):Bool:=decide (1<=k/\k<=5)
def zN(e u c:Bool):Value:= .agg #[.bool e,.bool u,.bool c]
theorem aix(w:World)(b:Nat)(es:Array MapEntry)(clock:Nat)(n:Int)(x:Value)(hb:w.heap[b]? =some (.map es clock))(hn:Instr.findNow (.int .i64) (.int .i64 n) es.toList 0=some none):
  (Instr.mapUpdate 235 (.map (some b)) (.int .i64 n) x).run prog w= .ok () {w with heap:=w.heap.setIfInBounds b (.map (es.push {key:= .int .i64 n,val:=x,born:=clock}) (clock+1))}:=by
 have hc:(Instr.checkKey false 10000 3 (.int .i64 n)).run prog w= .ok () w:=MapKept.run_checkKey (k:= .int .i64 n) Tryz.underlying3 (by simp[MapKept.IsKey]) false 9999;simp[Instr.mapUpdate,run_underlying Tryz.underlying235,apq hb,hc,MapKept.run_findKey Tryz.underlying3 hn,ap3 _ hb,Result.andThen]
def valOf:Option (Nat×Value)->Value
 |some p=>p.2
 |none=>zN false false false
theorem afg(w:World)(b:Nat)(es:Array MapEntry)(clock:Nat)(n:Int)(r:Option (Nat×Value))(hb:w.heap[b]? =some (.map es clock))(hn:Instr.findNow (.int .i64) (.int .i64 n) es.toList 0=some r):
  (Instr.lookup 235 (.map (some b)) (.int .i64 n) true).run prog w= .ok (.tuple #[(valOf r),.bool r.isSome]) w:=by
 have hc:(Instr.checkKey es.isEmpty 10000 3 (.int .i64 n)).run prog w= .ok () w:=MapKept.run_checkKey (k:= .int .i64 n) Tryz.underlying3 (by simp[MapKept.IsKey]) _ 9999;have hz:(zeroValue 191).run prog w= .ok (zN false false false) w:=by kernel_rfl
 cases r with
 |none=>simp[Instr.lookup,run_underlying Tryz.underlying235,apq hb,hc,MapKept.run_findKey Tryz.underlying3 hn,hz,Result.andThen,valOf]
 |some p=>simp[Instr.lookup,run_underlying Tryz.underlying235,apq hb,hc,MapKept.run_findKey Tryz.underlying3 hn,Result.andThen,valOf]
def ent(n:Int)(e u c:Bool)(b:Nat):MapEntry:={key:= .int .i64 n,val:=zN e u c,born:=b}
def ents:List MapEntry:=[ent 1 true false false 0,ent 2 false true false 1,ent 3 false false true 2,ent 4 true false false 3,ent 5 false false true 4]
theorem abH(k:Int):∃r,Instr.findNow (.int .i64) (.int .i64 k) ents 0=some r/\(valOf r)=zN (Hw k) (Hy k) (Hz k)/\r.isSome=shK k:=by
 by_cases h:1<=k/\k<=5
 ·rcases(show k=1\/k=2\/k=3\/k=4\/k=5 by omega)with rfl|rfl|rfl|rfl|rfl<;>exact⟨_,rfl,rfl,rfl⟩
 ·refine⟨none, ?_, ?_, ?_⟩
  ·have h1:(k==1)=false:=by simp;omega
   have h2:(k==2)=false:=by simp;omega
   have h3:(k==3)=false:=by simp;omega
   have h4:(k==4)=false:=by simp;omega
   have h5:(k==5)=false:=by simp;omega
   simp[ents,ent,Instr.findNow,Instr.sameNow,h1,h2,h3,h4,h5]
  ·simp[valOf,zN,Hw,Hy,Hz];omega
  ·simp[shK];omega
theorem set_push(a:Array Obj)(o o':Obj):(a.push o).setIfInBounds a.size o'=a.push o':=by
 apply aqp;rw[Array.toList_setIfInBounds,Array.toList_push,Array.toList_push,<-aoY,List.set_append_right _ _ (aoH _),Nat.sub_self];rfl
theorem abI(w:World)(o o':Obj):({(w.alloc o)with heap:=(w.alloc o).heap.setIfInBounds w.heap.size o'}:World)=w.alloc o':=by
 show({w with heap:=(w.heap.push o).setIfInBounds w.heap.size o'}:World)={w with heap:=w.heap.push o'};rw[set_push]
theorem wu(w:World)(b:Nat)(l:List MapEntry)(n:Int)(e u c:Bool)(hb:b=w.heap.size)(hn:Instr.findNow (.int .i64) (.int .i64 n) l 0=some none):
  (Instr.mapUpdate 235 (.map (some b)) (.int .i64 n) (.agg #[.bool e,.bool u,.bool c])).run prog (w.alloc (.map l.toArray l.length))= .ok () (w.alloc (.map (l++[ent n e u c l.length]).toArray (l.length+1))):=by
 subst hb;rw[aix _ _ l.toArray l.length n _ (heap_alloc_new w _) (by simpa using hn),abI];simp[ent,zN]
theorem abJ(k:Int)(w:World):Calls prog 91 #[.int .i64 k] w λ e w'=>e= .returned (.tuple #[zN (Hw k) (Hy k) (Hz k),.bool (shK k)])/\Below w.heap.size w w':=by
 have hmm:= @run_makeMap prog;obtain⟨W1,hW⟩:∃W1,W1=w.alloc (.cells #[.bool false,.bool false,.bool false] 191):=⟨_,rfl⟩;have hs:w.heap.size+1=W1.heap.size:=by rw[hW];simp
 have h1:(Instr.mapUpdate 235 (.map (some (w.heap.size+1))) (.int .i64 1) (.agg #[.bool true,.bool false,.bool false])).run prog (W1.alloc (.map #[] 0))= .ok () (W1.alloc (.map #[ent 1 true false false 0] 1)):=wu W1 _ [] 1 true false false hs rfl;have h2:(Instr.mapUpdate 235 (.map (some (w.heap.size+1))) (.int .i64 2) (.agg #[.bool false,.bool true,.bool false])).run prog (W1.alloc (.map #[ent 1 true false false 0] 1))= .ok () (W1.alloc (.map #[ent 1 true false false 0,ent 2 false true false 1] 2)):=wu W1 _ [ent 1 true false false 0] 2 false true false hs rfl;have h3:(Instr.mapUpdate 235 (.map (some (w.heap.size+1))) (.int .i64 3) (.agg #[.bool false,.bool false,.bool true])).run prog (W1.alloc (.map #[ent 1 true false false 0,ent 2 false true false 1] 2))= .ok () (W1.alloc (.map #[ent 1 true false false 0,ent 2 false true false 1,ent 3 false false true 2] 3)):=wu W1 _ [ent 1 true false false 0,ent 2 false true false 1] 3 false false true hs rfl;have h4:(Instr.mapUpdate 235 (.map (some (w.heap.size+1))) (.int .i64 4) (.agg #[.bool true,.bool false,.bool false])).run prog (W1.alloc (.map #[ent 1 true false false 0,ent 2 false true false 1,ent 3 false false true 2] 3))= .ok () (W1.alloc (.map #[ent 1 true false false 0,ent 2 false true false 1,ent 3 false false true 2,ent 4 true false false 3] 4)):=wu W1 _ [ent 1 true false false 0,ent 2 false true false 1,ent 3 false false true 2] 4 true false false hs rfl;have h5:(Instr.mapUpdate 235 (.map (some (w.heap.size+1))) (.int .i64 5) (.agg #[.bool false,.bool false,.bool true])).run prog (W1.alloc (.map #[ent 1 true false false 0,ent 2 false true false 1,ent 3 false false true 2,ent 4 true false false 3] 4))= .ok () (W1.alloc (.map #[ent 1 true false false 0,ent 2 false true false 1,ent 3 false false true 2,ent 4 true false false 3,ent 5 false false true 4] 5)):=wu W1 _ [ent 1 true false false 0,ent 2 false true false 1,ent 3 false false true 2,ent 4 true false false 3] 5 false false true hs rfl;obtain⟨r,hr1,hr2,hr3⟩:=abH k;have hl:=afg (W1.alloc (.map ents.toArray 5)) (w.heap.size+1) ents.toArray 5 k r (by rw[hs];exact heap_alloc_new W1 _) (by simpa using hr1);rw[hr2,hr3]at hl;unfold ents at hl;rw[hW]at h1 h2 h3 h4 h5 hl;have H1:=aqc h1;have H2:=aqc h2;have H3:=aqc h3;have H4:=aqc h4;have H5:=aqc h5;have HL:=aqc hl;clear h1 h2 h3 h4 h5 hl hr1 hr2 hr3 hs hW;go_enter func91,Tryz.ntmps91;go_wp2;rw[H1.out];go_wp2;rw[H2.out];go_wp2;rw[H3.out];go_wp2;rw[H4.out];go_wp2;rw[H5.out];go_wp2;rw[HL.out];simp only[zN];go_wp2;go_returns;exact⟨rfl,by go_grown⟩
theorem lX(k:Int):aH prog 91 [.v (.int .i64 k)] (.bI [.agg [.v (.bool (Hw k)),.v (.bool (Hy k)),.v (.bool (Hz k))],.v (.bool (shK k))]) []:=by
 refine⟨⟨_,_,func91,rfl,rfl⟩,λ w keep args _ hargs=>?_⟩;obtain⟨u,rfl,hu⟩:=rM hargs;have hu:u= .int .i64 k:=hu;subst hu;refine(abJ k w).mono ?_;rintro e w' ⟨h1,h2⟩;exact⟨_,λ _=>undef,h1,h2,⟨[.agg #[.bool (Hw k),.bool (Hy k),.bool (Hz k)],.bool (shK k)],rfl,aG.cons ⟨[.bool (Hw k),.bool (Hy k),.bool (Hz k)],rfl,aG.cons rfl (aG.cons rfl (aG.cons rfl aG.nil))⟩ (aG.cons rfl aG.nil)⟩,(λ p hp=>by cases hp),by simp[ah],(λ b hb=>by simp[ah]at hb)⟩
theorem Vx(h:n<256):(UInt8.ofNat n).toNat=n:=by
 rw[apS,ap0 o_]
theorem aj2{a:UInt8}(h:a.toNat=b.toNat):a=b:=UInt8.toNat_inj.1 h
theorem KR(t:List UInt8):∀(f i n acc:Nat),i+f=9->n*128^i<=4294967296->(0<i->n≠0)->n<128^(f+1)->
 gB ((fZ f n++t).take (10-i)) i acc=(acc+n*128^i,i+(fZ f n).length,0)
 |0,i,n,acc,hi,hn,h0,_=>by
  have:i=9:=o_
  subst this;exfalso;have:n=0\/1<=n:=o_
  rcases this with h|h
  ·exact h0 o_ h
  ·have h2:128^9=9223372036854775808:=d_
   rw[h2]at hn;omega
 |f+1,i,n,acc,hi,hn,h0,hlt=>by
  have h10:10-i=(10-(i+1))+1:=o_
  by_cases h:n<128
  ·simp only[fZ,if_pos h,ao6,aoN,h10,aqO,gB,Vx (show n<256 by omega)];rw[if_neg o_,if_neg]
   ·simp
   ·rintro(⟨h1,h2⟩|⟨h1,h2⟩)
    ·exact h0 h1 h2
    ·omega
  ·have hq:n%128+128<256:=o_
   have e:n/128*128^(i+1)+n%128*128^i=n*128^i:=by
    rw[aqK,Nat.mul_comm (128^i) 128,<-Nat.mul_assoc,<-apN];congr 1;omega
   have ih:=KR t f (i+1) (n/128) (acc+(n%128)*128^i) o_ o_ (λ _=>o_) (by
    rw[aqK]at hlt;exact Nat.div_lt_of_lt_mul o_)
   simp only[fZ,if_neg h,ao6,h10,aqO,gB,Vx hq];rw[if_pos o_,show n%128+128-128=n%128 by omega,ih];simp only[aoE,apW,and_true];exact⟨o_,o_⟩
theorem wz(n:Nat)(t:List UInt8)(h:n<=4294967296):cO (aN n++t)=(n,(aN n).length,0):=by
 have:=KR t 9 0 n 0 rfl (by simpa using h) (λ h=>absurd h o_) (by
  have:128^(9+1)=1180591620717411303424:=d_
  omega)
 simpa[cO,aN]using this
theorem Py:∀(l:List UInt8)(i acc m k:Nat),i+l.length<=10->gB l i acc=(m,k,0)-> ∃n,m=acc+n*128^i/\k=i+(fZ (9-i) n).length/\k<=i+l.length/\l.take (k-i)=fZ (9-i) n/\(0<i->n≠0)
 |[],i,acc,m,k,hl,h=>by
  simp only[gB]at h;split at h<;>cases h
 |c::r,i,acc,m,k,hl,h=>by
  simp only[gB]at h;simp only[aoE]at hl;have hc:=apv c;by_cases h1:128<=c.toNat
  ·rw[if_pos h1]at h;obtain⟨n,e1,e2,e3,e4,e5⟩:=Py r (i+1) _ m k o_ h;have hn:=e5 o_;have h9:9-i=(9-(i+1))+1:=by
    have:1<=r.length:=by
     cases r with
     |nil=>
      simp only[gB]at h;split at h<;>cases h
     |cons=>simp
    omega
   refine⟨n*128+(c.toNat-128), ?_, ?_,by simp only[aoE];omega, ?_,λ _=>o_⟩
   ·rw[e1,aqK,apN];have:n*(128^i*128)=n*128*128^i:=by rw[Nat.mul_comm (128^i) 128,Nat.mul_assoc]
    omega
   ·rw[h9,fZ,if_neg o_,aoE,show(n*128+(c.toNat-128))/128=n by omega];omega
   ·have hk:k-i=(k-(i+1))+1:=by
     have:=vH (9-(i+1)) n;omega
    rw[hk,aqO,e4,h9,fZ,if_neg o_,show(n*128+(c.toNat-128))/128=n by omega];have hcc:UInt8.ofNat ((n*128+(c.toNat-128))%128+128)=c:=aj2 (by rw[Vx o_];omega);rw[hcc]
  ·rw[if_neg h1]at h;split at h
   ·cases h
   ·rename_i h2;simp only[apW,and_true]at h;obtain⟨h3,h4⟩:=h;refine⟨c.toNat,h3.symm, ?_,by simp only[aoE];omega, ?_,λ hi e=>h2 (.inl ⟨hi,e⟩)⟩;all_goals subst h4
    ·cases h9:9-i with
     |zero=>simp[fZ]
     |succ f=>simp[fZ,show c.toNat<128 by omega]
    ·rw[show i+1-i=0+1 by omega,aqO,List.take_zero];have:UInt8.ofNat c.toNat=c:=s_
     cases h9:9-i with
     |zero=>simp[fZ,this]
     |succ f=>simp[fZ,show c.toNat<128 by omega,this]
theorem afh{k:Nat}(h:cO l=(m,k,0)):k=(aN m).length/\k<=l.length/\l.take k=aN m:=by
 obtain⟨n,e1,e2,e3,e4,_⟩:=Py (l.take 10) 0 0 m k (by rw[aou];omega) h;simp only[Nat.pow_zero,Nat.mul_one,apl,aqo]at e1 e2 e3 e4;subst e1;rw[aou]at e3;refine⟨e2,o_, ?_⟩;rw[aqX,ap5 o_]at e4;exact e4
theorem KT:∀(l:List UInt8)(i acc:Nat),(gB l i acc).2.2=0\/(gB l i acc).2.2=2\/(gB l i acc).2.2=3
 |[],i,acc=>by simp only[gB];split<;>simp
 |c::r,i,acc=>by
  simp only[gB];split
  ·exact KT r _ _
  ·split<;>simp
theorem KU:∀(f i n acc j:Nat),i+f<=9->j<(fZ f n).length->gB ((fZ f n).take j) i acc=(0,0,2)
 |f,i,n,acc,0,hi,_=>by simp[gB];omega
 |0,i,n,acc,j+1,hi,hj=>by simp[fZ]at hj
 |f+1,i,n,acc,j+1,hi,hj=>by
  by_cases h:n<128
  ·simp[fZ,h]at hj
  ·have hq:n%128+128<256:=o_
   simp only[fZ,if_neg h,aoE]at hj;simp only[fZ,if_neg h,aqO,gB,Vx hq];rw[if_pos o_];exact KU f (i+1) (n/128) _ j o_ o_
theorem abK{j:Nat}(hj:j<(aN n).length):cO ((aN n).take j)=(0,0,2):=by
 have:=dF 9 n;unfold cO;rw[aqX,Nat.min_eq_right (by unfold aN at hj;omega)];exact KU 9 0 n 0 j o_ hj
theorem drop_cons{t:List UInt8}(h:bs.drop u=b::t):u<bs.length/\bs.getD u 0=b/\bs.drop (u+1)=t:=by
 have hlt:u<bs.length:=by
  rcases aoP u bs.length with h'|h'
  ·exact h'
  ·rw[List.drop_of_length_le h']at h;cases h
 refine⟨hlt, ?_, ?_⟩
 ·rw[apJ hlt]at h;rw[aoG,aom hlt];exact(List.cons.inj h).1
 ·rw[apJ hlt]at h;exact(List.cons.inj h).2
theorem Vy{t:List UInt8}(h:bs.drop u=l++t):bs.drop (u+l.length)=t:=by
 rw[<-aqg,h,apE]
theorem zO{t:List UInt8}(h:bs.drop u=b::t)(h1:lo<=(b.toNat:Int))(h2:(b.toNat:Int)<=hi):iC bs lo hi (u,0)=((b.toNat:Int),(u+1,0))/\bs.drop (u+1)=t:=by
 obtain⟨h3,h4,h5⟩:=drop_cons h;refine⟨?_,h5⟩;unfold iC;rw[if_neg s_,if_neg (by simpa using h3),h4,if_pos ⟨h1,h2⟩]
theorem wB{t:List UInt8}(h:bs.drop u=aN n++t)(hn:n<=4294967296)(h1:lo<=(n:Int))(h2:(n:Int)<=hi):jy bs lo hi (u,0)=((n:Int),(u+(aN n).length,0))/\bs.drop (u+(aN n).length)=t:=by
 refine⟨?_,Vy h⟩;unfold jy;simp only[h,wz n t hn];rw[if_neg s_,if_neg s_,if_pos ⟨h1,h2⟩]
theorem Pz{t:List UInt8}{s:ByteArray}(h:bs.drop u=s.data.toList++t)(h0:1<=s.size)(h1:may s=0):jl bs (s.size:Int) may (u,0)=(s,(u+s.size,0))/\bs.drop (u+s.size)=t:=by
 have hs:s.data.toList.length=s.size:=rfl;have hc:NI bs u s.size=s:=by
  unfold NI;rw[h,<-hs,aqJ]
 have hl:s.size<=bs.length-u:=by
  have:=congrArg List.length h;rw[aoK,aop]at this;omega
 refine⟨?_,by have:=Vy h;rwa [hs]at this⟩;unfold jl;rw[if_neg s_,if_neg (by dsimp only;omega)];simp only[apc,hc,h1,if_true]
theorem lY{n:Int}(h0:0<=n)(h1:n<=255):((byteOf n).toNat:Int)=n:=by
 unfold byteOf;rw[apS,ap0 o_];omega
theorem Vz{s:ByteArray}(h:s.size<=255):((UInt8.ofNat s.size).toNat:Int)=s.size:=by
 rw[apS,ap0 o_]
theorem mO(n:Nat):ig (n:Int)=aN n:=by simp[ig]
theorem size_nil{s:ByteArray}(h:s.size=0):s=⟨#[]⟩:=by
 cases s with
 |mk d=>
  have:d= #[]:=Array.eq_empty_of_size_eq_zero h;rw[this]
def EG(R o a b c d:Int):aV:=if R=0 then⟨o,a,b,c,d⟩else if R=1 then⟨a,o,b,c,d⟩else if R=2 then⟨a,b,o,c,d⟩else if R=3 then⟨a,b,c,o,d⟩else⟨a,b,c,d,o⟩
theorem AX{N x1 x2 x3 x4 H ks l vs:Int}{key v:ByteArray}{s1 s2 s3 t1 t2 t3 t4 s5 s6 s7 s8 s9 s10:Sq}(hR:0<=R/\R<=4)(e1:iC bs 1 5 (0,0)=(k,s1))(e2:iC bs 0 4 s1=(R,s2))(e3:jy bs 1 1048576 s2=(N,s3))
  (f1:jy bs 0 1048576 s3=(x1,t1))(f2:jy bs 0 1048576 t1=(x2,t2))(f3:jy bs 0 1048576 t2=(x3,t3))(f4:jy bs 0 1048576 t3=(x4,t4))(e5:jy bs 1 16777216 t4=(H,s5))(e6:iC bs 1 8 s5=(ks,s6))(e7:jl bs ks keyE s6=(key,s7)):
  (jF k=false->nM bs (0,0)=(⟨R,N,EG R (N-1) x1 x2 x3 x4,H,k,key,0,⟨#[]⟩⟩,s7))/\(iC bs 0 1 s7=(l,s8)->iC bs 1 12 s8=(vs,s9)->jl bs vs lQ s9=(v,s10)->jF k=true->nM bs (0,0)=(⟨R,N,EG R (N-1) x1 x2 x3 x4,H,k,key,l,v⟩,s10)):=by
 rcases(show R=0\/R=1\/R=2\/R=3\/R=4 by omega)with rfl|rfl|rfl|rfl|rfl;all_goals exact⟨λ hl=>by simp[nM,Kz,Ky,OU,aV.akR,aV.put,EG, *],λ e8 e9 e10 hl=>by simp[nM,Kz,Ky,OU,aV.akR,aV.put,EG, *]⟩
theorem aiy{b d:Int}(P:Int->Prop)(h0:P o)(h1:P a)(h2:P b)(h3:P c)(h4:P d):P (EG R o a b c d).c0/\P (EG R o a b c d).c1/\P (EG R o a b c d).c2/\P (EG R o a b c d).c3/\P (EG R o a b c d).c4:=by
 unfold EG;repeat' split
 all_goals exact⟨a_,a_,a_,a_,a_⟩
theorem aat{b d:Int}(hR:0<=R/\R<=4):(EG R o a b c d).get R=o/\ ∀n h k key l v,others ⟨R,n,EG R o a b c d,h,k,key,l,v⟩=[a,b,c,d]:=by
 rcases(show R=0\/R=1\/R=2\/R=3\/R=4 by omega)with rfl|rfl|rfl|rfl|rfl<;>exact⟨rfl,λ _ _ _ _ _ _=>rfl⟩
theorem ak1(hR:0<=R/\R<=4)(C:aV):∃a b c d,C=EG R (C.get R) a b c d/\ ∀P:Int->Prop,P C.c0->P C.c1->P C.c2->P C.c3->P C.c4->P a/\P b/\P c/\P d:=by
 rcases(show R=0\/R=1\/R=2\/R=3\/R=4 by omega)with rfl|rfl|rfl|rfl|rfl
 ·exact⟨C.c1,C.c2,C.c3,C.c4,rfl,λ _ _ a b c d=>⟨a,b,c,d⟩⟩
 ·exact⟨C.c0,C.c2,C.c3,C.c4,rfl,λ _ a _ b c d=>⟨a,b,c,d⟩⟩
 ·exact⟨C.c0,C.c1,C.c3,C.c4,rfl,λ _ a b _ c d=>⟨a,b,c,d⟩⟩
 ·exact⟨C.c0,C.c1,C.c2,C.c4,rfl,λ _ a b c _ d=>⟨a,b,c,d⟩⟩
 ·exact⟨C.c0,C.c1,C.c2,C.c3,rfl,λ _ a b c d _=>⟨a,b,c,d⟩⟩
theorem abL(e:Ev)(h:eH e=0)(rest:List UInt8):nM (fC e++rest) (0,0)=(e,((fC e).length,0)):=by
 have m:=pV h;have g:=wU m.ed;obtain⟨r,n,C,hh,k,key,l,v⟩:=e;obtain⟨r0,r4,n1,n2,h1,h2,a0,a1,a2,a3,a4,own,ed⟩:=m;dsimp only[Ev.ed]at r0 r4 n1 n2 h1 h2 a0 a1 a2 a3 a4 g own;obtain⟨g1,g2,g3,g4,g5,g6,g7⟩:=g;clear ed h;obtain⟨x1,x2,x3,x4,hC,hx⟩:=ak1 ⟨r0,r4⟩ C;obtain⟨y1,y2,y3,y4⟩:=hx (λ x=>0<=x/\x<=1048576) a0 a1 a2 a3 a4;rw[own]at hC;subst hC;have ho:=(aat (o:=n-1) (a:=x1) (b:=x2) (c:=x3) (d:=x4) ⟨r0,r4⟩).2;clear a0 a1 a2 a3 a4 own hx;obtain⟨n,rfl⟩:=apb (show 0<=n by omega);obtain⟨hh,rfl⟩:=apb (show 0<=hh by omega);obtain⟨x1,rfl⟩:=apb y1.1;obtain⟨x2,rfl⟩:=apb y2.1;obtain⟨x3,rfl⟩:=apb y3.1;obtain⟨x4,rfl⟩:=apb y4.1;have hkey:keyE key=0:=by unfold keyE;rw[if_pos ⟨g3,g4,g5⟩]
 have bk:=lY (n:=k) o_ o_;have br:=lY (n:=r) o_ o_;have anw:=Vz (s:=key) o_;generalize hbs:fC _++rest=bs;generalize hlen:(fC _).length=len;obtain⟨T,hT⟩:∃T,T=(if jF k then byteOf l::UInt8.ofNat v.size::(v.data.toList++rest)else rest):=⟨_,rfl⟩;have d0:bs.drop 0=byteOf k::byteOf r::(aN n++(aN x1++(aN x2++(aN x3++(aN x4++(aN hh++(UInt8.ofNat key.size::(key.data.toList++T)))))))):=by
  rw[<-hbs,hT];cases hl:jF k<;>simp[fC,ho,words,mO,hl]
 obtain⟨e1,d1⟩:=zO (lo:=1) (hi:=5) d0 o_ o_;obtain⟨e2,d2⟩:=zO (lo:=0) (hi:=4) d1 o_ o_;obtain⟨e3,d3⟩:=wB (lo:=1) (hi:=1048576) d2 o_ o_ o_;obtain⟨f1,d11⟩:=wB (lo:=0) (hi:=1048576) d3 o_ o_ o_;obtain⟨f2,d12⟩:=wB (lo:=0) (hi:=1048576) d11 o_ o_ o_;obtain⟨f3,d13⟩:=wB (lo:=0) (hi:=1048576) d12 o_ o_ o_;obtain⟨f4,d14⟩:=wB (lo:=0) (hi:=1048576) d13 o_ o_ o_;obtain⟨e5,d5⟩:=wB (lo:=1) (hi:=16777216) d14 o_ o_ o_;obtain⟨e6,d6⟩:=zO (lo:=1) (hi:=8) d5 o_ o_;obtain⟨e7,d7⟩:=Pz (may:=keyE) d6 g3 hkey;rw[bk]at e1;rw[br]at e2;rw[anw]at e6;cases hl:jF k with
 |true=>
  rw[hl,if_pos rfl]at hT;subst hT;obtain⟨x1,x2,x3,x4⟩:=g6 hl;have bl:=lY (n:=l) o_ o_;have bv:=Vz (s:=v) o_;have hval:lQ v=0:=by unfold lQ;rw[if_pos ⟨x3,x4⟩]
  obtain⟨e8,d8⟩:=zO (lo:=0) (hi:=1) d7 o_ o_;obtain⟨e9,d9⟩:=zO (lo:=1) (hi:=12) d8 o_ o_;obtain⟨e10,d10⟩:=Pz (may:=lQ) d9 x3 hval;rw[bl]at e8;rw[bv]at e9;rw[(AX ⟨r0,r4⟩ e1 e2 e3 f1 f2 f3 f4 e5 e6 e7).2 e8 e9 e10 hl];refine Prod.ext rfl (Prod.ext ?_ rfl);rw[<-hlen];simp[fC,ho,words,mO,hl];omega
 |false=>
  rw[hl,if_neg s_]at hT;subst hT;obtain⟨x1,x2⟩:=g7 hl;have hv0:v=⟨#[]⟩:=size_nil x2;subst x1 hv0;rw[(AX (l:=0) (vs:=0) (v:=⟨#[]⟩) (s8:=(0,0)) (s9:=(0,0)) (s10:=(0,0)) ⟨r0,r4⟩ e1 e2 e3 f1 f2 f3 f4 e5 e6 e7).1 hl];refine Prod.ext rfl (Prod.ext ?_ rfl);rw[<-hlen];simp[fC,ho,words,mO,hl];omega
theorem AY(h:iC bs lo hi s=(c,s'))(h0:s'.2=0):s.2=0/\lo<=c/\c<=hi/\0<=c/\c<=255/\s'.1<=bs.length/\bs.drop s.1=byteOf c::bs.drop s'.1:=by
 unfold iC at h;split at h
 ·rename_i h1;cases h;exact absurd h0 h1
 ·rename_i h1;split at h
  ·cases h;cases h0
  ·rename_i h2;split at h
   ·rename_i h3;cases h;have hb:=apv (bs.getD s.1 0);refine⟨by simpa using h1,h3.1,h3.2,o_,o_,by dsimp only;omega, ?_⟩;have hlt:s.1<bs.length:=o_
    rw[apJ hlt];congr 1;apply aj2;have:=lY (n:=((bs.getD s.1 0).toNat:Int)) o_ o_;have e:bs.getD s.1 0=bs[s.1]:=by rw[aoG,aom hlt];rfl
    rw[e]at this⊢;omega
   ·cases h;cases h0
theorem AZ(h:jy bs lo hi s=(c,s'))(h0:s'.2=0)(hs:s.1<=bs.length):s.2=0/\lo<=c/\c<=hi/\0<=c/\s'.1<=bs.length/\bs.drop s.1=ig c++bs.drop s'.1:=by
 unfold jy at h;split at h
 ·rename_i h1;cases h;exact absurd h0 h1
 ·rename_i h1;split at h
  ·rename_i h2;cases h;exact absurd h0 h2
  ·rename_i h2;split at h
   ·rename_i h3;cases h;have h2':(cO (bs.drop s.1)).2.2=0:=by simpa using h2
    obtain⟨k1,k2,k3⟩:=afh (l:=bs.drop s.1) (m:=(cO (bs.drop s.1)).1) (k:=(cO (bs.drop s.1)).2.1) (by rw[<-h2']);rw[aoK]at k2;refine⟨by simpa using h1,h3.1,h3.2,o_,by dsimp only;omega, ?_⟩;have e:ig (((cO (bs.drop s.1)).1:Nat):Int)=aN (cO (bs.drop s.1)).1:=mO _;rw[e,<-k3,<-aqg,apu]
   ·cases h;cases h0
theorem VA{c:ByteArray}(h:jl bs sz may s=(c,s'))(h0:s'.2=0)(hs:s.1<=bs.length)(hz:0<=sz):s.2=0/\(c.size:Int)=sz/\may c=0/\s'.1<=bs.length/\bs.drop s.1=c.data.toList++bs.drop s'.1:=by
 unfold jl at h;split at h
 ·rename_i h1;cases h;exact absurd h0 h1
 ·rename_i h1;split at h
  ·cases h;cases h0
  ·rename_i h2;cases h;dsimp only at h0;have h3:may (NI bs s.1 sz.toNat)=0:=by
    split at h0
    ·assumption
    ·cases h0
   refine⟨by simpa using h1, ?_,h3,by dsimp only;omega, ?_⟩
   ·show((NI bs s.1 sz.toNat).data.size:Int)=sz;simp only[NI,List.size_toArray,aou,aoK];omega
   ·simp only[NI];rw[<-aqg,apu]
theorem afi(h:jF k=false):k=1\/k=2:=by
 simp only[jF,Bool.and_eq_false_iff,bne_eq_false_iff_eq]at h;exact h
theorem VB(s:ByteArray)(h:(s.size:Int)=c):byteOf c::s.data.toList=words s:=by
 subst h;simp[words,byteOf]
theorem VD(h1:1<=e.k/\e.k<=5)(h2:keyE e.key=0)(h3:e.k=1\/e.k=2)(h4:e.l=0)(h5:e.v.size=0):lS e=0:=by
 unfold lS;rw[if_neg o_,if_neg (by simp[h2]),if_pos h3,if_neg (by simp[h4]),if_neg (by simp[h5])]
theorem Yx(h1:1<=e.k/\e.k<=5)(h2:keyE e.key=0)(h3:jF e.k=true)(h4:0<=e.l/\e.l<2)(h5:lQ e.v=0):lS e=0:=by
 have hk:¬ (e.k=1\/e.k=2):=by
  simp only[jF,aon,bne_iff_ne,ne_eq]at h3;omega
 have hlab:sO e.l=0:=by unfold sO;rw[if_pos h4]
 unfold lS;rw[if_neg o_,if_neg (by simp[h2]),if_neg hk,if_neg (by simp[hlab]),h5]
theorem Si(h:iC bs lo hi s=(c,s'))(h0:s'.2=0):s.2=0:=(AY h h0).1
theorem Gq(h:jy bs lo hi s=(c,s'))(h0:s'.2=0):s.2=0:=by
 unfold jy at h;split at h
 ·rename_i h1;cases h;exact absurd h0 h1
 ·rename_i h1;simpa using h1
theorem aau{c:ByteArray}(h:jl bs sz may s=(c,s'))(h0:s'.2=0):s.2=0:=by
 unfold jl at h;split at h
 ·rename_i h1;cases h;exact absurd h0 h1
 ·rename_i h1;simpa using h1
theorem aav(_hm:m<=bs.length)(h:bs=l++bs.drop m):bs.take m=l:=by
 have h1:bs=bs.take m++bs.drop m:=(apu m bs).symm;exact List.append_cancel_right (h1.symm.trans h)
theorem afj(bs:List UInt8){e:Ev}(h:nM bs (0,0)=(e,(m,0))):eH e=0/\m<=bs.length/\bs.take m=fC e:=by
 obtain⟨⟨k,s1⟩,e1⟩:∃p,iC bs 1 5 (0,0)=p:=⟨_,rfl⟩;obtain⟨⟨R,s2⟩,e2⟩:∃p,iC bs 0 4 s1=p:=⟨_,rfl⟩;obtain⟨⟨N,s3⟩,e3⟩:∃p,jy bs 1 1048576 s2=p:=⟨_,rfl⟩;obtain⟨⟨x1,t1⟩,f1⟩:∃p,jy bs 0 1048576 s3=p:=⟨_,rfl⟩;obtain⟨⟨x2,t2⟩,f2⟩:∃p,jy bs 0 1048576 t1=p:=⟨_,rfl⟩;obtain⟨⟨x3,t3⟩,f3⟩:∃p,jy bs 0 1048576 t2=p:=⟨_,rfl⟩;obtain⟨⟨x4,t4⟩,f4⟩:∃p,jy bs 0 1048576 t3=p:=⟨_,rfl⟩;obtain⟨⟨H,s5⟩,e5⟩:∃p,jy bs 1 16777216 t4=p:=⟨_,rfl⟩;obtain⟨⟨ks,s6⟩,e6⟩:∃p,iC bs 1 8 s5=p:=⟨_,rfl⟩;obtain⟨⟨key,s7⟩,e7⟩:∃p,jl bs ks keyE s6=p:=⟨_,rfl⟩;obtain⟨⟨l,s8⟩,e8⟩:∃p,iC bs 0 1 s7=p:=⟨_,rfl⟩;obtain⟨⟨vs,s9⟩,e9⟩:∃p,iC bs 1 12 s8=p:=⟨_,rfl⟩;obtain⟨⟨v,s10⟩,e10⟩:∃p,jl bs vs lQ s9=p:=⟨_,rfl⟩;have hR0:=KA (bs:=bs) (lo:=0) (hi:=4) (s:=s1);rw[e2]at hR0;have hR:0<=R/\R<=4:=by simp only at hR0;omega
 have hF:=λ hR=>AX (l:=l) (vs:=vs) (v:=v) (s8:=s8) (s9:=s9) (s10:=s10) hR e1 e2 e3 f1 f2 f3 f4 e5 e6 e7;have hF:=hF hR;obtain⟨hg,ho⟩:=aat (o:=N-1) (a:=x1) (b:=x2) (c:=x3) (d:=x4) hR;have hC:=λ P=>aiy (R:=R) (o:=N-1) (a:=x1) (b:=x2) (c:=x3) (d:=x4) P;generalize EG R (N-1) x1 x2 x3 x4=C at hF hg ho hC;have b0:bs=bs.drop (0,(0:Int)).1:=rfl;have go:s7.2=0->(1<=k/\k<=5)/\(1<=N/\N<=1048576)/\(1<=H/\H<=16777216)/\(0<=R/\R<=4)/\((0<=C.c0/\C.c0<=1048576)/\(0<=C.c1/\C.c1<=1048576)/\(0<=C.c2/\C.c2<=1048576)/\(0<=C.c3/\C.c3<=1048576)/\(0<=C.c4/\C.c4<=1048576))/\keyE key=0/\s7.1<=bs.length/\
   bs=byteOf k::byteOf R::(ig N++(ig x1++(ig x2++(ig x3++(ig x4++(ig H++(words key++bs.drop s7.1))))))):=λ y7=>by
  have y6:=(aau e7 y7);have y5:=(Si e6 y6);have yp:=(Gq e5 y5);have yt4:=(Gq f4 yp);have yt3:=(Gq f3 yt4);have yt2:=(Gq f2 yt3);have y3:=(Gq f1 yt2);have y2:=(Gq e3 y3);have y1:=(Si e2 y2);obtain⟨_,k1,k2,_,_,u1,b1⟩:=AY e1 y1;obtain⟨_,r1,r2,_,_,u2,b2⟩:=AY e2 y2;obtain⟨_,n1,n2,_,u3,b3⟩:=AZ e3 y3 u2;obtain⟨_,m1,mm1,_,v1,g1⟩:=AZ f1 yt2 u3;obtain⟨_,m2,mm2,_,v2,g2⟩:=AZ f2 yt3 v1;obtain⟨_,m3,mm3,_,v3,g3⟩:=AZ f3 yt4 v2;obtain⟨_,m4,mm4,_,v4,g4⟩:=AZ f4 yp v3;obtain⟨_,h1,h2,_,u5,b5⟩:=AZ e5 y5 v4;obtain⟨_,k3,k4,k5,_,u6,b6⟩:=AY e6 y6;obtain⟨_,q1,q2,u7,b7⟩:=VA e7 y7 u6 k5;refine⟨⟨k1,k2⟩,⟨n1,n2⟩,⟨h1,h2⟩,⟨r1,r2⟩,hC (λ x=>0<=x/\x<=1048576) ⟨o_,o_⟩ ⟨m1,mm1⟩ ⟨m2,mm2⟩ ⟨m3,mm3⟩ ⟨m4,mm4⟩,q2,u7, ?_⟩;conv=>lhs;rw[b0,b1,b2,b3,g1,g2,g3,g4,b5,b6,b7]
  simp[<-VB key q1]
 cases hl:jF k with
 |false=>
  rw[hF.1 hl]at h;simp only[apW]at h;obtain⟨rfl,hs⟩:=h;obtain⟨kk,nn,hh,rr,⟨a0,a1,a2,a3,a4⟩,q2,u7,hb⟩:=go (by rw[hs]);have hm:s7.1=m:=by rw[hs]
  refine⟨ZE ⟨rr.1,rr.2,nn.1,nn.2,hh.1,hh.2,a0,a1,a2,a3,a4,hg,VD (e:=⟨k,key,0,⟨#[]⟩⟩) kk q2 (afi hl) rfl rfl⟩,by rw[<-hm];exact u7,aav (by rw[<-hm];exact u7) (l:=fC _) ?_⟩;rw[<-hm];conv=>lhs;rw[hb]
  simp[fC,ho,hl]
 |true=>
  rw[hF.2 e8 e9 e10 hl]at h;simp only[apW]at h;obtain⟨rfl,hs⟩:=h;have y10:s10.2=0:=by rw[hs]
  have hm:s10.1=m:=by rw[hs]
  have y9:=(aau e10 y10);have y8:=(Si e9 y9);obtain⟨kk,nn,hh,rr,⟨a0,a1,a2,a3,a4⟩,q2,u7,hb⟩:=go (Si e8 y8);obtain⟨_,l1,l2,_,_,u8,b8⟩:=AY e8 y8;obtain⟨_,l3,l4,l5,_,u9,b9⟩:=AY e9 y9;obtain⟨_,p1,p2,u10,b10⟩:=VA e10 y10 u9 l5;refine⟨ZE ⟨rr.1,rr.2,nn.1,nn.2,hh.1,hh.2,a0,a1,a2,a3,a4,hg,Yx (e:=⟨k,key,l,v⟩) kk q2 hl (by dsimp only;omega) p2⟩,by rw[<-hm];exact u10,aav (by rw[<-hm];exact u10) (l:=fC _) ?_⟩;rw[<-hm];conv=>lhs;rw[hb,b8,b9,b10]
  simp[fC,ho,hl,<-VB v p1]

def kQ(K:AS->Prop):jk->AS->Prop:=λ e st=>match e with| .normal=>K st|_=>False
structure anx(P:Program)(L:Lay)(W:Walk)(N lv:Nat)(t:Operand)(x0 x1 y0 y1 z:Code)(Q:jk->AS->Prop)(K:AS->Prop)(st:AS):Prop where
 h:lD P L W N lv x0 (kQ λ st=>lD P L W N lv x1 (kQ λ st=>match st.ev t with
  | .v (.bool b)=>(match b with
    |true=>lD P L W N lv y0 (kQ λ st=>lD P L W N lv y1 (kQ K) st) st
    |false=>lD P L W N lv z Q st)
  |_=>False) st) st
inductive afk(P:Program)(L:Lay)(W:Walk)(N lv:Nat)(t:Operand)(x0 x1 y0 y1 z:Code)(Q:jk->AS->Prop)(st:AS):Prop where
 |mk (X:Type) (S:X->AS) (m:X->Nat) (i0:X) (σ:List (Nat×Nat)) (h0:dO σ st (S i0))
  (hb:∀i,lD P L W N lv x0 (kQ λ st=>lD P L W N lv x1 (kQ λ st=>match st.ev t with
  | .v (.bool b)=>(match b with
    |true=>lD P L W N lv y0 (kQ λ st=>lD P L W N lv y1 (kQ λ st=> ∃j σ,dO σ st (S j)/\m j<m i) st) st
    |false=>lD P L W N lv z Q st)
  |_=>False) st) (S i)):afk P L W N lv t x0 x1 y0 y1 z Q st
section
variable{P:Program}{L:Lay}{g:Base}{N:Nat}{bs:List (Array Value)}{ρ:Nat->Value}{a:Act}{w:World}{st:AS}
theorem CQ(hL:bJ P L){W:Walk}(hW:Iz P W){lv:Nat}{p next:Code}{K:AS->Prop}{E:Exit->Act->World->Prop}(R:Rel g N bs ρ a w st)(h:lD P L W N lv p (kQ K) st)
  (hk:∀ρ a w st,Rel g N bs ρ a w st->K st->next.wp P E a w):(Code.seq p next).wp P E a w:=
 wp_seq (oM hL hW lv p (Q:=kQ K) (E:=Exit.then (next.wp P E) E) ⟨λ ρ a w st R h=>hk ρ a w st R h,λ _ _ _ _ _ _ h=>h.elim,λ _ _ _ _ _ h=>h.elim⟩ R h)
def JN(P:Program)(L:Lay)(W:Walk)(g:Base)(N lv:Nat)(bs:List (Array Value))(t:Operand)(x0 x1 y0 y1 z:Code)(Q:jk->AS->Prop)(a:Act)(w:World)(n:Nat):Prop:=
 ∃(X:Type) (S:X->AS) (m:X->Nat) (i:X) (ρ:Nat->Value),(∀i,lD P L W N lv x0 (kQ λ st=>lD P L W N lv x1 (kQ λ st=>match st.ev t with
  | .v (.bool b)=>(match b with
    |true=>lD P L W N lv y0 (kQ λ st=>lD P L W N lv y1 (kQ λ st=> ∃j σ,dO σ st (S j)/\m j<m i) st) st
    |false=>lD P L W N lv z Q st)
  |_=>False) st) (S i))/\Rel g N bs ρ a w (S i)/\m i=n
theorem Yy(hL:bJ P L)(lv:Nat){f:FuncId}{fn:Func}{p0 p1 p2 x0 x1 y0 y1 z:Code}{t:Operand}{l:Nat}{aZ:List AV}{r:AV}{hh:List (Nat×AO)}(hf:P.funcs[f]? =some fn)(hn:(fn.name== "runtime.NumGoroutine")=false)
  (hb:fn.body=some (.seq p0 (.scope (.seq p1 (.seq p2 (.seq (.label l) (.seq (.seq x0 (.seq x1 (.cond t (.seq y0 (.seq y1 (.goto l))) .skip))) z)))))))(hsz:Nat.ble aZ.length fn.ntmps=true)
  (hl:findLabel (.seq p1 (.seq p2 (.seq (.label l) (.seq (.seq x0 (.seq x1 (.cond t (.seq y0 (.seq y1 (.goto l))) .skip))) z)))) l=some (.seq .skip (.seq (.seq x0 (.seq x1 (.cond t (.seq y0 (.seq y1 (.goto l))) .skip))) z)))
  (h:lD P L (BG P L 8) fn.ntmps lv p0 (kQ λ st=>lD P L (BG P L 8) fn.ntmps lv p1 (kQ λ st=>lD P L (BG P L 8) fn.ntmps lv p2 (kQ λ st=>afk P L (BG P L 8) fn.ntmps lv t x0 x1 y0 y1 z (Us L fn r hh) st) st) st) (start aZ)):aH P f aZ r hh:=by
 refine UU hL hf hn hb hsz λ g E ρ a w hq R=>?_;have hW:=dM hL 8;let J:Act->World->Nat->Prop:=JN P L (BG P L 8) g fn.ntmps lv [] t x0 x1 y0 y1 z (Us L fn r hh);refine CQ hL hW R h λ ρ a w st R h=>?_;refine wp_scope_jumps l (λ a w=> ∃n,J a w n) (λ a w=>least (J a w)) hl ?_ ?_;all_goals
  have body:∀(J':Act->World->Prop)(X:Type)(S:X->AS)(m:X->Nat)(i:X)(ρ:Nat->Value)(a:Act)(w:World),(∀a w n,n<m i->J a w n->J' a w)->(∀i,lD P L (BG P L 8) fn.ntmps lv x0 (kQ λ st=>lD P L (BG P L 8) fn.ntmps lv x1 (kQ λ st=>match st.ev t with
    | .v (.bool b)=>(match b with
      |true=>lD P L (BG P L 8) fn.ntmps lv y0 (kQ λ st=>lD P L (BG P L 8) fn.ntmps lv y1 (kQ λ st=> ∃j σ,dO σ st (S j)/\m j<m i) st) st
      |false=>lD P L (BG P L 8) fn.ntmps lv z (Us L fn r hh) st)
    |_=>False) st) (S i))->Rel g fn.ntmps [] ρ a w (S i)->(Code.seq (.seq x0 (.seq x1 (.cond t (.seq y0 (.seq y1 (.goto l))) .skip))) z).wp P (Exit.jump l J' E) a w:=by
   intro J' X S m i ρ a w hJ hb R;refine wp_seq ?_;refine CQ hL hW R (hb i) λ ρ a w st R h=>?_;refine CQ hL hW R h λ ρ a w st R h=>?_;split at h
   ·rename_i b et;have hc:=R.ev t;rw[et]at hc;have hc:=C2.dD hc;cases b with
    |true=>
     refine wp_cond_true hc ?_;refine CQ hL hW R h λ ρ a w st R h=>?_;refine CQ hL hW R h λ ρ a w st R h=>?_;obtain⟨j,σ,hle,hlt⟩:=h;obtain⟨ρ',R'⟩:=R.OD hle;exact wp_goto ⟨rfl,hJ a w (m j) hlt ⟨X,S,m,j,ρ',hb,R',rfl⟩⟩
    |false=>
     refine wp_cond_false hc (wp_skip ?_);exact oM hL hW lv z (Q:=Us L fn r hh) (E:=Exit.jump l J' E) ⟨λ ρ a w st R h=>hq.1 ρ a w st R h,λ i ρ a w st R h=>hq.2.1 i ρ a w st R h,λ ρ a w st R h=>hq.2.2 ρ a w st R h⟩ R h
   ·exact h.elim
 ·refine CQ hL hW R h λ ρ a w st R h=>?_;refine CQ hL hW R h λ ρ a w st R h=>?_;refine wp_seq (wp_label ?_);cases h with
  |mk X S m i0 σ h0 hb=>
   obtain⟨ρ',R'⟩:=R.OD h0;exact body _ X S m i0 ρ' a w (λ a w n _ hj=>⟨n,hj⟩) hb R'
 ·intro a w hJ;obtain⟨X,S,m,i,ρ,hb,R,hm⟩:=JX hJ;refine wp_seq (wp_skip ?_);refine body _ X S m i ρ a w (λ a' w' n hlt hj=>⟨⟨n,hj⟩, ?_⟩) hb R;have:=least_le hj;show least (J a' w')<least (J a w);omega
end
theorem PD(w:World):(callFunc 223 #[]).run prog w= .ok (.value (.tuple #[])) w:=run_call_mark0 func223 (by kernel_rfl) (by kernel_rfl) (by kernel_rfl) .disable (by kernel_rfl) w
theorem VE(w:World):(callFunc 225 #[]).run prog w= .ok (.value (.tuple #[])) w:=run_call_mark0 func225 (by kernel_rfl) (by kernel_rfl) (by kernel_rfl) .enable (by kernel_rfl) w
theorem abM(a:Addr)(w:World):(callFunc 226 #[.pointer (some a)]).run prog w= .ok (.value (.tuple #[])) w:=run_call_marked func226 (by kernel_rfl) (by kernel_rfl) (by kernel_rfl) .acquire (by kernel_rfl) a w
theorem abN(a:Addr)(w:World):(callFunc 228 #[.pointer (some a)]).run prog w= .ok (.value (.tuple #[])) w:=run_call_marked func228 (by kernel_rfl) (by kernel_rfl) (by kernel_rfl) .releaseMerge (by kernel_rfl) a w
theorem aiz(a:Addr)(x:Value)(u:FrameMode)(w:World)(hc:w.cell? a=some x)(hz:w.frozen? a=false):
  CallsD prog 202 #[.pointer (some a),.bool true] u w λ e u' w'=>u'=u/\(e= .returned (.tuple #[])/\w'=w.drew.setCell a (.int .u32 1)):=by
 have hc':w.drew.cell? a=some x:=by go_simp
 have hz':w.drew.frozen? a=false:=by go_simp
 have hst:=run_call_store (P:=prog) func216 (by kernel_rfl) (by kernel_rfl) (by kernel_rfl) (by kernel_rfl) (k:= .u32) (y:=1) hc' hz';go_enter_d func202,Tryz.ntmps202;go_wp2;go_region_calls;all_goals(go_end0;exact⟨rfl,rfl⟩)
theorem afl(a:Addr)(u:FrameMode)(w:World)(hc:w.cell? a=some (.int .i32 1))(hz:w.frozen? a=false):
  CallsD prog 201 #[.pointer (some a)] u w λ e u' w'=>u'=u/\(e= .returned (.tuple #[])/\w'=w.setCell a (.int .i32 0)):=by
 have hd:=PD;have he:=VE;have hr:=abN;have hadd:=run_call_add (P:=prog) func229 (by kernel_rfl) (by kernel_rfl) (by kernel_rfl) .i32 (by kernel_rfl) (y:= -1) (s:=0) hc hz (by simp[go_sem];rfl);have hcv:=run_convert_to_unsafe (P:=prog) (src:=326) (dst:=330) Tryz.underlying326 Tryz.underlying330 (by kernel_rfl) hc;go_enter_d func201,Tryz.ntmps201;go_wp2;go_end0;go_wp2;all_goals(go_end0;exact⟨rfl,rfl⟩)
theorem ak2(a:Addr)(w:World)(hc:w.cell? a=some (.int .i32 0))(hz:w.frozen? a=false):
  Calls prog 200 #[.pointer (some a)] w λ e w'=>e= .returned (.tuple #[])/\w'=w.setCell a (.int .i32 1):=by
 have hd:=PD;have he:=VE;have ha:=abM;have hcas:=run_call_cas_hit (P:=prog) func224 (by kernel_rfl) (by kernel_rfl) (by kernel_rfl) .i32 (by kernel_rfl) (y:=1) hc hz;have hc':(w.setCell a (.int .i32 1)).cell? a=some (.int .i32 1):=World.cell?_setCell_same w a _ hc;have hcv:=run_convert_to_unsafe (P:=prog) (src:=326) (dst:=330) Tryz.underlying326 Tryz.underlying330 (by kernel_rfl) hc';go_enter func200,Tryz.ntmps200;go_wp2;first|go_end0|(simp only[Exit.inBlock,Exit.then];refine bodyPost_ret (results_none rfl _ _ _) rfl ?_)|refine bodyPost_ret (results_none rfl _ _ _) rfl ?_
 go_wp2
 all_goals(go_end0;exact⟨rfl,rfl⟩)
theorem Yz(a:Addr)(x:Int)(w:World)(hc:w.cell? a=some (.int .u32 x)):
  Calls prog 164 #[.pointer (some a)] w λ e w'=>e= .returned (.bool (x !=0))/\w'=w:=by
 have hl:=run_call_load (P:=prog) func199 (by kernel_rfl) (by kernel_rfl) (by kernel_rfl) .u32 (by kernel_rfl) (w:=w) (a:=a) (x:=x) hc;go_enter func164,Tryz.ntmps164;go_wp2;go_ret;exact⟨rfl,rfl⟩
theorem ak3(b off:Nat)(caps:Array Value)(w:World)(Φ:World->Prop)
  (h0:w.cell? ⟨b,off,none⟩=some (.int .u32 0))(h1:w.cell? ⟨b,off+1,none⟩=some (.int .i32 0))
  (f1:w.frozen? ⟨b,off+1,none⟩=false)
  (hcl:Calls prog 133 caps (w.setCell ⟨b,off+1,none⟩ (.int .i32 1)) λ e w1=>e= .returned (.tuple #[])/\Φ w1)
  (hΦ:∀w1,Φ w1->w1.cell? ⟨b,off,none⟩=some (.int .u32 0)/\w1.cell? ⟨b,off+1,none⟩=some (.int .i32 1)/\w1.frozen? ⟨b,off,none⟩=false/\w1.frozen? ⟨b,off+1,none⟩=false):
  Calls prog 165 #[.pointer (some ⟨b,off,none⟩),.func (.func 133) #[] caps] w λ e w'=>e= .returned (.tuple #[])/\
   ∃w1,Φ w1/\w'=(w1.drew.setCell ⟨b,off,none⟩ (.int .u32 1)).setCell ⟨b,off+1,none⟩ (.int .i32 0):=by
 have g0':(w.setCell ⟨b,off+1,none⟩ (.int .i32 1)).cell? ⟨b,off,none⟩=some (.int .u32 0):=(World.cell?_setCell_other _ ⟨b,off+1,none⟩ ⟨b,off,none⟩ _ s_).trans h0;have hnot:∀(x:Bool)(w:World),(Op.unary .not (.bool x)).run prog w= .ok (.bool (!x)) w:=λ _ _=>rfl;go_enter_defers func165,Tryz.ntmps165;go_wp2_with (first|(go_at_call 200;refine(ak2 ⟨b,off+1,none⟩ _ (by go_simp) (by go_simp)).mono ?_;rintro e w' ⟨rfl,rfl⟩)|(go_at_call 164;refine(Yz ⟨b,off,none⟩ 0 _ g0').mono ?_;rintro e w' ⟨rfl,rfl⟩)|(go_at_call 133;refine hcl.mono ?_;rintro e w1 ⟨rfl,hw1⟩));obtain⟨g0,g1,z0,z1⟩:=hΦ _ hw1;refine leaves_cons (f:=202) (args:= #[.pointer (some ⟨b,off,none⟩),.bool true]) s_ (by simp[go_sem]) ?_;refine(aiz ⟨b,off,none⟩ (.int .u32 0) .returning _ g0 z0).mono ?_;rintro e u' w'' ⟨rfl,rfl,rfl⟩;refine leaves_cons (f:=201) (args:= #[.pointer (some ⟨b,off+1,none⟩)]) (by simp[settle]) (by simp[go_sem]) ?_;refine(afl ⟨b,off+1,none⟩ _ _ ?_ (by simp[z1])).mono ?_
 ·refine(World.cell?_setCell_other _ ⟨b,off,none⟩ ⟨b,off+1,none⟩ _ s_).trans ?_;rw[World.cell?_drew];exact g1
 rintro e u' w'' ⟨rfl,rfl,rfl⟩;simp[Leaves,settle,results,Tryz.results165];exact⟨w1,hw1,rfl⟩
theorem aiA(b off:Nat)(caps:Array Value)(w:World)(Φ:World->Prop)
  (h0:w.cell? ⟨b,off,none⟩=some (.int .u32 0))(h1:w.cell? ⟨b,off+1,none⟩=some (.int .i32 0))
  (f1:w.frozen? ⟨b,off+1,none⟩=false)
  (hcl:Calls prog 133 caps (w.setCell ⟨b,off+1,none⟩ (.int .i32 1)) λ e w1=>e= .returned (.tuple #[])/\Φ w1)
  (hΦ:∀w1,Φ w1->w1.cell? ⟨b,off,none⟩=some (.int .u32 0)/\w1.cell? ⟨b,off+1,none⟩=some (.int .i32 1)/\w1.frozen? ⟨b,off,none⟩=false/\w1.frozen? ⟨b,off+1,none⟩=false):
  Calls prog 132 #[.pointer (some ⟨b,off,none⟩),.func (.func 133) #[] caps] w λ e w'=>e= .returned (.tuple #[])/\
   ∃w1,Φ w1/\w'=(w1.drew.setCell ⟨b,off,none⟩ (.int .u32 1)).setCell ⟨b,off+1,none⟩ (.int .i32 0):=by
 have hnot:∀(x:Bool)(w:World),(Op.unary .not (.bool x)).run prog w= .ok (.bool (!x)) w:=λ _ _=>rfl;go_enter func132,Tryz.ntmps132;go_wp2_with (first|(go_at_call 164;refine(Yz ⟨b,off,none⟩ 0 _ h0).mono ?_;rintro e w' ⟨rfl,rfl⟩)|(go_at_call 165;refine(ak3 b off caps _ Φ h0 h1 f1 hcl hΦ).mono ?_;rintro e w1 ⟨rfl,hw1⟩));go_end0;exact⟨rfl,hw1⟩
theorem ak4(a:Addr)(g:Value)(w:World)(h0:w.cell? a=some (.int .u32 1)):
  Calls prog 132 #[.pointer (some a),g] w λ e w'=>e= .returned (.tuple #[])/\w'=w:=by
 have hnot:∀(x:Bool)(w:World),(Op.unary .not (.bool x)).run prog w= .ok (.bool (!x)) w:=λ _ _=>rfl;go_enter func132,Tryz.ntmps132;go_wp2_with (first|(go_at_call 164;refine(Yz a 1 _ h0).mono ?_;rintro e w' ⟨rfl,rfl⟩));go_end0;exact⟨rfl,rfl⟩
theorem amq(a:Addr)(x y z:Int)(w:World)(hc:w.cell? a=some (.int .i64 x))(hz:w.frozen? a=false)(hs:(Op.intArith .add .i64 x y).run prog w= .ok (.int .i64 z) w):
  Calls prog 135 #[.pointer (some a),.int .i64 y] w λ e w'=>e= .returned (.int .i64 z)/\w'=w.setCell a (.int .i64 z):=by
 have hadd:=run_call_add (P:=prog) func172 (by kernel_rfl) (by kernel_rfl) (by kernel_rfl) .i64 (by kernel_rfl) (y:=y) (s:=z) hc hz hs;go_enter func135,Tryz.ntmps135;go_wp2;go_ret;exact⟨rfl,rfl⟩
theorem zQ{b:Nat}(v:Value)(hh:w.heap[b]? =some (.cells us.toArray t (0,0))):
  (w.setCell ⟨b,i,none⟩ v).heap[b]? =some (.cells (us.set i v).toArray t (0,0))/\(∀k,k≠b->(w.setCell ⟨b,i,none⟩ v).heap[k]? =w.heap[k]?)/\(w.setCell ⟨b,i,none⟩ v).heap.size=w.heap.size/\
   (w.setCell ⟨b,i,none⟩ v).os=w.os/\(w.setCell ⟨b,i,none⟩ v).tape=w.tape/\(w.setCell ⟨b,i,none⟩ v).output=w.output:=by
 refine⟨?_,λ k hk=>Below.heap_setCell _ _ _ _ hk,s_,rfl,rfl,rfl⟩;rw[heap_setCell_same w b i _ t v hh];simp
theorem oV{b:Nat}(hh:w.heap[b]? =some (.cells us.toArray t (0,0))):w.cell? ⟨b,i,none⟩=us[i]? /\w.frozen? ⟨b,i,none⟩=false:=by
 constructor
 ·simp[World.cell?,hh]
 ·simp[World.frozen?,hh]
theorem aG.at{R:AV->Value->Prop}(h:aG R cs us){x:AV}(hx:cs[i]? =some x):∃u,us[i]? =some u/\R x u:=h.get hx
theorem aj.cell{off:Nat}(hE:Enters P f)(hx:cs[off]? =some (.v x))
  (h:∀(b:Nat)(w:World),w.cell? ⟨b,off,none⟩=some x->w.frozen? ⟨b,off,none⟩=false->Calls P f (.pointer (some ⟨b,off,none⟩)::xs).toArray w λ e w'=>e= .returned r/\w'=w.setCell ⟨b,off,none⟩ y):
  aj P f [(0,.box t cs)] (.box 0 off::xs.map .v) (.v r) [(0,.box t (cs.set off (.v y)))]:=by
 refine⟨hE,λ w keep ρ args hk jo hnd hbl hargs=>?_⟩;obtain⟨b,us,e,hh,ha⟩:=jo _ (aoo.2 rfl);have e:ρ 0=_:=e;have hh:w.heap[b]? =_:=hh;cases args with
 |nil=>have:=hargs.1;simp at this
 |cons a0 tl=>
  obtain⟨b0,hb0,ea⟩:∃b0,dJ (ρ 0)= .pointer (some ⟨b0,0,none⟩)/\a0= .pointer (some ⟨b0,off,none⟩):=hargs.2 0 _ _ rfl rfl;rw[e]at hb0;cases hb0;subst ea;have hxs:tl=xs:=CO.AL (X:=⟨w,keep,ρ⟩) ⟨by simpa using hargs.1,λ i x u hx hu=>hargs.2 (i+1) x u (by simpa using hx) (by simpa using hu)⟩;subst hxs;obtain⟨u,hu,hxu⟩:=ha.get hx;have hxu:u=x:=hxu;subst hxu;obtain⟨g1,g2⟩:=oV (i:=off) hh;refine(h b w (g1.trans hu) g2).mono ?_;rintro e0 w' ⟨rfl,rfl⟩;obtain⟨s1,s2,s3,s4,s5,s6⟩:=zQ (i:=off) y hh;have hb:ah ρ [(0,.box t cs)]=[b]:=by rw[uZ,e];rfl
  have hb':ah ρ [(0,.box t (cs.set off (.v y)))]=[b]:=by rw[uZ,e];rfl
  have hkk:∀q,keep q->aJ (dX w keep (λ b=>b∈ah ρ [(0,.box t cs)])) (w.setCell ⟨b,off,none⟩ y) ρ [(0,.box t (cs.set off (.v y)))] q:=λ q hq=>
   ⟨by rw[s3];exact hk q hq,λ _=> .inl hq,λ h=>(hbl q (by rw[hb];rw[hb']at h;exact h)).2 hq⟩
  have hne:∀q,keep q->q≠b:=λ q hq e=>(hbl q (by rw[hb,e];exact aol)).2 hq;refine⟨_,ρ,rfl,⟨s4,s5,s6,by rw[s3];exact aoH _,λ k hk hM=>s2 k λ e=>hM (by rw[hb,e];exact aol)⟩,λ _ _ _ _ _=> .refl _,rfl,λ p hp=>?_,by rw[hb'];simp,λ q hq=> .inr (by rw[hb];rw[hb']at hq;exact hq)⟩;obtain rfl:=aoo.1 hp;refine⟨b,us.set off y,e,s1, ?_⟩;exact(ha.imp λ _ _=>C0.same (X:=⟨w,keep,ρ⟩) (Y:=aC (dX w keep (λ b=>b∈ah ρ [(0,.box t cs)])) (w.setCell ⟨b,off,none⟩ y) ρ [(0,.box t (cs.set off (.v y)))]) hkk (λ q hq=>s2 q (hne q hq)) rfl).set off rfl
theorem bZ.cell{aZ:List AV}(id off:Nat)(hE:Enters P f)(hf:aK id st.heap=some (.box t cs))(hx:cs[off]? =some (.v x))(ha:aZ= .box id off::xs.map .v)
  (h:∀(b:Nat)(w:World),w.cell? ⟨b,off,none⟩=some x->w.frozen? ⟨b,off,none⟩=false->Calls P f (.pointer (some ⟨b,off,none⟩)::xs).toArray w λ e w'=>e= .returned r/\w'=w.setCell ⟨b,off,none⟩ y)
  (hK:K (.v r) ⟨st.sl,setObj id (.box t (cs.set off (.v y))) st.heap,st.back,st.base⟩):bZ P L W d f aZ st K:=by
 refine .sem hE λ g N bs ρ a w args R hargs=>?_;subst ha;obtain⟨b,us,e,hh,hc⟩:=R.objs _ (aA hf);have e:ρ id=_:=e;have hh:w.heap[b]? =_:=hh;cases args with
 |nil=>have:=hargs.1;simp at this
 |cons a0 tl=>
  obtain⟨b0,hb0,ea⟩:∃b0,dJ (ρ id)= .pointer (some ⟨b0,0,none⟩)/\a0= .pointer (some ⟨b0,off,none⟩):=hargs.2 0 _ _ rfl rfl;rw[e]at hb0;cases hb0;subst ea;have hxs:tl=xs:=by
   refine CO.AL (X:=aC g w ρ st.heap) ⟨by simpa using hargs.1,λ i x u hx hu=>?_⟩;rw[ao0]at hx;cases hq:xs[i]? with
   |none=>rw[hq]at hx;cases hx
   |some q=>
    rw[hq]at hx;cases hx;exact hargs.2 (i+1) (.v q) u (by simp[hq]) (by simpa using hu)
  subst hxs;obtain⟨u,hu,hxu⟩:=hc.get hx;have hxu:u=x:=hxu;subst hxu;obtain⟨g1,g2⟩:=oV (i:=off) hh;refine(h b w (g1.trans hu) g2).mono ?_;rintro e0 w' ⟨rfl,rfl⟩;obtain⟨s1,s2,s3,s4,s5,s6⟩:=zQ (i:=off) y hh;refine⟨_,_,_,ρ,rfl,hK,R.write hf (b:=b) (by rw[e];exact aol) ⟨s4,s5,s6,by rw[s3];exact aoH _,λ k hk=>s2 k o_⟩ s3 s2 (λ hk hm=>?_),rfl⟩;exact⟨b,us.set off y,e,s1,(hc.imp λ _ _=>C0.same (X:=aC g w ρ st.heap) (Y:=aC g (w.setCell ⟨b,off,none⟩ y) ρ (setObj id (.box t (cs.set off (.v y))) st.heap)) hk hm rfl).set off rfl⟩
theorem bZ.done{g:AV}(id:Nat)(hf:aK id st.heap=some (.box t cs))(hx:cs[0]? =some (.v (.int .u32 1)))(hK:K (.bI []) st):bZ prog L W d 132 [.box id 0,g] st K:=by
 refine .sem ⟨_,_,func132,rfl,rfl⟩ λ G N bs ρ a w args R hargs=>?_;obtain⟨b,us,e,hh,hc⟩:=R.objs _ (aA hf);have e:ρ id=_:=e;have hh:w.heap[b]? =_:=hh;obtain⟨a0,a1,rfl,h0,h1⟩:=nC hargs;obtain⟨b0,hb0,rfl⟩:∃b0,dJ (ρ id)= .pointer (some ⟨b0,0,none⟩)/\a0= .pointer (some ⟨b0,0,none⟩):=h0;rw[e]at hb0;cases hb0;obtain⟨u,hu,hxu⟩:=hc.get hx;have hxu:u=_:=hxu;subst hxu;obtain⟨g1,g2⟩:=oV (i:=0) hh;refine(ak4 ⟨b,0,none⟩ a1 w (g1.trans hu)).mono ?_;rintro e0 w' ⟨rfl,rfl⟩;exact⟨_,_,_,ρ,rfl,hK,R,[],rfl,aG.nil⟩
theorem afm{x y:Int}(h1: -9223372036854775808<=x+y)(h2:x+y<=9223372036854775807)(w:World):(Op.intArith .add .i64 x y).run prog w= .ok (.int .i64 (x+y)) w:=by
 have:IntKind.i64.wrap (x+y)=x+y:=by
  simp only[IntKind.wrap,IntKind.signed,IntKind.bits];simp;omega
 simp[Op.intArith,this]
theorem bZ.add(id off:Nat){x y:Int}(hf:aK id st.heap=some (.box t cs))(hx:cs[off]? =some (.v (.int .i64 x)))(h1: -9223372036854775808<=x+y)(h2:x+y<=9223372036854775807)
  (hK:K (.v (.int .i64 (x+y))) ⟨st.sl,setObj id (.box t (cs.set off (.v (.int .i64 (x+y))))) st.heap,st.back,st.base⟩):bZ prog L W d 135 [.box id off,.v (.int .i64 y)] st K:=
 bZ.cell (xs:=[.int .i64 y]) id off ⟨_,_,func135,rfl,rfl⟩ hf hx rfl (λ b w hc hz=>amq ⟨b,off,none⟩ x y (x+y) w hc hz (afm h1 h2 w)) hK
theorem aiB(t t1:TypeId)(rest rest':List AV)(c:List AV)(ho:List (Nat×AO))
  (hcl:aj prog 133 [(0,.box t (.v (.int .u32 0):: .v (.int .i32 1)::rest)),(1,.box t1 c)] [.box 1 0] (.bI []) ((0,.box t (.v (.int .u32 0):: .v (.int .i32 1)::rest'))::ho))(hne:bP 0 ho=false):
  aj prog 132 [(0,.box t (.v (.int .u32 0):: .v (.int .i32 0)::rest)),(1,.box t1 c)] [.box 0 0,.fn 133 [.box 1 0]] (.bI []) ((0,.box t (.v (.int .u32 1):: .v (.int .i32 0)::rest'))::ho):=by
 refine⟨⟨_,_,func132,rfl,rfl⟩,λ w keep ρ args hk jo hnd hbl hargs=>?_⟩;obtain⟨b,us,e,hh,ha⟩:=jo _ aol;have e:ρ 0=_:=e;have hh:w.heap[b]? =_:=hh;have ha:aG (C0 ⟨w,keep,ρ⟩) _ us:=ha;obtain⟨a0,a1,rfl,h0,h1⟩:=nC hargs;obtain⟨b0,hb0,rfl⟩:∃b0,dJ (ρ 0)= .pointer (some ⟨b0,0,none⟩)/\a0= .pointer (some ⟨b0,0,none⟩):=h0;rw[e]at hb0;cases hb0;obtain⟨cs,rfl,hcs⟩:∃us:List Value,a1= .func (.func 133) #[] us.toArray/\aG (C0 ⟨w,keep,ρ⟩) [.box 1 0] us:=h1;obtain⟨u0,hu0,hx0⟩:=ha.get (i:=0) rfl;obtain⟨u1,hu1,hx1⟩:=ha.get (i:=1) rfl;have hx0:u0=_:=hx0;have hx1:u1=_:=hx1;subst hx0 hx1;obtain⟨g0,z0⟩:=oV (i:=0) hh;obtain⟨g1,z1⟩:=oV (i:=1) hh;obtain⟨s1,s2,s3,s4,s5,s6⟩:=zQ (i:=1) (.int .i32 1) hh;let w2:=w.setCell ⟨b,1,none⟩ (.int .i32 1);let hin:List (Nat×AO):=[(0,.box t (.v (.int .u32 0):: .v (.int .i32 0)::rest)),(1,.box t1 c)];let hin':List (Nat×AO):=[(0,.box t (.v (.int .u32 0):: .v (.int .i32 1)::rest)),(1,.box t1 c)];have hbe:ah ρ hin'=ah ρ hin:=rfl;have BH:b∈ah ρ hin:=aQ.2 ⟨_,aol,by show b∈blks (ρ 0);rw[e];exact aol⟩;have hne':∀q,keep q->q≠b:=λ q hq e=>(hbl q (by rw[e];exact BH)).2 hq;have hsame:∀q,keep q->w2.heap[q]? =w.heap[q]? :=λ q hq=>s2 q (hne' q hq);have hob:∀p∈hin',aT ⟨w2,keep,ρ⟩ p.1 p.2:=by
  intro p hp;rcases aot.1 hp with rfl|hp
  ·exact⟨b,us.set 1 (.int .i32 1),e,s1,(ha.imp λ _ _=>C0.same (X:=⟨w,keep,ρ⟩) (Y:=⟨w2,keep,ρ⟩) (λ _ h=>h) hsame rfl).set 1 (x:= .v (.int .i32 1)) rfl⟩
  ·obtain rfl:=aoo.1 hp;refine aT.same (X:=⟨w,keep,ρ⟩) (Y:=⟨w2,keep,ρ⟩) (λ _ h=>h) hsame rfl (λ q hq=>s2 q ?_) (jo _ (aoq _ hp));rintro rfl;have:(0:Nat)=1:=fQ hnd (0,.box t (.v (.int .u32 0):: .v (.int .i32 0)::rest)) aol (1,.box t1 c) (aoq _ hp) (by show q∈blks (ρ 0);rw[e];exact aol) hq;omega
 have hcall:=hcl.2 w2 keep ρ cs (λ q hq=>by rw[s3];exact hk q hq) hob hnd (λ q hq=>⟨by rw[s3];exact(hbl q hq).1,(hbl q hq).2⟩) (hcs.imp λ x u h=>C1.vG (C0.same (X:=⟨w,keep,ρ⟩) (Y:=⟨w2,keep,ρ⟩) (λ _ h=>h) hsame rfl h));let sS:List (Nat×AO):=(0,.box t (.v (.int .u32 0):: .v (.int .i32 1)::rest'))::ho;let hout:List (Nat×AO):=(0,.box t (.v (.int .u32 1):: .v (.int .i32 0)::rest'))::ho;refine(aiA b 0 cs.toArray w (λ w1=> ∃ρ',dL (λ q=>q∈ah ρ hin) w2.heap.size w2 w1/\(∀p∈hin',∀q∈sS,q.1=p.1->DK (ρ' p.1) (ρ p.1))/\(∀p∈sS,aT (aC (dX w2 keep (λ q=>q∈ah ρ hin)) w1 ρ' sS) p.1 p.2)/\(ah ρ' sS).Nodup/\ ∀q∈ah ρ' sS,w2.heap.size<=q\/q∈ah ρ hin)
  (g0.trans hu0) (g1.trans hu1) z1 (hcall.mono ?_) ?_).mono ?_
 ·rintro e0 w1 ⟨u,ρ',rfl,a1,a2,a3,a4,a5,a6⟩;obtain⟨vs,rfl,hvs⟩:∃us:List Value,u= .tuple us.toArray/\aG _ [] us:=a3;have:vs=[]:=aoz hvs.1.symm;subst this;exact⟨rfl,ρ',a1,a2,a4,a5,a6⟩
 ·rintro w1 ⟨ρ',a1,a2,a4,a5,a6⟩;obtain⟨b1,vs,e1,hh1,ha1⟩:=a4 _ aol;have e1:ρ' 0=_:=e1;have hh1:w1.heap[b1]? =_:=hh1;have h01:=a2 (0,.box t (.v (.int .u32 0):: .v (.int .i32 1)::rest)) aol (0,.box t (.v (.int .u32 0):: .v (.int .i32 1)::rest')) aol rfl;have h01:=h01.hd;dsimp only at h01;rw[e1,e]at h01;cases h01;obtain⟨v0,hv0,hx0⟩:=ha1.get (i:=0) rfl;obtain⟨v1,hv1,hx1⟩:=ha1.get (i:=1) rfl;have hx0:v0=_:=hx0;have hx1:v1=_:=hx1;subst hx0 hx1;obtain⟨q0,y0⟩:=oV (i:=0) hh1;obtain⟨q1,y1⟩:=oV (i:=1) hh1;exact⟨q0.trans hv0,q1.trans hv1,y0,y1⟩
 ·rintro e0 w' ⟨rfl,w1,⟨ρ',a1,a2,a4,a5,a6⟩,rfl⟩;obtain⟨b1,vs,e1,hh1,ha1⟩:=a4 _ aol;have e1:ρ' 0=_:=e1;have hh1:w1.heap[b1]? =_:=hh1;have ha1:aG (C0 (aC (dX w2 keep (λ q=>q∈ah ρ hin)) w1 ρ' sS)) _ vs:=ha1;have h01:=a2 (0,.box t (.v (.int .u32 0):: .v (.int .i32 1)::rest)) aol (0,.box t (.v (.int .u32 0):: .v (.int .i32 1)::rest')) aol rfl;have h01:=h01.hd;dsimp only at h01;rw[e1,e]at h01;cases h01;have anz:w1.drew.heap[b]? =_:=hh1;obtain⟨p1,p2,p3,p4,p5,p6⟩:=zQ (i:=0) (.int .u32 1) anz;obtain⟨r1,r2,r3,r4,r5,r6⟩:=zQ (i:=1) (.int .i32 0) p1;let w3:=(w1.drew.setCell ⟨b,0,none⟩ (.int .u32 1)).setCell ⟨b,1,none⟩ (.int .i32 0);have hoth:∀k,k≠b->w3.heap[k]? =w1.heap[k]? :=λ k hk=>(r2 k hk).trans (p2 k hk);have hsz:w3.heap.size=w1.heap.size:=r3.trans p3;have an3:ah ρ' hout=ah ρ' sS:=rfl;have hbo:b∈ah ρ' sS:=aQ.2 ⟨_,aol,by show b∈blks (ρ' 0);rw[e1];exact aol⟩;have hkk:∀q,aJ (dX w2 keep (λ q=>q∈ah ρ hin)) w1 ρ' sS q->aJ (dX w keep (λ q=>q∈ah ρ hin)) w3 ρ' hout q:=by
   rintro q ⟨k1,k2,k3⟩;exact⟨by rw[hsz];exact k1,λ hlt=>k2 (by show q<w2.heap.size;rw[s3];exact hlt),k3⟩
  have hmm:∀q,aJ (dX w2 keep (λ q=>q∈ah ρ hin)) w1 ρ' sS q->w3.heap[q]? =w1.heap[q]? :=λ q hq=>hoth q λ e=>hq.2.2 (by rw[e];exact hbo);have hw2:w2.heap.size=w.heap.size:=s3;refine⟨_,ρ',rfl,⟨?_, ?_, ?_, ?_,λ k hk hM=>?_⟩, ?_,⟨[],rfl,aG.nil⟩,λ p hp=>?_,a5,λ q hq=>by rw[<-hw2];exact a6 q hq⟩
  ·exact(r4.trans p4).trans (a1.os.trans s4)
  ·exact(r5.trans p5).trans (a1.tape.trans s5)
  ·exact(r6.trans p6).trans (a1.output.trans s6)
  ·show w.heap.size<=w3.heap.size;rw[hsz,<-hw2];exact a1.size
  ·have hkb:k≠b:=λ e=>hM (by rw[e];exact BH);exact(hoth k hkb).trans ((a1.block k (by rw[hw2];exact hk) hM).trans (s2 k hkb))
  ·intro p hp q hq he;rcases aot.1 hp with rfl|hp
   ·exact a2 (0,.box t (.v (.int .u32 0):: .v (.int .i32 1)::rest)) aol (0,.box t (.v (.int .u32 0):: .v (.int .i32 1)::rest')) aol rfl
   ·rcases aot.1 hq with rfl|hq
    ·obtain rfl:=aoo.1 hp;cases he
    ·exact a2 p (aoq _ hp) q (aoq _ hq) he
  ·rcases aot.1 hp with rfl|hp
   ·refine⟨b,(vs.set 0 (.int .u32 1)).set 1 (.int .i32 0),e1,r1, ?_⟩;exact((ha1.imp λ _ _=>C0.same (X:=aC (dX w2 keep (λ q=>q∈ah ρ hin)) w1 ρ' sS) (Y:=aC (dX w keep (λ q=>q∈ah ρ hin)) w3 ρ' hout) hkk hmm rfl).set 0 (x:= .v (.int .u32 1)) rfl).set 1 (x:= .v (.int .i32 0)) rfl
   ·refine aT.same (X:=aC (dX w2 keep (λ q=>q∈ah ρ hin)) w1 ρ' sS) (Y:=aC (dX w keep (λ q=>q∈ah ρ hin)) w3 ρ' hout) hkk hmm rfl (λ q hq=>hoth q ?_) (a4 p (aoq _ hp));rintro rfl;have h0p:=fQ a5 (0,.box t (.v (.int .u32 0):: .v (.int .i32 1)::rest')) aol p (aoq _ hp) (by show q∈blks (ρ' 0);rw[e1];exact aol) hq;rw[bY.2 ⟨p,hp,h0p.symm⟩]at hne;cases hne
def KW(e a:Ev):Bool:=decide (a.k=1)&&aP a e
theorem iM(l:List Ev)(e:Ev)(hl:l.length<=140737488355328):
  aH prog 169 [.sl 12 l.length true (dI l),e.av] (.v (.bool (l.any (KW e)))) []:=by
 have hyes:∀j,j<l.length->(l.getD j default).k=1->aP (l.getD j default) e=true->l.any (KW e)=true:=λ j hj h1 h3=>RJ hj (by unfold KW;rw[h1,h3];simp);have hno:(∀i,i<l.length->KW e (l.getD i default)=false)->l.any (KW e)=false:=λ h=>any_none h;generalize l.any (KW e)=R at hyes hno;dsimp only[Ev.av];dsimp only[Ev.cs];refine K1.E 0x1b func169 ?_;repeat' ((conv=>whnf);first|refine K1.I 0x13 func192 ?_|refine K1.I 0x103b3 func213 ?_|fail)
 conv=>whnf
 refine aI.mk {j:Nat//j<=l.length/\ ∀i,i<j->KW e (l.getD i default)=false} (λ j=>⟨[(8,.v (.int .i64 (j.1:Int))),(7,.v (.int .i64 (l.length:Int))),(0,.sl 12 l.length true (dI l)),(1,.fn 203 [.box 0 0])],
   [(0,.box 83 e.cs)],[[],[]],1⟩) (λ j=>l.length-j.1) ⟨0,aoB _,λ i h=>absurd h (aoM i)⟩ _
  (dO.mkB [] _ _ _ rfl ⟨aY.int rfl,au,au,au,trivial⟩ ⟨ay rfl,trivial⟩ rfl) ?_
 rintro⟨j,hj,hall⟩;dsimp only;by_cases hjl:j<l.length
 ·have hbj:=xE (l.getD (j:Int).toNat default) e;have hyj:=hyes j hjl;rw[show j=(j:Int).toNat by omega]at hyj;have hnj:(decide ((l.getD (j:Int).toNat default).k=1)&&aP (l.getD (j:Int).toNat default) e)=false-> ∀i,i<j+1->KW e (l.getD i default)=false:=by
   intro h i hi;rcases aoP i j with h'|h'
   ·exact hall i h'
   ·obtain rfl:i=j:=o_
    rwa [show(i:Int).toNat=i by omega]at h
  dsimp only[Ev.av,Ev.cs]at hbj⊢;generalize aP (l.getD (j:Int).toNat default) e=q2 at hbj hyj hnj;repeat' ((conv=>whnf);first|refine K1.u ?_|refine K1.P1 hbj ?_|refine K1.I 0xf func203 ?_|refine aU.fF ?_|refine K1.y (λ _=>?_) (λ _=>?_)|fail)
  all_goals(conv=>whnf)
  all_goals first
   |(rw[hyj a_ a_];exact bn.mk (au))
   |exact⟨⟨j+1,o_,hnj (by first|(rw[decide_eq_false a_];rfl)|(rw[show q2=false by assumption];simp))⟩,_,dO.mk' [] _ _ _ rfl ⟨aY.int rfl,au,au,au,trivial⟩ ⟨ay rfl,trivial⟩ rfl,by show l.length-(j+1)<l.length-j;omega⟩
 ·have hR:R=false:=hno λ i hi=>hall i o_;repeat' ((conv=>whnf);first|refine K1.u ?_|refine aU.fF ?_|fail)
  all_goals(conv=>whnf)
  rw[hR];exact bn.mk (au)
end Go.Proofs.YtifjccndenojlaaGreat
