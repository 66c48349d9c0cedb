/-
  Contracts of the walk:Shape,TkLaw,TkLawB,TkLawC,TkLawD,AmG,LvK,LvN,LvA.
-/
import Derived.Test.YtkimgljckickcaaGreatRa9
import Derived.Test.YtkimgljckickcaaGreatRa2
import Derived.WalkSpells
import Derived.WalkLawsBesides
import Derived.Handy
import Derived.WideMake
import Derived.Lib.Hide
import Derived.Test.YtkimgljckickcaaGreatRa1
import Derived.Test.YtkimgljckickcaaGreatRa5
import Derived.ScopeJumps
import Derived.Test.YtkimgljckickcaaGreatRa12
import Derived.Tactics
import Derived.Tactics2
import Derived.Defers
import Derived.Laws.Pointers
import Derived.Laws.LoneSync
import Derived.RegionTactic
import Derived.RegionCalls
import Derived.Test.YtkimgljckickcaaGreatRa10
set_option maxHeartbeats 16000000
set_option maxRecDepth 100000
set_option linter.unusedVariables false
set_option linter.unusedSimpArgs false
namespace Go.Proofs.YtkimgljckickcaaGreat
open Go.RowKit
open Go.Proofs.Tryz
variable{st:AS}{K:AV->AS->Prop}{may:ByteArray->Int}{e:Ed}{f:FuncId}{R a c hi k lo o sz:Int}{L:Lay}{cs:List AV}{bs l:List UInt8}{us xs:List Value}{d i m n u:Nat}{P:Program}{s s':Sq}{t:TypeId}{b:UInt8}{r x y:Value}{W:Walk}{w:World}
def Gs(k:Int):Bool:=k==1||k==4
def Gt(k:Int):Bool:=k==2
def Gu(k:Int):Bool:=k==3||k==5
def shK(k:Int):Bool:=decide (1<=k/\k<=5)
def yU(e u c:Bool):Value:= .agg #[.bool e,.bool u,.bool c]
theorem agZ(w:World)(b:Nat)(es:Array MapEntry)(clock:Nat)(n:Int)(x:Value)(hb:w.heap[b]? =some (.map es clock))(hn:Instr.findNow (.int .i64) (.int .i64 n) es.toList 0=some none):
  (Instr.mapUpdate 300 (.map (some b)) (.int .i64 n) x).run prog w= .ok () {w with heap:=w.heap.setIfInBounds b (.map (es.push {key:= .int .i64 n,val:=x,born:=clock}) (clock+1))}:=by
 have hc:(Instr.checkKey false 10000 3 (.int .i64 n)).run prog w= .ok () w:=MapKept.run_checkKey (k:= .int .i64 n) Tryz.underlying3 (by simp[MapKept.IsKey]) false 9999;simp[Instr.mapUpdate,run_underlying Tryz.underlying300,anY hb,hc,MapKept.run_findKey Tryz.underlying3 hn,aoz _ hb,Result.andThen]
def valOf:Option (Nat×Value)->Value
 |some p=>p.2
 |none=>yU false false false
theorem adV(w:World)(b:Nat)(es:Array MapEntry)(clock:Nat)(n:Int)(r:Option (Nat×Value))(hb:w.heap[b]? =some (.map es clock))(hn:Instr.findNow (.int .i64) (.int .i64 n) es.toList 0=some r):
  (Instr.lookup 300 (.map (some b)) (.int .i64 n) true).run prog w= .ok (.tuple #[(valOf r),.bool r.isSome]) w:=by
 have hc:(Instr.checkKey es.isEmpty 10000 3 (.int .i64 n)).run prog w= .ok () w:=MapKept.run_checkKey (k:= .int .i64 n) Tryz.underlying3 (by simp[MapKept.IsKey]) _ 9999;have hz:(zeroValue 247).run prog w= .ok (yU false false false) w:=by kernel_rfl
 cases r with
 |none=>simp[Instr.lookup,run_underlying Tryz.underlying300,anY hb,hc,MapKept.run_findKey Tryz.underlying3 hn,hz,Result.andThen,valOf]
 |some p=>simp[Instr.lookup,run_underlying Tryz.underlying300,anY hb,hc,MapKept.run_findKey Tryz.underlying3 hn,Result.andThen,valOf]
def ent(n:Int)(e u c:Bool)(b:Nat):MapEntry:={key:= .int .i64 n,val:=yU e u c,born:=b}
def ents:List MapEntry:=[ent 1 true false false 0,ent 2 false true false 1,ent 3 false false true 2,ent 4 true false false 3,ent 5 false false true 4]
theorem aap(k:Int):∃r,Instr.findNow (.int .i64) (.int .i64 k) ents 0=some r/\(valOf r)=yU (Gs k) (Gt k) (Gu k)/\r.isSome=shK k:=by
 by_cases h:1<=k/\k<=5
 ·rcases(show k=1\/k=2\/k=3\/k=4\/k=5 by omega)with rfl|rfl|rfl|rfl|rfl<;>exact⟨_,rfl,rfl,rfl⟩
 ·refine⟨none, ?_, ?_, ?_⟩
  ·have h1:(k==1)=false:=by simp;omega
   have h2:(k==2)=false:=by simp;omega
   have h3:(k==3)=false:=by simp;omega
   have h4:(k==4)=false:=by simp;omega
   have h5:(k==5)=false:=by simp;omega
   simp[ents,ent,Instr.findNow,Instr.sameNow,h1,h2,h3,h4,h5]
  ·simp[valOf,yU,Gs,Gt,Gu];omega
  ·simp[shK];omega
theorem set_push(a:Array Obj)(o o':Obj):(a.push o).setIfInBounds a.size o'=a.push o':=by
 apply aoX;rw[Array.toList_setIfInBounds,Array.toList_push,Array.toList_push,<-anC,List.set_append_right _ _ (ani _),Nat.sub_self];rfl
theorem aaq(w:World)(o o':Obj):({(w.alloc o)with heap:=(w.alloc o).heap.setIfInBounds w.heap.size o'}:World)=w.alloc o':=by
 show({w with heap:=(w.heap.push o).setIfInBounds w.heap.size o'}:World)={w with heap:=w.heap.push o'};rw[set_push]
theorem vH(w:World)(b:Nat)(l:List MapEntry)(n:Int)(e u c:Bool)(hb:b=w.heap.size)(hn:Instr.findNow (.int .i64) (.int .i64 n) l 0=some none):
  (Instr.mapUpdate 300 (.map (some b)) (.int .i64 n) (.agg #[.bool e,.bool u,.bool c])).run prog (w.alloc (.map l.toArray l.length))= .ok () (w.alloc (.map (l++[ent n e u c l.length]).toArray (l.length+1))):=by
 subst hb;rw[agZ _ _ l.toArray l.length n _ (heap_alloc_new w _) (by simpa using hn),aaq];simp[ent,yU]
theorem aar(k:Int)(w:World):Calls prog 135 #[.int .i64 k] w λ e w'=>e= .returned (.tuple #[yU (Gs k) (Gt k) (Gu k),.bool (shK k)])/\Below w.heap.size w w':=by
 have hmm:= @run_makeMap prog;obtain⟨W1,hW⟩:∃W1,W1=w.alloc (.cells #[.bool false,.bool false,.bool false] 247):=⟨_,rfl⟩;have hs:w.heap.size+1=W1.heap.size:=by rw[hW];simp
 have h1:(Instr.mapUpdate 300 (.map (some (w.heap.size+1))) (.int .i64 1) (.agg #[.bool true,.bool false,.bool false])).run prog (W1.alloc (.map #[] 0))= .ok () (W1.alloc (.map #[ent 1 true false false 0] 1)):=vH W1 _ [] 1 true false false hs rfl;have h2:(Instr.mapUpdate 300 (.map (some (w.heap.size+1))) (.int .i64 2) (.agg #[.bool false,.bool true,.bool false])).run prog (W1.alloc (.map #[ent 1 true false false 0] 1))= .ok () (W1.alloc (.map #[ent 1 true false false 0,ent 2 false true false 1] 2)):=vH W1 _ [ent 1 true false false 0] 2 false true false hs rfl;have h3:(Instr.mapUpdate 300 (.map (some (w.heap.size+1))) (.int .i64 3) (.agg #[.bool false,.bool false,.bool true])).run prog (W1.alloc (.map #[ent 1 true false false 0,ent 2 false true false 1] 2))= .ok () (W1.alloc (.map #[ent 1 true false false 0,ent 2 false true false 1,ent 3 false false true 2] 3)):=vH W1 _ [ent 1 true false false 0,ent 2 false true false 1] 3 false false true hs rfl;have h4:(Instr.mapUpdate 300 (.map (some (w.heap.size+1))) (.int .i64 4) (.agg #[.bool true,.bool false,.bool false])).run prog (W1.alloc (.map #[ent 1 true false false 0,ent 2 false true false 1,ent 3 false false true 2] 3))= .ok () (W1.alloc (.map #[ent 1 true false false 0,ent 2 false true false 1,ent 3 false false true 2,ent 4 true false false 3] 4)):=vH W1 _ [ent 1 true false false 0,ent 2 false true false 1,ent 3 false false true 2] 4 true false false hs rfl;have h5:(Instr.mapUpdate 300 (.map (some (w.heap.size+1))) (.int .i64 5) (.agg #[.bool false,.bool false,.bool true])).run prog (W1.alloc (.map #[ent 1 true false false 0,ent 2 false true false 1,ent 3 false false true 2,ent 4 true false false 3] 4))= .ok () (W1.alloc (.map #[ent 1 true false false 0,ent 2 false true false 1,ent 3 false false true 2,ent 4 true false false 3,ent 5 false false true 4] 5)):=vH W1 _ [ent 1 true false false 0,ent 2 false true false 1,ent 3 false false true 2,ent 4 true false false 3] 5 false false true hs rfl;obtain⟨r,hr1,hr2,hr3⟩:=aap k;have hl:=adV (W1.alloc (.map ents.toArray 5)) (w.heap.size+1) ents.toArray 5 k r (by rw[hs];exact heap_alloc_new W1 _) (by simpa using hr1);rw[hr2,hr3]at hl;unfold ents at hl;rw[hW]at h1 h2 h3 h4 h5 hl;have H1:=aoL h1;have H2:=aoL h2;have H3:=aoL h3;have H4:=aoL h4;have H5:=aoL h5;have HL:=aoL hl;clear h1 h2 h3 h4 h5 hl hr1 hr2 hr3 hs hW;go_enter func135,Tryz.ntmps135;go_wp2;rw[H1.out];go_wp2;rw[H2.out];go_wp2;rw[H3.out];go_wp2;rw[H4.out];go_wp2;rw[H5.out];go_wp2;rw[HL.out];simp only[yU];go_wp2;go_returns;exact⟨rfl,by go_grown⟩
theorem lI(k:Int):aF prog 135 [.v (.int .i64 k)] (.aZ [.agg [.v (.bool (Gs k)),.v (.bool (Gt k)),.v (.bool (Gu k))],.v (.bool (shK k))]) []:=by
 refine⟨⟨_,_,func135,rfl,rfl⟩,λ w keep args _ hargs=>?_⟩;obtain⟨u,rfl,hu⟩:=qR hargs;have hu:u= .int .i64 k:=hu;subst hu;refine(aar k w).mono ?_;rintro e w' ⟨h1,h2⟩;exact⟨_,λ _=>undef,h1,h2,⟨[.agg #[.bool (Gs k),.bool (Gt k),.bool (Gu k)],.bool (shK k)],rfl,aC.cons ⟨[.bool (Gs k),.bool (Gt k),.bool (Gu k)],rfl,aC.cons rfl (aC.cons rfl (aC.cons rfl aC.nil))⟩ (aC.cons rfl aC.nil)⟩,(λ p hp=>by cases hp),by simp[ah],(λ b hb=>by simp[ah]at hb)⟩
theorem Ug(h:n<256):(UInt8.ofNat n).toNat=n:=by
 rw[aoE,aoP o_]
theorem aix{a:UInt8}(h:a.toNat=b.toNat):a=b:=UInt8.toNat_inj.1 h
theorem JI(t:List UInt8):∀(f i n acc:Nat),i+f=9->n*128^i<=4294967296->(0<i->n≠0)->n<128^(f+1)->
 fV ((fP f n++t).take (10-i)) i acc=(acc+n*128^i,i+(fP f n).length,0)
 |0,i,n,acc,hi,hn,h0,_=>by
  have:i=9:=o_
  subst this;exfalso;have:n=0\/1<=n:=o_
  rcases this with h|h
  ·exact h0 o_ h
  ·have h2:128^9=9223372036854775808:=d_
   rw[h2]at hn;omega
 |f+1,i,n,acc,hi,hn,h0,hlt=>by
  have h10:10-i=(10-(i+1))+1:=o_
  by_cases h:n<128
  ·simp only[fP,if_pos h,anJ,ano,h10,apm,fV,Ug (show n<256 by omega)];rw[if_neg o_,if_neg]
   ·simp
   ·rintro(⟨h1,h2⟩|⟨h1,h2⟩)
    ·exact h0 h1 h2
    ·omega
  ·have hq:n%128+128<256:=o_
   have e:n/128*128^(i+1)+n%128*128^i=n*128^i:=by
    rw[apf,Nat.mul_comm (128^i) 128,<-Nat.mul_assoc,<-aor];congr 1;omega
   have ih:=JI t f (i+1) (n/128) (acc+(n%128)*128^i) o_ o_ (λ _=>o_) (by
    rw[apf]at hlt;exact Nat.div_lt_of_lt_mul o_)
   simp only[fP,if_neg h,anJ,h10,apm,fV,Ug hq];rw[if_pos o_,show n%128+128-128=n%128 by omega,ih];simp only[anb,aot,and_true];exact⟨o_,o_⟩
theorem vI(n:Nat)(t:List UInt8)(h:n<=4294967296):bW (aK n++t)=(n,(aK n).length,0):=by
 have:=JI t 9 0 n 0 rfl (by simpa using h) (λ h=>absurd h o_) (by
  have:128^(9+1)=1180591620717411303424:=d_
  omega)
 simpa[bW,aK]using this
theorem NZ:∀(l:List UInt8)(i acc m k:Nat),i+l.length<=10->fV l i acc=(m,k,0)-> ∃n,m=acc+n*128^i/\k=i+(fP (9-i) n).length/\k<=i+l.length/\l.take (k-i)=fP (9-i) n/\(0<i->n≠0)
 |[],i,acc,m,k,hl,h=>by
  simp only[fV]at h;split at h<;>cases h
 |c::r,i,acc,m,k,hl,h=>by
  simp only[fV]at h;simp only[anb]at hl;have hc:=an3 c;by_cases h1:128<=c.toNat
  ·rw[if_pos h1]at h;obtain⟨n,e1,e2,e3,e4,e5⟩:=NZ r (i+1) _ m k o_ h;have hn:=e5 o_;have h9:9-i=(9-(i+1))+1:=by
    have:1<=r.length:=by
     cases r with
     |nil=>
      simp only[fV]at h;split at h<;>cases h
     |cons=>simp
    omega
   refine⟨n*128+(c.toNat-128), ?_, ?_,by simp only[anb];omega, ?_,λ _=>o_⟩
   ·rw[e1,apf,aor];have:n*(128^i*128)=n*128*128^i:=by rw[Nat.mul_comm (128^i) 128,Nat.mul_assoc]
    omega
   ·rw[h9,fP,if_neg o_,anb,show(n*128+(c.toNat-128))/128=n by omega];omega
   ·have hk:k-i=(k-(i+1))+1:=by
     have:=zy (9-(i+1)) n;omega
    rw[hk,apm,e4,h9,fP,if_neg o_,show(n*128+(c.toNat-128))/128=n by omega];have hcc:UInt8.ofNat ((n*128+(c.toNat-128))%128+128)=c:=aix (by rw[Ug o_];omega);rw[hcc]
  ·rw[if_neg h1]at h;split at h
   ·cases h
   ·rename_i h2;simp only[aot,and_true]at h;obtain⟨h3,h4⟩:=h;refine⟨c.toNat,h3.symm, ?_,by simp only[anb];omega, ?_,λ hi e=>h2 (.inl ⟨hi,e⟩)⟩;all_goals subst h4
    ·cases h9:9-i with
     |zero=>simp[fP]
     |succ f=>simp[fP,show c.toNat<128 by omega]
    ·rw[show i+1-i=0+1 by omega,apm,List.take_zero];have:UInt8.ofNat c.toNat=c:=s_
     cases h9:9-i with
     |zero=>simp[fP,this]
     |succ f=>simp[fP,show c.toNat<128 by omega,this]
theorem adW{k:Nat}(h:bW l=(m,k,0)):k=(aK m).length/\k<=l.length/\l.take k=aK m:=by
 obtain⟨n,e1,e2,e3,e4,_⟩:=NZ (l.take 10) 0 0 m k (by rw[am5];omega) h;simp only[Nat.pow_zero,Nat.mul_one,anZ,apk]at e1 e2 e3 e4;subst e1;rw[am5]at e3;refine⟨e2,o_, ?_⟩;rw[ape,aow o_]at e4;exact e4
theorem JJ:∀(l:List UInt8)(i acc:Nat),(fV l i acc).2.2=0\/(fV l i acc).2.2=2\/(fV l i acc).2.2=3
 |[],i,acc=>by simp only[fV];split<;>simp
 |c::r,i,acc=>by
  simp only[fV];split
  ·exact JJ r _ _
  ·split<;>simp
theorem JK:∀(f i n acc j:Nat),i+f<=9->j<(fP f n).length->fV ((fP f n).take j) i acc=(0,0,2)
 |f,i,n,acc,0,hi,_=>by simp[fV];omega
 |0,i,n,acc,j+1,hi,hj=>by simp[fP]at hj
 |f+1,i,n,acc,j+1,hi,hj=>by
  by_cases h:n<128
  ·simp[fP,h]at hj
  ·have hq:n%128+128<256:=o_
   simp only[fP,if_neg h,anb]at hj;simp only[fP,if_neg h,apm,fV,Ug hq];rw[if_pos o_];exact JK f (i+1) (n/128) _ j o_ o_
theorem aas{j:Nat}(hj:j<(aK n).length):bW ((aK n).take j)=(0,0,2):=by
 have:=dF 9 n;unfold bW;rw[ape,Nat.min_eq_right (by unfold aK at hj;omega)];exact JK 9 0 n 0 j o_ hj
theorem drop_cons{t:List UInt8}(h:bs.drop u=b::t):u<bs.length/\bs.getD u 0=b/\bs.drop (u+1)=t:=by
 have hlt:u<bs.length:=by
  rcases anr u bs.length with h'|h'
  ·exact h'
  ·rw[List.drop_of_length_le h']at h;cases h
 refine⟨hlt, ?_, ?_⟩
 ·rw[aok hlt]at h;rw[ang,amX hlt];exact(List.cons.inj h).1
 ·rw[aok hlt]at h;exact(List.cons.inj h).2
theorem Uh{t:List UInt8}(h:bs.drop u=l++t):bs.drop (u+l.length)=t:=by
 rw[<-ao1,h,aoc]
theorem yV{t:List UInt8}(h:bs.drop u=b::t)(h1:lo<=(b.toNat:Int))(h2:(b.toNat:Int)<=hi):gZ bs lo hi (u,0)=((b.toNat:Int),(u+1,0))/\bs.drop (u+1)=t:=by
 obtain⟨h3,h4,h5⟩:=drop_cons h;refine⟨?_,h5⟩;unfold gZ;rw[if_neg s_,if_neg (by simpa using h3),h4,if_pos ⟨h1,h2⟩]
theorem vJ{t:List UInt8}(h:bs.drop u=aK n++t)(hn:n<=4294967296)(h1:lo<=(n:Int))(h2:(n:Int)<=hi):jo bs lo hi (u,0)=((n:Int),(u+(aK n).length,0))/\bs.drop (u+(aK n).length)=t:=by
 refine⟨?_,Uh h⟩;unfold jo;simp only[h,vI n t hn];rw[if_neg s_,if_neg s_,if_pos ⟨h1,h2⟩]
theorem N7{t:List UInt8}{s:ByteArray}(h:bs.drop u=s.data.toList++t)(h0:1<=s.size)(h1:may s=0):je bs (s.size:Int) may (u,0)=(s,(u+s.size,0))/\bs.drop (u+s.size)=t:=by
 have hs:s.data.toList.length=s.size:=rfl;have hc:LQ bs u s.size=s:=by
  unfold LQ;rw[h,<-hs,apd]
 have hl:s.size<=bs.length-u:=by
  have:=congrArg List.length h;rw[anl,am0]at this;omega
 refine⟨?_,by have:=Uh h;rwa [hs]at this⟩;unfold je;rw[if_neg s_,if_neg (by dsimp only;omega)];simp only[anP,hc,h1,if_true]
theorem lJ{n:Int}(h0:0<=n)(h1:n<=255):((byteOf n).toNat:Int)=n:=by
 unfold byteOf;rw[aoE,aoP o_];omega
theorem Ui{s:ByteArray}(h:s.size<=255):((UInt8.ofNat s.size).toNat:Int)=s.size:=by
 rw[aoE,aoP o_]
theorem l7(n:Nat):gU (n:Int)=aK n:=by simp[gU]
theorem size_nil{s:ByteArray}(h:s.size=0):s=⟨#[]⟩:=by
 cases s with
 |mk d=>
  have:d= #[]:=Array.eq_empty_of_size_eq_zero h;rw[this]
def DY(R o a b c d:Int):aS:=if R=0 then⟨o,a,b,c,d⟩else if R=1 then⟨a,o,b,c,d⟩else if R=2 then⟨a,b,o,c,d⟩else if R=3 then⟨a,b,c,o,d⟩else⟨a,b,c,d,o⟩
theorem zW{N x1 x2 x3 x4 H ks l vs:Int}{key v:ByteArray}{s1 s2 s3 t1 t2 t3 t4 s5 s6 s7 s8 s9 s10:Sq}(hR:0<=R/\R<=4)(e1:gZ bs 1 5 (0,0)=(k,s1))(e2:gZ bs 0 4 s1=(R,s2))(e3:jo bs 1 1048576 s2=(N,s3))
  (f1:jo bs 0 1048576 s3=(x1,t1))(f2:jo bs 0 1048576 t1=(x2,t2))(f3:jo bs 0 1048576 t2=(x3,t3))(f4:jo bs 0 1048576 t3=(x4,t4))(e5:jo bs 1 16777216 t4=(H,s5))(e6:gZ bs 1 8 s5=(ks,s6))(e7:je bs ks keyE s6=(key,s7)):
  (jy k=false->nD bs (0,0)=(⟨R,N,DY R (N-1) x1 x2 x3 x4,H,k,key,0,⟨#[]⟩⟩,s7))/\(gZ bs 0 1 s7=(l,s8)->gZ bs 1 12 s8=(vs,s9)->je bs vs lD s9=(v,s10)->jy k=true->nD bs (0,0)=(⟨R,N,DY R (N-1) x1 x2 x3 x4,H,k,key,l,v⟩,s10)):=by
 rcases(show R=0\/R=1\/R=2\/R=3\/R=4 by omega)with rfl|rfl|rfl|rfl|rfl;all_goals exact⟨λ hl=>by simp[nD,Js,Jr,Nw,aS.aja,aS.put,DY, *],λ e8 e9 e10 hl=>by simp[nD,Js,Jr,Nw,aS.aja,aS.put,DY, *]⟩
theorem ag0{b d:Int}(P:Int->Prop)(h0:P o)(h1:P a)(h2:P b)(h3:P c)(h4:P d):P (DY R o a b c d).c0/\P (DY R o a b c d).c1/\P (DY R o a b c d).c2/\P (DY R o a b c d).c3/\P (DY R o a b c d).c4:=by
 unfold DY;repeat' split
 all_goals exact⟨a_,a_,a_,a_,a_⟩
theorem YZ{b d:Int}(hR:0<=R/\R<=4):(DY R o a b c d).get R=o/\ ∀n h k key l v,others ⟨R,n,DY R o a b c d,h,k,key,l,v⟩=[a,b,c,d]:=by
 rcases(show R=0\/R=1\/R=2\/R=3\/R=4 by omega)with rfl|rfl|rfl|rfl|rfl<;>exact⟨rfl,λ _ _ _ _ _ _=>rfl⟩
theorem ajm(hR:0<=R/\R<=4)(C:aS):∃a b c d,C=DY R (C.get R) a b c d/\ ∀P:Int->Prop,P C.c0->P C.c1->P C.c2->P C.c3->P C.c4->P a/\P b/\P c/\P d:=by
 rcases(show R=0\/R=1\/R=2\/R=3\/R=4 by omega)with rfl|rfl|rfl|rfl|rfl
 ·exact⟨C.c1,C.c2,C.c3,C.c4,rfl,λ _ _ a b c d=>⟨a,b,c,d⟩⟩
 ·exact⟨C.c0,C.c2,C.c3,C.c4,rfl,λ _ a _ b c d=>⟨a,b,c,d⟩⟩
 ·exact⟨C.c0,C.c1,C.c3,C.c4,rfl,λ _ a b _ c d=>⟨a,b,c,d⟩⟩
 ·exact⟨C.c0,C.c1,C.c2,C.c4,rfl,λ _ a b c _ d=>⟨a,b,c,d⟩⟩
 ·exact⟨C.c0,C.c1,C.c2,C.c3,rfl,λ _ a b c d _=>⟨a,b,c,d⟩⟩
theorem aat(e:Ev)(h:dU e=0)(rest:List UInt8):nD (eH e++rest) (0,0)=(e,((eH e).length,0)):=by
 have m:=oW h;have g:=vY m.ed;obtain⟨r,n,C,hh,k,key,l,v⟩:=e;obtain⟨r0,r4,n1,n2,h1,h2,a0,a1,a2,a3,a4,own,ed⟩:=m;dsimp only[Ev.ed]at r0 r4 n1 n2 h1 h2 a0 a1 a2 a3 a4 g own;obtain⟨g1,g2,g3,g4,g5,g6,g7⟩:=g;clear ed h;obtain⟨x1,x2,x3,x4,hC,hx⟩:=ajm ⟨r0,r4⟩ C;obtain⟨y1,y2,y3,y4⟩:=hx (λ x=>0<=x/\x<=1048576) a0 a1 a2 a3 a4;rw[own]at hC;subst hC;have ho:=(YZ (o:=n-1) (a:=x1) (b:=x2) (c:=x3) (d:=x4) ⟨r0,r4⟩).2;clear a0 a1 a2 a3 a4 own hx;obtain⟨n,rfl⟩:=anO (show 0<=n by omega);obtain⟨hh,rfl⟩:=anO (show 0<=hh by omega);obtain⟨x1,rfl⟩:=anO y1.1;obtain⟨x2,rfl⟩:=anO y2.1;obtain⟨x3,rfl⟩:=anO y3.1;obtain⟨x4,rfl⟩:=anO y4.1;have hkey:keyE key=0:=by unfold keyE;rw[if_pos ⟨g3,g4,g5⟩]
 have bk:=lJ (n:=k) o_ o_;have br:=lJ (n:=r) o_ o_;have alZ:=Ui (s:=key) o_;generalize hbs:eH _++rest=bs;generalize hlen:(eH _).length=len;obtain⟨T,hT⟩:∃T,T=(if jy k then byteOf l::UInt8.ofNat v.size::(v.data.toList++rest)else rest):=⟨_,rfl⟩;have d0:bs.drop 0=byteOf k::byteOf r::(aK n++(aK x1++(aK x2++(aK x3++(aK x4++(aK hh++(UInt8.ofNat key.size::(key.data.toList++T)))))))):=by
  rw[<-hbs,hT];cases hl:jy k<;>simp[eH,ho,words,l7,hl]
 obtain⟨e1,d1⟩:=yV (lo:=1) (hi:=5) d0 o_ o_;obtain⟨e2,d2⟩:=yV (lo:=0) (hi:=4) d1 o_ o_;obtain⟨e3,d3⟩:=vJ (lo:=1) (hi:=1048576) d2 o_ o_ o_;obtain⟨f1,d11⟩:=vJ (lo:=0) (hi:=1048576) d3 o_ o_ o_;obtain⟨f2,d12⟩:=vJ (lo:=0) (hi:=1048576) d11 o_ o_ o_;obtain⟨f3,d13⟩:=vJ (lo:=0) (hi:=1048576) d12 o_ o_ o_;obtain⟨f4,d14⟩:=vJ (lo:=0) (hi:=1048576) d13 o_ o_ o_;obtain⟨e5,d5⟩:=vJ (lo:=1) (hi:=16777216) d14 o_ o_ o_;obtain⟨e6,d6⟩:=yV (lo:=1) (hi:=8) d5 o_ o_;obtain⟨e7,d7⟩:=N7 (may:=keyE) d6 g3 hkey;rw[bk]at e1;rw[br]at e2;rw[alZ]at e6;cases hl:jy k with
 |true=>
  rw[hl,if_pos rfl]at hT;subst hT;obtain⟨x1,x2,x3,x4⟩:=g6 hl;have bl:=lJ (n:=l) o_ o_;have bv:=Ui (s:=v) o_;have hval:lD v=0:=by unfold lD;rw[if_pos ⟨x3,x4⟩]
  obtain⟨e8,d8⟩:=yV (lo:=0) (hi:=1) d7 o_ o_;obtain⟨e9,d9⟩:=yV (lo:=1) (hi:=12) d8 o_ o_;obtain⟨e10,d10⟩:=N7 (may:=lD) d9 x3 hval;rw[bl]at e8;rw[bv]at e9;rw[(zW ⟨r0,r4⟩ e1 e2 e3 f1 f2 f3 f4 e5 e6 e7).2 e8 e9 e10 hl];refine Prod.ext rfl (Prod.ext ?_ rfl);rw[<-hlen];simp[eH,ho,words,l7,hl];omega
 |false=>
  rw[hl,if_neg s_]at hT;subst hT;obtain⟨x1,x2⟩:=g7 hl;have hv0:v=⟨#[]⟩:=size_nil x2;subst x1 hv0;rw[(zW (l:=0) (vs:=0) (v:=⟨#[]⟩) (s8:=(0,0)) (s9:=(0,0)) (s10:=(0,0)) ⟨r0,r4⟩ e1 e2 e3 f1 f2 f3 f4 e5 e6 e7).1 hl];refine Prod.ext rfl (Prod.ext ?_ rfl);rw[<-hlen];simp[eH,ho,words,l7,hl];omega
theorem zX(h:gZ bs lo hi s=(c,s'))(h0:s'.2=0):s.2=0/\lo<=c/\c<=hi/\0<=c/\c<=255/\s'.1<=bs.length/\bs.drop s.1=byteOf c::bs.drop s'.1:=by
 unfold gZ at h;split at h
 ·rename_i h1;cases h;exact absurd h0 h1
 ·rename_i h1;split at h
  ·cases h;cases h0
  ·rename_i h2;split at h
   ·rename_i h3;cases h;have hb:=an3 (bs.getD s.1 0);refine⟨by simpa using h1,h3.1,h3.2,o_,o_,by dsimp only;omega, ?_⟩;have hlt:s.1<bs.length:=o_
    rw[aok hlt];congr 1;apply aix;have:=lJ (n:=((bs.getD s.1 0).toNat:Int)) o_ o_;have e:bs.getD s.1 0=bs[s.1]:=by rw[ang,amX hlt];rfl
    rw[e]at this⊢;omega
   ·cases h;cases h0
theorem zY(h:jo bs lo hi s=(c,s'))(h0:s'.2=0)(hs:s.1<=bs.length):s.2=0/\lo<=c/\c<=hi/\0<=c/\s'.1<=bs.length/\bs.drop s.1=gU c++bs.drop s'.1:=by
 unfold jo at h;split at h
 ·rename_i h1;cases h;exact absurd h0 h1
 ·rename_i h1;split at h
  ·rename_i h2;cases h;exact absurd h0 h2
  ·rename_i h2;split at h
   ·rename_i h3;cases h;have h2':(bW (bs.drop s.1)).2.2=0:=by simpa using h2
    obtain⟨k1,k2,k3⟩:=adW (l:=bs.drop s.1) (m:=(bW (bs.drop s.1)).1) (k:=(bW (bs.drop s.1)).2.1) (by rw[<-h2']);rw[anl]at k2;refine⟨by simpa using h1,h3.1,h3.2,o_,by dsimp only;omega, ?_⟩;have e:gU (((bW (bs.drop s.1)).1:Nat):Int)=aK (bW (bs.drop s.1)).1:=l7 _;rw[e,<-k3,<-ao1,an8]
   ·cases h;cases h0
theorem Uj{c:ByteArray}(h:je bs sz may s=(c,s'))(h0:s'.2=0)(hs:s.1<=bs.length)(hz:0<=sz):s.2=0/\(c.size:Int)=sz/\may c=0/\s'.1<=bs.length/\bs.drop s.1=c.data.toList++bs.drop s'.1:=by
 unfold je at h;split at h
 ·rename_i h1;cases h;exact absurd h0 h1
 ·rename_i h1;split at h
  ·cases h;cases h0
  ·rename_i h2;cases h;dsimp only at h0;have h3:may (LQ bs s.1 sz.toNat)=0:=by
    split at h0
    ·assumption
    ·cases h0
   refine⟨by simpa using h1, ?_,h3,by dsimp only;omega, ?_⟩
   ·show((LQ bs s.1 sz.toNat).data.size:Int)=sz;simp only[LQ,List.size_toArray,am5,anl];omega
   ·simp only[LQ];rw[<-ao1,an8]
theorem adX(h:jy k=false):k=1\/k=2:=by
 simp only[jy,Bool.and_eq_false_iff,bne_eq_false_iff_eq]at h;exact h
theorem Uk(s:ByteArray)(h:(s.size:Int)=c):byteOf c::s.data.toList=words s:=by
 subst h;simp[words,byteOf]
theorem Ul(h1:1<=e.k/\e.k<=5)(h2:keyE e.key=0)(h3:e.k=1\/e.k=2)(h4:e.l=0)(h5:e.v.size=0):lF e=0:=by
 unfold lF;rw[if_neg o_,if_neg (by simp[h2]),if_pos h3,if_neg (by simp[h4]),if_neg (by simp[h5])]
theorem Xc(h1:1<=e.k/\e.k<=5)(h2:keyE e.key=0)(h3:jy e.k=true)(h4:0<=e.l/\e.l<2)(h5:lD e.v=0):lF e=0:=by
 have hk:¬ (e.k=1\/e.k=2):=by
  simp only[jy,amY,bne_iff_ne,ne_eq]at h3;omega
 have hlab:rQ e.l=0:=by unfold rQ;rw[if_pos h4]
 unfold lF;rw[if_neg o_,if_neg (by simp[h2]),if_neg hk,if_neg (by simp[hlab]),h5]
theorem Qw(h:gZ bs lo hi s=(c,s'))(h0:s'.2=0):s.2=0:=(zX h h0).1
theorem FC(h:jo bs lo hi s=(c,s'))(h0:s'.2=0):s.2=0:=by
 unfold jo at h;split at h
 ·rename_i h1;cases h;exact absurd h0 h1
 ·rename_i h1;simpa using h1
theorem Y0{c:ByteArray}(h:je bs sz may s=(c,s'))(h0:s'.2=0):s.2=0:=by
 unfold je at h;split at h
 ·rename_i h1;cases h;exact absurd h0 h1
 ·rename_i h1;simpa using h1
theorem Y1(_hm:m<=bs.length)(h:bs=l++bs.drop m):bs.take m=l:=by
 have h1:bs=bs.take m++bs.drop m:=(an8 m bs).symm;exact List.append_cancel_right (h1.symm.trans h)
theorem adY(bs:List UInt8){e:Ev}(h:nD bs (0,0)=(e,(m,0))):dU e=0/\m<=bs.length/\bs.take m=eH e:=by
 obtain⟨⟨k,s1⟩,e1⟩:∃p,gZ bs 1 5 (0,0)=p:=⟨_,rfl⟩;obtain⟨⟨R,s2⟩,e2⟩:∃p,gZ bs 0 4 s1=p:=⟨_,rfl⟩;obtain⟨⟨N,s3⟩,e3⟩:∃p,jo bs 1 1048576 s2=p:=⟨_,rfl⟩;obtain⟨⟨x1,t1⟩,f1⟩:∃p,jo bs 0 1048576 s3=p:=⟨_,rfl⟩;obtain⟨⟨x2,t2⟩,f2⟩:∃p,jo bs 0 1048576 t1=p:=⟨_,rfl⟩;obtain⟨⟨x3,t3⟩,f3⟩:∃p,jo bs 0 1048576 t2=p:=⟨_,rfl⟩;obtain⟨⟨x4,t4⟩,f4⟩:∃p,jo bs 0 1048576 t3=p:=⟨_,rfl⟩;obtain⟨⟨H,s5⟩,e5⟩:∃p,jo bs 1 16777216 t4=p:=⟨_,rfl⟩;obtain⟨⟨ks,s6⟩,e6⟩:∃p,gZ bs 1 8 s5=p:=⟨_,rfl⟩;obtain⟨⟨key,s7⟩,e7⟩:∃p,je bs ks keyE s6=p:=⟨_,rfl⟩;obtain⟨⟨l,s8⟩,e8⟩:∃p,gZ bs 0 1 s7=p:=⟨_,rfl⟩;obtain⟨⟨vs,s9⟩,e9⟩:∃p,gZ bs 1 12 s8=p:=⟨_,rfl⟩;obtain⟨⟨v,s10⟩,e10⟩:∃p,je bs vs lD s9=p:=⟨_,rfl⟩;have hR0:=Jt (bs:=bs) (lo:=0) (hi:=4) (s:=s1);rw[e2]at hR0;have hR:0<=R/\R<=4:=by simp only at hR0;omega
 have hF:=λ hR=>zW (l:=l) (vs:=vs) (v:=v) (s8:=s8) (s9:=s9) (s10:=s10) hR e1 e2 e3 f1 f2 f3 f4 e5 e6 e7;have hF:=hF hR;obtain⟨hg,ho⟩:=YZ (o:=N-1) (a:=x1) (b:=x2) (c:=x3) (d:=x4) hR;have hC:=λ P=>ag0 (R:=R) (o:=N-1) (a:=x1) (b:=x2) (c:=x3) (d:=x4) P;generalize DY R (N-1) x1 x2 x3 x4=C at hF hg ho hC;have b0:bs=bs.drop (0,(0:Int)).1:=rfl;have go:s7.2=0->(1<=k/\k<=5)/\(1<=N/\N<=1048576)/\(1<=H/\H<=16777216)/\(0<=R/\R<=4)/\((0<=C.c0/\C.c0<=1048576)/\(0<=C.c1/\C.c1<=1048576)/\(0<=C.c2/\C.c2<=1048576)/\(0<=C.c3/\C.c3<=1048576)/\(0<=C.c4/\C.c4<=1048576))/\keyE key=0/\s7.1<=bs.length/\
   bs=byteOf k::byteOf R::(gU N++(gU x1++(gU x2++(gU x3++(gU x4++(gU H++(words key++bs.drop s7.1))))))):=λ y7=>by
  have y6:=(Y0 e7 y7);have y5:=(Qw e6 y6);have yp:=(FC e5 y5);have yt4:=(FC f4 yp);have yt3:=(FC f3 yt4);have yt2:=(FC f2 yt3);have y3:=(FC f1 yt2);have y2:=(FC e3 y3);have y1:=(Qw e2 y2);obtain⟨_,k1,k2,_,_,u1,b1⟩:=zX e1 y1;obtain⟨_,r1,r2,_,_,u2,b2⟩:=zX e2 y2;obtain⟨_,n1,n2,_,u3,b3⟩:=zY e3 y3 u2;obtain⟨_,m1,mm1,_,v1,g1⟩:=zY f1 yt2 u3;obtain⟨_,m2,mm2,_,v2,g2⟩:=zY f2 yt3 v1;obtain⟨_,m3,mm3,_,v3,g3⟩:=zY f3 yt4 v2;obtain⟨_,m4,mm4,_,v4,g4⟩:=zY f4 yp v3;obtain⟨_,h1,h2,_,u5,b5⟩:=zY e5 y5 v4;obtain⟨_,k3,k4,k5,_,u6,b6⟩:=zX e6 y6;obtain⟨_,q1,q2,u7,b7⟩:=Uj e7 y7 u6 k5;refine⟨⟨k1,k2⟩,⟨n1,n2⟩,⟨h1,h2⟩,⟨r1,r2⟩,hC (λ x=>0<=x/\x<=1048576) ⟨o_,o_⟩ ⟨m1,mm1⟩ ⟨m2,mm2⟩ ⟨m3,mm3⟩ ⟨m4,mm4⟩,q2,u7, ?_⟩;conv=>lhs;rw[b0,b1,b2,b3,g1,g2,g3,g4,b5,b6,b7]
  simp[<-Uk key q1]
 cases hl:jy k with
 |false=>
  rw[hF.1 hl]at h;simp only[aot]at h;obtain⟨rfl,hs⟩:=h;obtain⟨kk,nn,hh,rr,⟨a0,a1,a2,a3,a4⟩,q2,u7,hb⟩:=go (by rw[hs]);have hm:s7.1=m:=by rw[hs]
  refine⟨Yi ⟨rr.1,rr.2,nn.1,nn.2,hh.1,hh.2,a0,a1,a2,a3,a4,hg,Ul (e:=⟨k,key,0,⟨#[]⟩⟩) kk q2 (adX hl) rfl rfl⟩,by rw[<-hm];exact u7,Y1 (by rw[<-hm];exact u7) (l:=eH _) ?_⟩;rw[<-hm];conv=>lhs;rw[hb]
  simp[eH,ho,hl]
 |true=>
  rw[hF.2 e8 e9 e10 hl]at h;simp only[aot]at h;obtain⟨rfl,hs⟩:=h;have y10:s10.2=0:=by rw[hs]
  have hm:s10.1=m:=by rw[hs]
  have y9:=(Y0 e10 y10);have y8:=(Qw e9 y9);obtain⟨kk,nn,hh,rr,⟨a0,a1,a2,a3,a4⟩,q2,u7,hb⟩:=go (Qw e8 y8);obtain⟨_,l1,l2,_,_,u8,b8⟩:=zX e8 y8;obtain⟨_,l3,l4,l5,_,u9,b9⟩:=zX e9 y9;obtain⟨_,p1,p2,u10,b10⟩:=Uj e10 y10 u9 l5;refine⟨Yi ⟨rr.1,rr.2,nn.1,nn.2,hh.1,hh.2,a0,a1,a2,a3,a4,hg,Xc (e:=⟨k,key,l,v⟩) kk q2 hl (by dsimp only;omega) p2⟩,by rw[<-hm];exact u10,Y1 (by rw[<-hm];exact u10) (l:=eH _) ?_⟩;rw[<-hm];conv=>lhs;rw[hb,b8,b9,b10]
  simp[eH,ho,hl,<-Uk v p1]

def kQ(K:AS->Prop):jd->AS->Prop:=λ e st=>match e with| .normal=>K st|_=>False
structure al0(P:Program)(L:Lay)(W:Walk)(N lv:Nat)(t:Operand)(x0 x1 y0 y1 z:Code)(Q:jd->AS->Prop)(K:AS->Prop)(st:AS):Prop where
 h:kV P L W N lv x0 (kQ λ st=>kV P L W N lv x1 (kQ λ st=>match st.ev t with
  | .v (.bool b)=>(match b with
    |true=>kV P L W N lv y0 (kQ λ st=>kV P L W N lv y1 (kQ K) st) st
    |false=>kV P L W N lv z Q st)
  |_=>False) st) st
inductive adZ(P:Program)(L:Lay)(W:Walk)(N lv:Nat)(t:Operand)(x0 x1 y0 y1 z:Code)(Q:jd->AS->Prop)(st:AS):Prop where
 |mk (X:Type) (S:X->AS) (m:X->Nat) (i0:X) (σ:List (Nat×Nat)) (h0:dZ σ st (S i0))
  (hb:∀i,kV P L W N lv x0 (kQ λ st=>kV P L W N lv x1 (kQ λ st=>match st.ev t with
  | .v (.bool b)=>(match b with
    |true=>kV P L W N lv y0 (kQ λ st=>kV P L W N lv y1 (kQ λ st=> ∃j σ,dZ σ st (S j)/\m j<m i) st) st
    |false=>kV P L W N lv z Q st)
  |_=>False) st) (S i)):adZ P L W N lv t x0 x1 y0 y1 z Q st
section
variable{P:Program}{L:Lay}{g:Base}{N:Nat}{bs:List (Array Value)}{ρ:Nat->Value}{a:Act}{w:World}{st:AS}
theorem BI(hL:bD P L){W:Walk}(hW:G9 P W){lv:Nat}{p next:Code}{K:AS->Prop}{E:Exit->Act->World->Prop}(R:Rel g N bs ρ a w st)(h:kV P L W N lv p (kQ K) st)
  (hk:∀ρ a w st,Rel g N bs ρ a w st->K st->next.wp P E a w):(Code.seq p next).wp P E a w:=
 wp_seq (og hL hW lv p (Q:=kQ K) (E:=Exit.then (next.wp P E) E) ⟨λ ρ a w st R h=>hk ρ a w st R h,λ _ _ _ _ _ _ h=>h.elim,λ _ _ _ _ _ h=>h.elim⟩ R h)
def JN(P:Program)(L:Lay)(W:Walk)(g:Base)(N lv:Nat)(bs:List (Array Value))(t:Operand)(x0 x1 y0 y1 z:Code)(Q:jd->AS->Prop)(a:Act)(w:World)(n:Nat):Prop:=
 ∃(X:Type) (S:X->AS) (m:X->Nat) (i:X) (ρ:Nat->Value),(∀i,kV P L W N lv x0 (kQ λ st=>kV P L W N lv x1 (kQ λ st=>match st.ev t with
  | .v (.bool b)=>(match b with
    |true=>kV P L W N lv y0 (kQ λ st=>kV P L W N lv y1 (kQ λ st=> ∃j σ,dZ σ st (S j)/\m j<m i) st) st
    |false=>kV P L W N lv z Q st)
  |_=>False) st) (S i))/\Rel g N bs ρ a w (S i)/\m i=n
theorem Xd(hL:bD P L)(lv:Nat){f:FuncId}{fn:Func}{p0 p1 p2 x0 x1 y0 y1 z:Code}{t:Operand}{l:Nat}{aW:List AV}{r:AV}{hh:List (Nat×AO)}(hf:P.funcs[f]? =some fn)(hn:(fn.name== "runtime.NumGoroutine")=false)
  (hb:fn.body=some (.seq p0 (.scope (.seq p1 (.seq p2 (.seq (.label l) (.seq (.seq x0 (.seq x1 (.cond t (.seq y0 (.seq y1 (.goto l))) .skip))) z)))))))(hsz:Nat.ble aW.length fn.ntmps=true)
  (hl:findLabel (.seq p1 (.seq p2 (.seq (.label l) (.seq (.seq x0 (.seq x1 (.cond t (.seq y0 (.seq y1 (.goto l))) .skip))) z)))) l=some (.seq .skip (.seq (.seq x0 (.seq x1 (.cond t (.seq y0 (.seq y1 (.goto l))) .skip))) z)))
  (h:kV P L (zC P L 8) fn.ntmps lv p0 (kQ λ st=>kV P L (zC P L 8) fn.ntmps lv p1 (kQ λ st=>kV P L (zC P L 8) fn.ntmps lv p2 (kQ λ st=>adZ P L (zC P L 8) fn.ntmps lv t x0 x1 y0 y1 z (Sm L fn r hh) st) st) st) (start aW)):aF P f aW r hh:=by
 refine Ti hL hf hn hb hsz λ g E ρ a w hq R=>?_;have hW:=dS hL 8;let J:Act->World->Nat->Prop:=JN P L (zC P L 8) g fn.ntmps lv [] t x0 x1 y0 y1 z (Sm L fn r hh);refine BI hL hW R h λ ρ a w st R h=>?_;refine wp_scope_jumps l (λ a w=> ∃n,J a w n) (λ a w=>least (J a w)) hl ?_ ?_;all_goals
  have body:∀(J':Act->World->Prop)(X:Type)(S:X->AS)(m:X->Nat)(i:X)(ρ:Nat->Value)(a:Act)(w:World),(∀a w n,n<m i->J a w n->J' a w)->(∀i,kV P L (zC P L 8) fn.ntmps lv x0 (kQ λ st=>kV P L (zC P L 8) fn.ntmps lv x1 (kQ λ st=>match st.ev t with
    | .v (.bool b)=>(match b with
      |true=>kV P L (zC P L 8) fn.ntmps lv y0 (kQ λ st=>kV P L (zC P L 8) fn.ntmps lv y1 (kQ λ st=> ∃j σ,dZ σ st (S j)/\m j<m i) st) st
      |false=>kV P L (zC P L 8) fn.ntmps lv z (Sm L fn r hh) st)
    |_=>False) st) (S i))->Rel g fn.ntmps [] ρ a w (S i)->(Code.seq (.seq x0 (.seq x1 (.cond t (.seq y0 (.seq y1 (.goto l))) .skip))) z).wp P (Exit.jump l J' E) a w:=by
   intro J' X S m i ρ a w hJ hb R;refine wp_seq ?_;refine BI hL hW R (hb i) λ ρ a w st R h=>?_;refine BI hL hW R h λ ρ a w st R h=>?_;split at h
   ·rename_i b et;have hc:=R.ev t;rw[et]at hc;have hc:=C2.cO hc;cases b with
    |true=>
     refine wp_cond_true hc ?_;refine BI hL hW R h λ ρ a w st R h=>?_;refine BI hL hW R h λ ρ a w st R h=>?_;obtain⟨j,σ,hle,hlt⟩:=h;obtain⟨ρ',R'⟩:=R.Nb hle;exact wp_goto ⟨rfl,hJ a w (m j) hlt ⟨X,S,m,j,ρ',hb,R',rfl⟩⟩
    |false=>
     refine wp_cond_false hc (wp_skip ?_);exact og hL hW lv z (Q:=Sm L fn r hh) (E:=Exit.jump l J' E) ⟨λ ρ a w st R h=>hq.1 ρ a w st R h,λ i ρ a w st R h=>hq.2.1 i ρ a w st R h,λ ρ a w st R h=>hq.2.2 ρ a w st R h⟩ R h
   ·exact h.elim
 ·refine BI hL hW R h λ ρ a w st R h=>?_;refine BI hL hW R h λ ρ a w st R h=>?_;refine wp_seq (wp_label ?_);cases h with
  |mk X S m i0 σ h0 hb=>
   obtain⟨ρ',R'⟩:=R.Nb h0;exact body _ X S m i0 ρ' a w (λ a w n _ hj=>⟨n,hj⟩) hb R'
 ·intro a w hJ;obtain⟨X,S,m,i,ρ,hb,R,hm⟩:=I9 hJ;refine wp_seq (wp_skip ?_);refine body _ X S m i ρ a w (λ a' w' n hlt hj=>⟨⟨n,hj⟩, ?_⟩) hb R;have:=least_le hj;show least (J a' w')<least (J a w);omega
end
theorem N8(w:World):(callFunc 251 #[]).run prog w= .ok (.value (.tuple #[])) w:=run_call_mark0 func251 (by kernel_rfl) (by kernel_rfl) (by kernel_rfl) .disable (by kernel_rfl) w
theorem Um(w:World):(callFunc 253 #[]).run prog w= .ok (.value (.tuple #[])) w:=run_call_mark0 func253 (by kernel_rfl) (by kernel_rfl) (by kernel_rfl) .enable (by kernel_rfl) w
theorem aau(a:Addr)(w:World):(callFunc 254 #[.pointer (some a)]).run prog w= .ok (.value (.tuple #[])) w:=run_call_marked func254 (by kernel_rfl) (by kernel_rfl) (by kernel_rfl) .acquire (by kernel_rfl) a w
theorem aav(a:Addr)(w:World):(callFunc 256 #[.pointer (some a)]).run prog w= .ok (.value (.tuple #[])) w:=run_call_marked func256 (by kernel_rfl) (by kernel_rfl) (by kernel_rfl) .releaseMerge (by kernel_rfl) a w
theorem ag1(a:Addr)(x:Value)(u:FrameMode)(w:World)(hc:w.cell? a=some x)(hz:w.frozen? a=false):
  CallsD prog 238 #[.pointer (some a),.bool true] u w λ e u' w'=>u'=u/\(e= .returned (.tuple #[])/\w'=w.drew.setCell a (.int .u32 1)):=by
 have hc':w.drew.cell? a=some x:=by go_simp
 have hz':w.drew.frozen? a=false:=by go_simp
 have hst:=run_call_store (P:=prog) func245 (by kernel_rfl) (by kernel_rfl) (by kernel_rfl) (by kernel_rfl) (k:= .u32) (y:=1) hc' hz';go_enter_d func238,Tryz.ntmps238;go_wp2;go_region_calls;all_goals(go_end0;exact⟨rfl,rfl⟩)
theorem ad1(a:Addr)(u:FrameMode)(w:World)(hc:w.cell? a=some (.int .i32 1))(hz:w.frozen? a=false):
  CallsD prog 237 #[.pointer (some a)] u w λ e u' w'=>u'=u/\(e= .returned (.tuple #[])/\w'=w.setCell a (.int .i32 0)):=by
 have hd:=N8;have he:=Um;have hr:=aav;have hadd:=run_call_add (P:=prog) func257 (by kernel_rfl) (by kernel_rfl) (by kernel_rfl) .i32 (by kernel_rfl) (y:= -1) (s:=0) hc hz (by simp[go_sem];rfl);have hcv:=run_convert_to_unsafe (P:=prog) (src:=362) (dst:=366) Tryz.underlying362 Tryz.underlying366 (by kernel_rfl) hc;go_enter_d func237,Tryz.ntmps237;go_wp2;go_end0;go_wp2;all_goals(go_end0;exact⟨rfl,rfl⟩)
theorem ajn(a:Addr)(w:World)(hc:w.cell? a=some (.int .i32 0))(hz:w.frozen? a=false):
  Calls prog 236 #[.pointer (some a)] w λ e w'=>e= .returned (.tuple #[])/\w'=w.setCell a (.int .i32 1):=by
 have hd:=N8;have he:=Um;have ha:=aau;have hcas:=run_call_cas_hit (P:=prog) func252 (by kernel_rfl) (by kernel_rfl) (by kernel_rfl) .i32 (by kernel_rfl) (y:=1) hc hz;have hc':(w.setCell a (.int .i32 1)).cell? a=some (.int .i32 1):=World.cell?_setCell_same w a _ hc;have hcv:=run_convert_to_unsafe (P:=prog) (src:=362) (dst:=366) Tryz.underlying362 Tryz.underlying366 (by kernel_rfl) hc';go_enter func236,Tryz.ntmps236;go_wp2;first|go_end0|(simp only[Exit.inBlock,Exit.then];refine bodyPost_ret (results_none rfl _ _ _) rfl ?_)|refine bodyPost_ret (results_none rfl _ _ _) rfl ?_
 go_wp2
 all_goals(go_end0;exact⟨rfl,rfl⟩)
theorem Xe(a:Addr)(x:Int)(w:World)(hc:w.cell? a=some (.int .u32 x)):
  Calls prog 217 #[.pointer (some a)] w λ e w'=>e= .returned (.bool (x !=0))/\w'=w:=by
 have hl:=run_call_load (P:=prog) func235 (by kernel_rfl) (by kernel_rfl) (by kernel_rfl) .u32 (by kernel_rfl) (w:=w) (a:=a) (x:=x) hc;go_enter func217,Tryz.ntmps217;go_wp2;go_ret;exact⟨rfl,rfl⟩
theorem ajo(b off:Nat)(caps:Array Value)(w:World)(Φ:World->Prop)
  (h0:w.cell? ⟨b,off,none⟩=some (.int .u32 0))(h1:w.cell? ⟨b,off+1,none⟩=some (.int .i32 0))
  (f1:w.frozen? ⟨b,off+1,none⟩=false)
  (hcl:Calls prog 187 caps (w.setCell ⟨b,off+1,none⟩ (.int .i32 1)) λ e w1=>e= .returned (.tuple #[])/\Φ w1)
  (hΦ:∀w1,Φ w1->w1.cell? ⟨b,off,none⟩=some (.int .u32 0)/\w1.cell? ⟨b,off+1,none⟩=some (.int .i32 1)/\w1.frozen? ⟨b,off,none⟩=false/\w1.frozen? ⟨b,off+1,none⟩=false):
  Calls prog 218 #[.pointer (some ⟨b,off,none⟩),.func (.func 187) #[] caps] w λ e w'=>e= .returned (.tuple #[])/\
   ∃w1,Φ w1/\w'=(w1.drew.setCell ⟨b,off,none⟩ (.int .u32 1)).setCell ⟨b,off+1,none⟩ (.int .i32 0):=by
 have g0':(w.setCell ⟨b,off+1,none⟩ (.int .i32 1)).cell? ⟨b,off,none⟩=some (.int .u32 0):=(World.cell?_setCell_other _ ⟨b,off+1,none⟩ ⟨b,off,none⟩ _ s_).trans h0;have hnot:∀(x:Bool)(w:World),(Op.unary .not (.bool x)).run prog w= .ok (.bool (!x)) w:=λ _ _=>rfl;go_enter_defers func218,Tryz.ntmps218;go_wp2_with (first|(go_at_call 236;refine(ajn ⟨b,off+1,none⟩ _ (by go_simp) (by go_simp)).mono ?_;rintro e w' ⟨rfl,rfl⟩)|(go_at_call 217;refine(Xe ⟨b,off,none⟩ 0 _ g0').mono ?_;rintro e w' ⟨rfl,rfl⟩)|(go_at_call 187;refine hcl.mono ?_;rintro e w1 ⟨rfl,hw1⟩));obtain⟨g0,g1,z0,z1⟩:=hΦ _ hw1;refine leaves_cons (f:=238) (args:= #[.pointer (some ⟨b,off,none⟩),.bool true]) s_ (by simp[go_sem]) ?_;refine(ag1 ⟨b,off,none⟩ (.int .u32 0) .returning _ g0 z0).mono ?_;rintro e u' w'' ⟨rfl,rfl,rfl⟩;refine leaves_cons (f:=237) (args:= #[.pointer (some ⟨b,off+1,none⟩)]) (by simp[settle]) (by simp[go_sem]) ?_;refine(ad1 ⟨b,off+1,none⟩ _ _ ?_ (by simp[z1])).mono ?_
 ·refine(World.cell?_setCell_other _ ⟨b,off,none⟩ ⟨b,off+1,none⟩ _ s_).trans ?_;rw[World.cell?_drew];exact g1
 rintro e u' w'' ⟨rfl,rfl,rfl⟩;simp[Leaves,settle,results,Tryz.results218];exact⟨w1,hw1,rfl⟩
theorem ag2(b off:Nat)(caps:Array Value)(w:World)(Φ:World->Prop)
  (h0:w.cell? ⟨b,off,none⟩=some (.int .u32 0))(h1:w.cell? ⟨b,off+1,none⟩=some (.int .i32 0))
  (f1:w.frozen? ⟨b,off+1,none⟩=false)
  (hcl:Calls prog 187 caps (w.setCell ⟨b,off+1,none⟩ (.int .i32 1)) λ e w1=>e= .returned (.tuple #[])/\Φ w1)
  (hΦ:∀w1,Φ w1->w1.cell? ⟨b,off,none⟩=some (.int .u32 0)/\w1.cell? ⟨b,off+1,none⟩=some (.int .i32 1)/\w1.frozen? ⟨b,off,none⟩=false/\w1.frozen? ⟨b,off+1,none⟩=false):
  Calls prog 186 #[.pointer (some ⟨b,off,none⟩),.func (.func 187) #[] caps] w λ e w'=>e= .returned (.tuple #[])/\
   ∃w1,Φ w1/\w'=(w1.drew.setCell ⟨b,off,none⟩ (.int .u32 1)).setCell ⟨b,off+1,none⟩ (.int .i32 0):=by
 have hnot:∀(x:Bool)(w:World),(Op.unary .not (.bool x)).run prog w= .ok (.bool (!x)) w:=λ _ _=>rfl;go_enter func186,Tryz.ntmps186;go_wp2_with (first|(go_at_call 217;refine(Xe ⟨b,off,none⟩ 0 _ h0).mono ?_;rintro e w' ⟨rfl,rfl⟩)|(go_at_call 218;refine(ajo b off caps _ Φ h0 h1 f1 hcl hΦ).mono ?_;rintro e w1 ⟨rfl,hw1⟩));go_end0;exact⟨rfl,hw1⟩
theorem ajp(a:Addr)(g:Value)(w:World)(h0:w.cell? a=some (.int .u32 1)):
  Calls prog 186 #[.pointer (some a),g] w λ e w'=>e= .returned (.tuple #[])/\w'=w:=by
 have hnot:∀(x:Bool)(w:World),(Op.unary .not (.bool x)).run prog w= .ok (.bool (!x)) w:=λ _ _=>rfl;go_enter func186,Tryz.ntmps186;go_wp2_with (first|(go_at_call 217;refine(Xe a 1 _ h0).mono ?_;rintro e w' ⟨rfl,rfl⟩));go_end0;exact⟨rfl,rfl⟩
theorem akO(a:Addr)(x y z:Int)(w:World)(hc:w.cell? a=some (.int .i64 x))(hz:w.frozen? a=false)(hs:(Op.intArith .add .i64 x y).run prog w= .ok (.int .i64 z) w):
  Calls prog 189 #[.pointer (some a),.int .i64 y] w λ e w'=>e= .returned (.int .i64 z)/\w'=w.setCell a (.int .i64 z):=by
 have hadd:=run_call_add (P:=prog) func225 (by kernel_rfl) (by kernel_rfl) (by kernel_rfl) .i64 (by kernel_rfl) (y:=y) (s:=z) hc hz hs;go_enter func189,Tryz.ntmps189;go_wp2;go_ret;exact⟨rfl,rfl⟩
theorem yX{b:Nat}(v:Value)(hh:w.heap[b]? =some (.cells us.toArray t (0,0))):
  (w.setCell ⟨b,i,none⟩ v).heap[b]? =some (.cells (us.set i v).toArray t (0,0))/\(∀k,k≠b->(w.setCell ⟨b,i,none⟩ v).heap[k]? =w.heap[k]?)/\(w.setCell ⟨b,i,none⟩ v).heap.size=w.heap.size/\
   (w.setCell ⟨b,i,none⟩ v).os=w.os/\(w.setCell ⟨b,i,none⟩ v).tape=w.tape/\(w.setCell ⟨b,i,none⟩ v).output=w.output:=by
 refine⟨?_,λ k hk=>Below.heap_setCell _ _ _ _ hk,s_,rfl,rfl,rfl⟩;rw[heap_setCell_same w b i _ t v hh];simp
theorem oG{b:Nat}(hh:w.heap[b]? =some (.cells us.toArray t (0,0))):w.cell? ⟨b,i,none⟩=us[i]? /\w.frozen? ⟨b,i,none⟩=false:=by
 constructor
 ·simp[World.cell?,hh]
 ·simp[World.frozen?,hh]
theorem aC.at{R:AV->Value->Prop}(h:aC R cs us){x:AV}(hx:cs[i]? =some x):∃u,us[i]? =some u/\R x u:=h.get hx
theorem aj.cell{off:Nat}(hE:Enters P f)(hx:cs[off]? =some (.v x))
  (h:∀(b:Nat)(w:World),w.cell? ⟨b,off,none⟩=some x->w.frozen? ⟨b,off,none⟩=false->Calls P f (.pointer (some ⟨b,off,none⟩)::xs).toArray w λ e w'=>e= .returned r/\w'=w.setCell ⟨b,off,none⟩ y):
  aj P f [(0,.box t cs)] (.box 0 off::xs.map .v) (.v r) [(0,.box t (cs.set off (.v y)))]:=by
 refine⟨hE,λ w keep ρ args hk jg hnd hbl hargs=>?_⟩;obtain⟨b,us,e,hh,ha⟩:=jg _ (amZ.2 rfl);have e:ρ 0=_:=e;have hh:w.heap[b]? =_:=hh;cases args with
 |nil=>have:=hargs.1;simp at this
 |cons a0 tl=>
  obtain⟨b0,hb0,ea⟩:∃b0,dD (ρ 0)= .pointer (some ⟨b0,0,none⟩)/\a0= .pointer (some ⟨b0,off,none⟩):=hargs.2 0 _ _ rfl rfl;rw[e]at hb0;cases hb0;subst ea;have hxs:tl=xs:=BG.zS (X:=⟨w,keep,ρ⟩) ⟨by simpa using hargs.1,λ i x u hx hu=>hargs.2 (i+1) x u (by simpa using hx) (by simpa using hu)⟩;subst hxs;obtain⟨u,hu,hxu⟩:=ha.get hx;have hxu:u=x:=hxu;subst hxu;obtain⟨g1,g2⟩:=oG (i:=off) hh;refine(h b w (g1.trans hu) g2).mono ?_;rintro e0 w' ⟨rfl,rfl⟩;obtain⟨s1,s2,s3,s4,s5,s6⟩:=yX (i:=off) y hh;have hb:ah ρ [(0,.box t cs)]=[b]:=by rw[uJ,e];rfl
  have hb':ah ρ [(0,.box t (cs.set off (.v y)))]=[b]:=by rw[uJ,e];rfl
  have hkk:∀q,keep q->aH (dN w keep (λ b=>b∈ah ρ [(0,.box t cs)])) (w.setCell ⟨b,off,none⟩ y) ρ [(0,.box t (cs.set off (.v y)))] q:=λ q hq=>
   ⟨by rw[s3];exact hk q hq,λ _=> .inl hq,λ h=>(hbl q (by rw[hb];rw[hb']at h;exact h)).2 hq⟩
  have hne:∀q,keep q->q≠b:=λ q hq e=>(hbl q (by rw[hb,e];exact amW)).2 hq;refine⟨_,ρ,rfl,⟨s4,s5,s6,by rw[s3];exact ani _,λ k hk hM=>s2 k λ e=>hM (by rw[hb,e];exact amW)⟩,λ _ _ _ _ _=> .refl _,rfl,λ p hp=>?_,by rw[hb'];simp,λ q hq=> .inr (by rw[hb];rw[hb']at hq;exact hq)⟩;obtain rfl:=amZ.1 hp;refine⟨b,us.set off y,e,s1, ?_⟩;exact(ha.imp λ _ _=>C0.same (X:=⟨w,keep,ρ⟩) (Y:=aA (dN w keep (λ b=>b∈ah ρ [(0,.box t cs)])) (w.setCell ⟨b,off,none⟩ y) ρ [(0,.box t (cs.set off (.v y)))]) hkk (λ q hq=>s2 q (hne q hq)) rfl).set off rfl
theorem bQ.cell{aW:List AV}(id off:Nat)(hE:Enters P f)(hf:aG id st.heap=some (.box t cs))(hx:cs[off]? =some (.v x))(ha:aW= .box id off::xs.map .v)
  (h:∀(b:Nat)(w:World),w.cell? ⟨b,off,none⟩=some x->w.frozen? ⟨b,off,none⟩=false->Calls P f (.pointer (some ⟨b,off,none⟩)::xs).toArray w λ e w'=>e= .returned r/\w'=w.setCell ⟨b,off,none⟩ y)
  (hK:K (.v r) ⟨st.sl,setObj id (.box t (cs.set off (.v y))) st.heap,st.back,st.base⟩):bQ P L W d f aW st K:=by
 refine .sem hE λ g N bs ρ a w args R hargs=>?_;subst ha;obtain⟨b,us,e,hh,hc⟩:=R.objs _ (au hf);have e:ρ id=_:=e;have hh:w.heap[b]? =_:=hh;cases args with
 |nil=>have:=hargs.1;simp at this
 |cons a0 tl=>
  obtain⟨b0,hb0,ea⟩:∃b0,dD (ρ id)= .pointer (some ⟨b0,0,none⟩)/\a0= .pointer (some ⟨b0,off,none⟩):=hargs.2 0 _ _ rfl rfl;rw[e]at hb0;cases hb0;subst ea;have hxs:tl=xs:=by
   refine BG.zS (X:=aA g w ρ st.heap) ⟨by simpa using hargs.1,λ i x u hx hu=>?_⟩;rw[anE]at hx;cases hq:xs[i]? with
   |none=>rw[hq]at hx;cases hx
   |some q=>
    rw[hq]at hx;cases hx;exact hargs.2 (i+1) (.v q) u (by simp[hq]) (by simpa using hu)
  subst hxs;obtain⟨u,hu,hxu⟩:=hc.get hx;have hxu:u=x:=hxu;subst hxu;obtain⟨g1,g2⟩:=oG (i:=off) hh;refine(h b w (g1.trans hu) g2).mono ?_;rintro e0 w' ⟨rfl,rfl⟩;obtain⟨s1,s2,s3,s4,s5,s6⟩:=yX (i:=off) y hh;refine⟨_,_,_,ρ,rfl,hK,R.write hf (b:=b) (by rw[e];exact amW) ⟨s4,s5,s6,by rw[s3];exact ani _,λ k hk=>s2 k o_⟩ s3 s2 (λ hk hm=>?_),rfl⟩;exact⟨b,us.set off y,e,s1,(hc.imp λ _ _=>C0.same (X:=aA g w ρ st.heap) (Y:=aA g (w.setCell ⟨b,off,none⟩ y) ρ (setObj id (.box t (cs.set off (.v y))) st.heap)) hk hm rfl).set off rfl⟩
theorem bQ.done{g:AV}(id:Nat)(hf:aG id st.heap=some (.box t cs))(hx:cs[0]? =some (.v (.int .u32 1)))(hK:K (.aZ []) st):bQ prog L W d 186 [.box id 0,g] st K:=by
 refine .sem ⟨_,_,func186,rfl,rfl⟩ λ G N bs ρ a w args R hargs=>?_;obtain⟨b,us,e,hh,hc⟩:=R.objs _ (au hf);have e:ρ id=_:=e;have hh:w.heap[b]? =_:=hh;obtain⟨a0,a1,rfl,h0,h1⟩:=mW hargs;obtain⟨b0,hb0,rfl⟩:∃b0,dD (ρ id)= .pointer (some ⟨b0,0,none⟩)/\a0= .pointer (some ⟨b0,0,none⟩):=h0;rw[e]at hb0;cases hb0;obtain⟨u,hu,hxu⟩:=hc.get hx;have hxu:u=_:=hxu;subst hxu;obtain⟨g1,g2⟩:=oG (i:=0) hh;refine(ajp ⟨b,0,none⟩ a1 w (g1.trans hu)).mono ?_;rintro e0 w' ⟨rfl,rfl⟩;exact⟨_,_,_,ρ,rfl,hK,R,[],rfl,aC.nil⟩
theorem ad2{x y:Int}(h1: -9223372036854775808<=x+y)(h2:x+y<=9223372036854775807)(w:World):(Op.intArith .add .i64 x y).run prog w= .ok (.int .i64 (x+y)) w:=by
 have:IntKind.i64.wrap (x+y)=x+y:=by
  simp only[IntKind.wrap,IntKind.signed,IntKind.bits];simp;omega
 simp[Op.intArith,this]
theorem bQ.add(id off:Nat){x y:Int}(hf:aG id st.heap=some (.box t cs))(hx:cs[off]? =some (.v (.int .i64 x)))(h1: -9223372036854775808<=x+y)(h2:x+y<=9223372036854775807)
  (hK:K (.v (.int .i64 (x+y))) ⟨st.sl,setObj id (.box t (cs.set off (.v (.int .i64 (x+y))))) st.heap,st.back,st.base⟩):bQ prog L W d 189 [.box id off,.v (.int .i64 y)] st K:=
 bQ.cell (xs:=[.int .i64 y]) id off ⟨_,_,func189,rfl,rfl⟩ hf hx rfl (λ b w hc hz=>akO ⟨b,off,none⟩ x y (x+y) w hc hz (ad2 h1 h2 w)) hK
theorem ag3(t t1:TypeId)(rest rest':List AV)(c:List AV)(ho:List (Nat×AO))
  (hcl:aj prog 187 [(0,.box t (.v (.int .u32 0):: .v (.int .i32 1)::rest)),(1,.box t1 c)] [.box 1 0] (.aZ []) ((0,.box t (.v (.int .u32 0):: .v (.int .i32 1)::rest'))::ho))(hne:bJ 0 ho=false):
  aj prog 186 [(0,.box t (.v (.int .u32 0):: .v (.int .i32 0)::rest)),(1,.box t1 c)] [.box 0 0,.fn 187 [.box 1 0]] (.aZ []) ((0,.box t (.v (.int .u32 1):: .v (.int .i32 0)::rest'))::ho):=by
 refine⟨⟨_,_,func186,rfl,rfl⟩,λ w keep ρ args hk jg hnd hbl hargs=>?_⟩;obtain⟨b,us,e,hh,ha⟩:=jg _ amW;have e:ρ 0=_:=e;have hh:w.heap[b]? =_:=hh;have ha:aC (C0 ⟨w,keep,ρ⟩) _ us:=ha;obtain⟨a0,a1,rfl,h0,h1⟩:=mW hargs;obtain⟨b0,hb0,rfl⟩:∃b0,dD (ρ 0)= .pointer (some ⟨b0,0,none⟩)/\a0= .pointer (some ⟨b0,0,none⟩):=h0;rw[e]at hb0;cases hb0;obtain⟨cs,rfl,hcs⟩:∃us:List Value,a1= .func (.func 187) #[] us.toArray/\aC (C0 ⟨w,keep,ρ⟩) [.box 1 0] us:=h1;obtain⟨u0,hu0,hx0⟩:=ha.get (i:=0) rfl;obtain⟨u1,hu1,hx1⟩:=ha.get (i:=1) rfl;have hx0:u0=_:=hx0;have hx1:u1=_:=hx1;subst hx0 hx1;obtain⟨g0,z0⟩:=oG (i:=0) hh;obtain⟨g1,z1⟩:=oG (i:=1) hh;obtain⟨s1,s2,s3,s4,s5,s6⟩:=yX (i:=1) (.int .i32 1) hh;let w2:=w.setCell ⟨b,1,none⟩ (.int .i32 1);let hin:List (Nat×AO):=[(0,.box t (.v (.int .u32 0):: .v (.int .i32 0)::rest)),(1,.box t1 c)];let hin':List (Nat×AO):=[(0,.box t (.v (.int .u32 0):: .v (.int .i32 1)::rest)),(1,.box t1 c)];have hbe:ah ρ hin'=ah ρ hin:=rfl;have Ar:b∈ah ρ hin:=aN.2 ⟨_,amW,by show b∈blks (ρ 0);rw[e];exact amW⟩;have hne':∀q,keep q->q≠b:=λ q hq e=>(hbl q (by rw[e];exact Ar)).2 hq;have hsame:∀q,keep q->w2.heap[q]? =w.heap[q]? :=λ q hq=>s2 q (hne' q hq);have hob:∀p∈hin',aQ ⟨w2,keep,ρ⟩ p.1 p.2:=by
  intro p hp;rcases am4.1 hp with rfl|hp
  ·exact⟨b,us.set 1 (.int .i32 1),e,s1,(ha.imp λ _ _=>C0.same (X:=⟨w,keep,ρ⟩) (Y:=⟨w2,keep,ρ⟩) (λ _ h=>h) hsame rfl).set 1 (x:= .v (.int .i32 1)) rfl⟩
  ·obtain rfl:=amZ.1 hp;refine aQ.same (X:=⟨w,keep,ρ⟩) (Y:=⟨w2,keep,ρ⟩) (λ _ h=>h) hsame rfl (λ q hq=>s2 q ?_) (jg _ (am1 _ hp));rintro rfl;have:(0:Nat)=1:=fE hnd (0,.box t (.v (.int .u32 0):: .v (.int .i32 0)::rest)) amW (1,.box t1 c) (am1 _ hp) (by show q∈blks (ρ 0);rw[e];exact amW) hq;omega
 have hcall:=hcl.2 w2 keep ρ cs (λ q hq=>by rw[s3];exact hk q hq) hob hnd (λ q hq=>⟨by rw[s3];exact(hbl q hq).1,(hbl q hq).2⟩) (hcs.imp λ x u h=>C1.uO (C0.same (X:=⟨w,keep,ρ⟩) (Y:=⟨w2,keep,ρ⟩) (λ _ h=>h) hsame rfl h));let rW:List (Nat×AO):=(0,.box t (.v (.int .u32 0):: .v (.int .i32 1)::rest'))::ho;let hout:List (Nat×AO):=(0,.box t (.v (.int .u32 1):: .v (.int .i32 0)::rest'))::ho;refine(ag2 b 0 cs.toArray w (λ w1=> ∃ρ',dG (λ q=>q∈ah ρ hin) w2.heap.size w2 w1/\(∀p∈hin',∀q∈rW,q.1=p.1->CU (ρ' p.1) (ρ p.1))/\(∀p∈rW,aQ (aA (dN w2 keep (λ q=>q∈ah ρ hin)) w1 ρ' rW) p.1 p.2)/\(ah ρ' rW).Nodup/\ ∀q∈ah ρ' rW,w2.heap.size<=q\/q∈ah ρ hin)
  (g0.trans hu0) (g1.trans hu1) z1 (hcall.mono ?_) ?_).mono ?_
 ·rintro e0 w1 ⟨u,ρ',rfl,a1,a2,a3,a4,a5,a6⟩;obtain⟨vs,rfl,hvs⟩:∃us:List Value,u= .tuple us.toArray/\aC _ [] us:=a3;have:vs=[]:=am9 hvs.1.symm;subst this;exact⟨rfl,ρ',a1,a2,a4,a5,a6⟩
 ·rintro w1 ⟨ρ',a1,a2,a4,a5,a6⟩;obtain⟨b1,vs,e1,hh1,ha1⟩:=a4 _ amW;have e1:ρ' 0=_:=e1;have hh1:w1.heap[b1]? =_:=hh1;have h01:=a2 (0,.box t (.v (.int .u32 0):: .v (.int .i32 1)::rest)) amW (0,.box t (.v (.int .u32 0):: .v (.int .i32 1)::rest')) amW rfl;have h01:=h01.hd;dsimp only at h01;rw[e1,e]at h01;cases h01;obtain⟨v0,hv0,hx0⟩:=ha1.get (i:=0) rfl;obtain⟨v1,hv1,hx1⟩:=ha1.get (i:=1) rfl;have hx0:v0=_:=hx0;have hx1:v1=_:=hx1;subst hx0 hx1;obtain⟨q0,y0⟩:=oG (i:=0) hh1;obtain⟨q1,y1⟩:=oG (i:=1) hh1;exact⟨q0.trans hv0,q1.trans hv1,y0,y1⟩
 ·rintro e0 w' ⟨rfl,w1,⟨ρ',a1,a2,a4,a5,a6⟩,rfl⟩;obtain⟨b1,vs,e1,hh1,ha1⟩:=a4 _ amW;have e1:ρ' 0=_:=e1;have hh1:w1.heap[b1]? =_:=hh1;have ha1:aC (C0 (aA (dN w2 keep (λ q=>q∈ah ρ hin)) w1 ρ' rW)) _ vs:=ha1;have h01:=a2 (0,.box t (.v (.int .u32 0):: .v (.int .i32 1)::rest)) amW (0,.box t (.v (.int .u32 0):: .v (.int .i32 1)::rest')) amW rfl;have h01:=h01.hd;dsimp only at h01;rw[e1,e]at h01;cases h01;have al1:w1.drew.heap[b]? =_:=hh1;obtain⟨p1,p2,p3,p4,p5,p6⟩:=yX (i:=0) (.int .u32 1) al1;obtain⟨r1,r2,r3,r4,r5,r6⟩:=yX (i:=1) (.int .i32 0) p1;let w3:=(w1.drew.setCell ⟨b,0,none⟩ (.int .u32 1)).setCell ⟨b,1,none⟩ (.int .i32 0);have hoth:∀k,k≠b->w3.heap[k]? =w1.heap[k]? :=λ k hk=>(r2 k hk).trans (p2 k hk);have hsz:w3.heap.size=w1.heap.size:=r3.trans p3;have amy:ah ρ' hout=ah ρ' rW:=rfl;have hbo:b∈ah ρ' rW:=aN.2 ⟨_,amW,by show b∈blks (ρ' 0);rw[e1];exact amW⟩;have hkk:∀q,aH (dN w2 keep (λ q=>q∈ah ρ hin)) w1 ρ' rW q->aH (dN w keep (λ q=>q∈ah ρ hin)) w3 ρ' hout q:=by
   rintro q ⟨k1,k2,k3⟩;exact⟨by rw[hsz];exact k1,λ hlt=>k2 (by show q<w2.heap.size;rw[s3];exact hlt),k3⟩
  have hmm:∀q,aH (dN w2 keep (λ q=>q∈ah ρ hin)) w1 ρ' rW q->w3.heap[q]? =w1.heap[q]? :=λ q hq=>hoth q λ e=>hq.2.2 (by rw[e];exact hbo);have hw2:w2.heap.size=w.heap.size:=s3;refine⟨_,ρ',rfl,⟨?_, ?_, ?_, ?_,λ k hk hM=>?_⟩, ?_,⟨[],rfl,aC.nil⟩,λ p hp=>?_,a5,λ q hq=>by rw[<-hw2];exact a6 q hq⟩
  ·exact(r4.trans p4).trans (a1.os.trans s4)
  ·exact(r5.trans p5).trans (a1.tape.trans s5)
  ·exact(r6.trans p6).trans (a1.output.trans s6)
  ·show w.heap.size<=w3.heap.size;rw[hsz,<-hw2];exact a1.size
  ·have hkb:k≠b:=λ e=>hM (by rw[e];exact Ar);exact(hoth k hkb).trans ((a1.block k (by rw[hw2];exact hk) hM).trans (s2 k hkb))
  ·intro p hp q hq he;rcases am4.1 hp with rfl|hp
   ·exact a2 (0,.box t (.v (.int .u32 0):: .v (.int .i32 1)::rest)) amW (0,.box t (.v (.int .u32 0):: .v (.int .i32 1)::rest')) amW rfl
   ·rcases am4.1 hq with rfl|hq
    ·obtain rfl:=amZ.1 hp;cases he
    ·exact a2 p (am1 _ hp) q (am1 _ hq) he
  ·rcases am4.1 hp with rfl|hp
   ·refine⟨b,(vs.set 0 (.int .u32 1)).set 1 (.int .i32 0),e1,r1, ?_⟩;exact((ha1.imp λ _ _=>C0.same (X:=aA (dN w2 keep (λ q=>q∈ah ρ hin)) w1 ρ' rW) (Y:=aA (dN w keep (λ q=>q∈ah ρ hin)) w3 ρ' hout) hkk hmm rfl).set 0 (x:= .v (.int .u32 1)) rfl).set 1 (x:= .v (.int .i32 0)) rfl
   ·refine aQ.same (X:=aA (dN w2 keep (λ q=>q∈ah ρ hin)) w1 ρ' rW) (Y:=aA (dN w keep (λ q=>q∈ah ρ hin)) w3 ρ' hout) hkk hmm rfl (λ q hq=>hoth q ?_) (a4 p (am1 _ hp));rintro rfl;have h0p:=fE a5 (0,.box t (.v (.int .u32 0):: .v (.int .i32 1)::rest')) amW p (am1 _ hp) (by show q∈blks (ρ' 0);rw[e1];exact amW) hq;rw[bM.2 ⟨p,hp,h0p.symm⟩]at hne;cases hne
def JL(e a:Ev):Bool:=decide (a.k=1)&&aJ a e
theorem iH(l:List Ev)(e:Ev)(hl:l.length<=140737488355328):
  aF prog 222 [.sl 12 l.length true (dA l),e.av] (.v (.bool (l.any (JL e)))) []:=by
 have hyes:∀j,j<l.length->(l.getD j default).k=1->aJ (l.getD j default) e=true->l.any (JL e)=true:=λ j hj h1 h3=>Ql hj (by unfold JL;rw[h1,h3];simp);have hno:(∀i,i<l.length->JL e (l.getD i default)=false)->l.any (JL e)=false:=λ h=>any_none h;generalize l.any (JL e)=R at hyes hno;dsimp only[Ev.av];dsimp only[Ev.cs];refine K1.E 0x1b func222 ?_;repeat' ((conv=>whnf);first|refine K1.I 0x13 func151 ?_|refine K1.I 0x103b3 func203 ?_|fail)
 conv=>whnf
 refine aI.mk {j:Nat//j<=l.length/\ ∀i,i<j->JL e (l.getD i default)=false} (λ j=>⟨[(8,.v (.int .i64 (j.1:Int))),(7,.v (.int .i64 (l.length:Int))),(0,.sl 12 l.length true (dA l)),(1,.fn 239 [.box 0 0])],
   [(0,.box 74 e.cs)],[[],[]],1⟩) (λ j=>l.length-j.1) ⟨0,ane _,λ i h=>absurd h (anA i)⟩ _
  (dZ.mkB [] _ _ _ rfl gQ nM rfl) ?_
 rintro⟨j,hj,hall⟩;dsimp only;by_cases hjl:j<l.length
 ·have hbj:=wM (l.getD (j:Int).toNat default) e;have hyj:=hyes j hjl;rw[show j=(j:Int).toNat by omega]at hyj;have hnj:(decide ((l.getD (j:Int).toNat default).k=1)&&aJ (l.getD (j:Int).toNat default) e)=false-> ∀i,i<j+1->JL e (l.getD i default)=false:=by
   intro h i hi;rcases anr i j with h'|h'
   ·exact hall i h'
   ·obtain rfl:i=j:=o_
    rwa [show(i:Int).toNat=i by omega]at h
  dsimp only[Ev.av,Ev.cs]at hbj⊢;generalize aJ (l.getD (j:Int).toNat default) e=q2 at hbj hyj hnj;repeat' ((conv=>whnf);first|refine K1.u ?_|refine K1.P1 hbj ?_|refine K1.I 0xf func239 ?_|refine aT.fH ?_|refine K1.y (λ _=>?_) (λ _=>?_)|fail)
  all_goals(conv=>whnf)
  all_goals first
   |(rw[hyj a_ a_];exact bF.mk (bY))
   |exact⟨⟨j+1,o_,hnj (by first|(rw[decide_eq_false a_];rfl)|(rw[show q2=false by assumption];simp))⟩,_,dZ.mk' [] _ _ _ rfl gQ nM rfl,by show l.length-(j+1)<l.length-j;omega⟩
 ·have hR:R=false:=hno λ i hi=>hall i o_;repeat' ((conv=>whnf);first|refine K1.u ?_|refine aT.fH ?_|fail)
  all_goals(conv=>whnf)
  rw[hR];exact bF.mk (bY)
end Go.Proofs.YtkimgljckickcaaGreat
