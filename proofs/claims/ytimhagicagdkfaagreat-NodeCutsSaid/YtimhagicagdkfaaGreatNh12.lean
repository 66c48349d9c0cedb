/-
  Contracts of the walk:RcD,Tk,Crc,Vin,EvW,Rec,FitP,RecP.
-/
import Derived.Test.YtimhagicagdkfaaGreatNh8
import Derived.Test.YtimhagicagdkfaaGreatNh9
import Derived.Test.YtimhagicagdkfaaGreatNh6
import Derived.Laws.BitsAllLaws
import Derived.Laws.StructEq
import Derived.Laws.Cover2
import Derived.Test.YtimhagicagdkfaaGreatNh10
set_option maxHeartbeats 16000000
set_option maxRecDepth 100000
set_option linter.unusedVariables false
set_option linter.unusedSimpArgs false
namespace Go.Proofs.YtimhagicagdkfaaGreat
section
open Go.RowKit
structure Rc where
 (k r u:Int) (c:aW) (ev:List Ev)
def Rc.cs (x:Rc):List AV:=[.v (.int .i64 x.k),.v (.int .i64 x.r),.v (.int .i64 x.u),.v (.int .i64 x.c.c0),.v (.int .i64 x.c.c1),.v (.int .i64 x.c.c2),.v (.int .i64 x.c.c3),.v (.int .i64 x.c.c4),.sl 12 x.ev.length true (dX x.ev)]
def Rc.av (x:Rc):AV:= .agg x.cs
def Bl (k:Int):Bool:=k==3||k==4
def Bo (k:Int):Bool:=k==1||k==2||k==5||k==4
def Bq (k:Int):Bool:=k==6
def rcK (k:Int):Bool:=decide (1≤k∧k≤6)
def OX (c:aW):Bool:=nV c.c0&&nV c.c1&&nV c.c2&&nV c.c3&&nV c.c4
def G5 (c:aW):Bool:=decide (c.c0=0∧c.c1=0∧c.c2=0∧c.c3=0∧c.c4=0)
theorem iG (c:aW):G5 c=true↔c=bY:=by
 obtain⟨a,b,d,e,f⟩:=c
 simp[G5,bY]
def iI (x:Rc):Bool:=
 rcK x.k&&decide (0≤x.r)&&decide (x.r<5)&&nV x.u&&decide (x.ev.length≤4096)&&OX x.c&&(Bl x.k||decide (x.u=0))&&(Bq x.k||G5 x.c)&&(Bo x.k||decide (x.ev.length=0))&&
  x.ev.all (fun e=>decide (eG e=0))&&(decide (x.k≠1)||decide (x.ev.length=1))
end
section
open Go.RowKit
theorem bg.drop {F:Nat→List AV} {l:List UInt8} (h:bg F l) (k:Nat):bg (fun i=>F (k+i)) (l.drop k):=by
 intro i hi
 rw[List.length_drop]at hi
 show F (k+i)=bC ((l.drop k).getD i default)
 rw[h (k+i) (by omega)]
 show bC (l.getD (k+i) default)=_
 congr 1
 simp
theorem bg.take {F:Nat→List AV} {l:List UInt8} (h:bg F l) (k:Nat):bg F (l.take k):=by
 intro i hi
 rw[List.length_take]at hi
 show F i=bC ((l.take k).getD i default)
 rw[h i (by omega)]
 show bC (l.getD i default)=_
 congr 1
 simp[show i<k by omega]
theorem aS.nT {n:Nat} {sc:Bool} {F:Nat→List AV} {l:List UInt8} (h:bg F l) (hn:n=l.length):aS (.sl 1 n sc F) (.sl 1 l.length sc (aU l)):=aS.sl hn fun i hi=>h i (by omega)
theorem G6: ∀l:List UInt8,flat l.length (aU l)=l.map fun b=> .v (.int .u8 (b.toNat:Int))
  |[]=>rfl
  | b::l=>by
    show aU (b::l) 0++flat l.length (fun i=>aU (b::l) (i+1))=_
    rw[List.map_cons,←G6 l]
    rfl
theorem aI.vals {R:AV→Value→Prop} (hR: ∀x u,R (.v x) u→u=x): ∀ {xs us:List Value},aI R (xs.map .v) us→us=xs
  | [],us,h=>by
    have:=h.1
    simp at this
    exact List.eq_nil_of_length_eq_zero this.symm
  |x::xs,[],h=>by have:=h.1;simp at this
  | x::xs,u::us,h=>by
    have h0:u=x:=hR x u (h.2 0 _ _ rfl rfl)
    have:=aI.vals hR (xs:=xs) (us:=us) ⟨by simpa using h.1,fun i a b ha hb=>h.2 (i+1) a b (by simpa using ha) (by simpa using hb)⟩
    rw[h0,this]
theorem Bs.of {n:Nat} {F:Nat→List AV} {K:List UInt8→Prop} (l:List UInt8) (hF:bg F l) (hn:n=l.length) (h:K l):Bs n F K:= .mk l hn (fun i hi=>hF i (by omega)) h
theorem aeR:(default:UInt8)=0:=rfl
theorem Rt {P:Program} {f:FuncId} {r:AV} {l:List UInt8} (he:Enters P f) (h: ∀ (A:Option Addr) (n c:Nat) (w:World),Rd w w.heap.size 1 A n (l.map bV)→n=l.length→n≤c→
  Calls P f #[.slice A n c] w fun e w'=> ∃u,e= .returned u∧Below w.heap.size w w'∧ ∀X,C2 X r u) {n:Nat} {F:Nat→List AV} (hF:bg F l) (hn:n=l.length):aH P f [.sl 1 n true F] r []:=by
 refine⟨he,fun w keep args hkeep hargs=>?_⟩
 obtain⟨u,rfl,hu⟩:=rF hargs
 have hu:PC w keep (.sl 1 l.length true (aU l)) u:=aS.nT hF hn ⟨w,keep,fun _=>undef⟩ u hu
 cases hu with
 | sl _ _ _ _ A c us hs hnc hc hl hf hsc hpc hr=>
   have hall:aI (PC w keep) (flat l.length (aU l)) us:=⟨by rw[hl];exact ng hf,hpc⟩
   have e1:flat l.length (aU l)=(l.map bV).map .v:=by rw[G6,List.map_map];rfl
   rw[e1]at hall
   have e2:us=l.map bV:=aI.vals (fun x u h=>by cases h;rfl) hall
   subst e2
   have hRd:Rd w w.heap.size 1 A l.length (l.map bV):=by
    refine⟨by simp,fun hpos=>?_⟩
    rcases hr with h0|⟨b,o,hA,hk,hcell⟩
    · omega
    · exact⟨b,o,hA,hkeep b hk,hcell⟩
   refine(h A l.length c w hRd rfl hnc).mono ?_
   rintro e w' ⟨v,h1,h2,h3⟩
   exact⟨v,fun _=>undef,h1,h2,h3 _,(fun p hp=>by cases hp),by simp[ah],(fun b hb=>by simp[ah]at hb)⟩
theorem C2.aeS (X:CX) (a b c:Value):C2 X (.dF [.v a,.v b,.v c]) (.tuple #[a,b,c]):=⟨[a,b,c],rfl,aI.cons (R:=C1 X) (show C1 X (.v a) a from rfl) (aI.cons (R:=C1 X) (show C1 X (.v b) b from rfl) (aI.cons (R:=C1 X) (show C1 X (.v c) c from rfl) aI.nil))⟩
theorem jd {n:Nat} {F:Nat→List AV} (l:List UInt8) (hF:bg F l) (hn:n=l.length):aH Tryz.prog 80 [.sl 1 n true F] (.dF [.v (.int .u64 ((dG l).1:Int)),.v (.int .i64 ((dG l).2.1:Int)),.v (.int .i64 (dG l).2.2)]) []:=
 Rt ⟨_,_,Tryz.func80,rfl,rfl⟩ (fun A n c w h h1 h2=>(Vp A n c l w h h1 h2).mono fun e w' ⟨h3,h4⟩=>⟨_,h3,by rw[h4];exact Below.refl _ _,fun X=>C2.aeS X _ _ _⟩) hF hn
def eT (x:Int):AO:= .box 26 [.v (.int .i64 x)]
def iT (u:Nat):AO:= .box 3 [.v (.int .i64 (u:Int))]
def bT (bs:List UInt8):AO:= .box 49 [.sl 1 bs.length true (aU bs)]
theorem YV (bs:List UInt8) (u:Nat) (x lo hi:Int) (hl:bs.length≤1000000000):
  aV Tryz.prog 141 [(0,eT x),(1,iT u),(2,bT bs)] [.v (.int .i64 lo),.v (.int .i64 hi),.box 0 0,.box 1 0,.box 2 0]
   (.v (.int .i64 (fK bs lo hi (u,x)).1)) [(0,eT (fK bs lo hi (u,x)).2.2),(1,iT (fK bs lo hi (u,x)).2.1),(2,bT bs)]:=by
 unfold eT iT bT
 refine K1.M 0x4005019f Tryz.func141 10 ?_
 repeat' ((conv=>whnf);first|refine K1.w ?_|refine K1.u ?_|refine K1.P1 (wK _ _ _) rfl ?_|refine K1.z ?_|refine K1.y (fun _=>?_) (fun _=>?_)|fail)
 all_goals(conv=>whnf)
 all_goals(refine Lu.auto rfl rfl ⟨⟨_,rfl,bW.box1 ?_⟩,⟨_,rfl,bW.box1 ?_⟩,aF rfl,trivial⟩ rfl rfl (aS.int ?_))
 all_goals(unfold fK;simp only[aeR,Int.toNat_natCast]at*;grind)
theorem VA (bs:List UInt8) (u:Nat) (x lo hi:Int) (hu:u≤bs.length) (hl:bs.length≤1000000000) (h0:0≤lo) (h1:lo≤hi) (h2:hi≤16777216):
  aV Tryz.prog 142 [(0,eT x),(1,iT u),(2,bT bs)] [.v (.int .i64 lo),.v (.int .i64 hi),.box 0 0,.box 2 0,.box 1 0]
   (.v (.int .i64 (eY bs lo hi (u,x)).1)) [(0,eT (eY bs lo hi (u,x)).2.2),(1,iT (eY bs lo hi (u,x)).2.1),(2,bT bs)]:=by
 unfold eT iT bT
 have hv:=wL (bs.drop u)
 rw[List.length_drop]at hv
 refine K1.M 0x140000179f Tryz.func142 10 ?_
 repeat' ((conv=>whnf);first|refine K1.w ?_|refine K1.u ?_|refine K1.P1 (jd (bs.drop u) ((bg.bytes bs).drop _) (by simp)) rfl ?_|refine K1.z ?_|refine K1.y (fun _=>?_) (fun _=>?_)|fail)
 all_goals(conv=>whnf)
 all_goals(refine Lu.auto rfl rfl ⟨⟨_,rfl,bW.box1 ?_⟩,⟨_,rfl,bW.box1 ?_⟩,aF rfl,trivial⟩ rfl rfl (aS.int ?_))
 all_goals(unfold eY;grind)
theorem VB (bs:List UInt8) (u:Nat) (x sz:Int) (hu:u≤bs.length) (hl:bs.length≤1000000000) (h0:0≤sz) (h2:sz≤16777216):
  aV Tryz.prog 143 [(0,eT x),(1,iT u),(2,bT bs)] [.v (.int .i64 sz),.fn 115 [],.box 0 0,.box 2 0,.box 1 0]
   (.v (.string (fU bs sz keyE (u,x)).1)) [(0,eT (fU bs sz keyE (u,x)).2.2),(1,iT (fU bs sz keyE (u,x)).2.1),(2,bT bs)]:=by
 unfold eT iT bT
 obtain⟨z,rfl⟩:=Int.eq_ofNat_of_zero_le h0
 refine K1.M 0x40014019f Tryz.func143 10 ?_
 repeat' ((conv=>whnf);first|refine K1.w ?_|refine K1.u ?_|refine K1.P1 (Oz _) rfl ?_|refine Bs.of ((bs.drop u).take z) (((bg.bytes bs).drop _).take _) (by simp;omega) ?_|refine K1.z ?_|refine K1.y (fun _=>?_) (fun _=>?_)|fail)
 all_goals(conv=>whnf)
 all_goals(refine Lu.auto rfl rfl ⟨⟨_,rfl,bW.box1 ?_⟩,⟨_,rfl,bW.box1 ?_⟩,aF rfl,trivial⟩ rfl rfl (aS.str ?_))
 all_goals(unfold fU;first|(simp only[I8,Int.toNat_natCast]at*;grind)|grind)
theorem VD (bs:List UInt8) (u:Nat) (x sz:Int) (hu:u≤bs.length) (hl:bs.length≤1000000000) (h0:0≤sz) (h2:sz≤16777216):
  aV Tryz.prog 143 [(0,eT x),(1,iT u),(2,bT bs)] [.v (.int .i64 sz),.fn 117 [],.box 0 0,.box 2 0,.box 1 0]
   (.v (.string (fU bs sz fA (u,x)).1)) [(0,eT (fU bs sz fA (u,x)).2.2),(1,iT (fU bs sz fA (u,x)).2.1),(2,bT bs)]:=by
 unfold eT iT bT
 obtain⟨z,rfl⟩:=Int.eq_ofNat_of_zero_le h0
 refine K1.M 0x40014019f Tryz.func143 10 ?_
 repeat' ((conv=>whnf);first|refine K1.w ?_|refine K1.u ?_|refine K1.P1 (Gy _) rfl ?_|refine Bs.of ((bs.drop u).take z) (((bg.bytes bs).drop _).take _) (by simp;omega) ?_|refine K1.z ?_|refine K1.y (fun _=>?_) (fun _=>?_)|fail)
 all_goals(conv=>whnf)
 all_goals(refine Lu.auto rfl rfl ⟨⟨_,rfl,bW.box1 ?_⟩,⟨_,rfl,bW.box1 ?_⟩,aF rfl,trivial⟩ rfl rfl (aS.str ?_))
 all_goals(unfold fU;first|(simp only[I8,Int.toNat_natCast]at*;grind)|grind)
theorem aa7 {bs:List UInt8} {lo hi:Int} {s:Sq} (h:s.1≤bs.length):(eY bs lo hi s).2.1≤bs.length:=by
 have hv:=wL (bs.drop s.1)
 rw[List.length_drop]at hv
 unfold eY
 grind
theorem YW {bs:List UInt8} {sz:Int} {may:ByteArray→Int} {s:Sq} (h:s.1≤bs.length):(fU bs sz may s).2.1≤bs.length:=by unfold fU;grind
theorem ac8 {bs:List UInt8} {lo hi:Int} {s:Sq}:0≤(fK bs lo hi s).1∧(fK bs lo hi s).1≤255:=by
 unfold fK
 have:=UInt8.toNat_lt (bs.getD s.1 0)
 grind
theorem gB (bs:List UInt8) (s s':Sq) (lo hi c:Int) (h:fK bs lo hi s=(c,s')) (hl:bs.length≤1000000000):
  aV Tryz.prog 141 [(0,eT s.2),(1,iT s.1),(2,bT bs)] [.v (.int .i64 lo),.v (.int .i64 hi),.box 0 0,.box 1 0,.box 2 0]
   (.v (.int .i64 c)) [(0,eT s'.2),(1,iT s'.1),(2,bT bs)]:=by
 have:=YV bs s.1 s.2 lo hi hl
 rw[show(s.1,s.2)=s from rfl,h]at this
 exact this
theorem dU (bs:List UInt8) (s s':Sq) (lo hi c:Int) (h:eY bs lo hi s=(c,s')) (hu:s.1≤bs.length) (hl:bs.length≤1000000000) (h0:0≤lo) (h1:lo≤hi) (h2:hi≤16777216):
  aV Tryz.prog 142 [(0,eT s.2),(1,iT s.1),(2,bT bs)] [.v (.int .i64 lo),.v (.int .i64 hi),.box 0 0,.box 2 0,.box 1 0]
   (.v (.int .i64 c)) [(0,eT s'.2),(1,iT s'.1),(2,bT bs)]:=by
 have:=VA bs s.1 s.2 lo hi hu hl h0 h1 h2
 rw[show(s.1,s.2)=s from rfl,h]at this
 exact this
theorem wM (bs:List UInt8) (s s':Sq) (sz:Int) (c:ByteArray) (h:fU bs sz keyE s=(c,s')) (hu:s.1≤bs.length) (hl:bs.length≤1000000000) (h0:0≤sz∧sz≤255):
  aV Tryz.prog 143 [(0,eT s.2),(1,iT s.1),(2,bT bs)] [.v (.int .i64 sz),.fn 115 [],.box 0 0,.box 2 0,.box 1 0]
   (.v (.string c)) [(0,eT s'.2),(1,iT s'.1),(2,bT bs)]:=by
 have:=VB bs s.1 s.2 sz hu hl h0.1 (by omega)
 rw[show(s.1,s.2)=s from rfl,h]at this
 exact this
theorem wO (bs:List UInt8) (s s':Sq) (sz:Int) (c:ByteArray) (h:fU bs sz fA s=(c,s')) (hu:s.1≤bs.length) (hl:bs.length≤1000000000) (h0:0≤sz∧sz≤255):
  aV Tryz.prog 143 [(0,eT s.2),(1,iT s.1),(2,bT bs)] [.v (.int .i64 sz),.fn 117 [],.box 0 0,.box 2 0,.box 1 0]
   (.v (.string c)) [(0,eT s'.2),(1,iT s'.1),(2,bT bs)]:=by
 have:=VD bs s.1 s.2 sz hu hl h0.1 (by omega)
 rw[show(s.1,s.2)=s from rfl,h]at this
 exact this
end
section
open Go.RowKit
def nH (r:Nat):Nat:=if r%2=1 then(r/2)^^^3988292384 else r/2
def Bv (r:Nat):Nat→Nat
  |0=>r
  |j+1=>nH (Bv r j)
def yx (r:Nat) (c:UInt8):Nat:=Bv (r^^^c.toNat) 8
def nI (l:List UInt8):Nat:=l.foldl yx 4294967295
def jX (l:List UInt8):Nat:=4294967295^^^nI l
def qc (l:List UInt8):List UInt8:=[UInt8.ofNat (jX l),UInt8.ofNat (jX l/256),UInt8.ofNat (jX l/65536),UInt8.ofNat (jX l/16777216)]
def dW (l:List UInt8):List UInt8:=l++qc l
theorem Ru {r:Nat} (h:r<4294967296):nH r<4294967296:=by
 unfold nH
 split
 · exact Nat.xor_lt_two_pow (n:=32) (by omega) (by omega)
 · omega
theorem Bz {r:Nat} (h:r<4294967296): ∀j,Bv r j<4294967296
  |0=>h
  |j+1=>Ru (Bz h j)
theorem Rw {r:Nat} (h:r<4294967296) (c:UInt8):yx r c<4294967296:=by
 have:=UInt8.toNat_lt c
 exact Bz (Nat.xor_lt_two_pow (n:=32) (by omega) (by omega)) 8
theorem OY: ∀ (l:List UInt8) (r:Nat),r<4294967296→l.foldl yx r<4294967296
  |[],_,h=>h
  |c::l,_,h=>OY l _ (Rw h c)
theorem Dh (l:List UInt8):nI l<4294967296:=OY l _ (by omega)
theorem JW (l:List UInt8):jX l<4294967296:=Nat.xor_lt_two_pow (n:=32) (by omega) (Dh l)
theorem dB (l:List UInt8):(dW l).length=l.length+4:=by simp[dW,qc]
theorem OZ {a b:Nat} (ha:a<4294967296) (hb:b<4294967296):IntKind.u32.wrap ((BitVec.ofInt IntKind.u32.bits (a:Int)^^^BitVec.ofInt IntKind.u32.bits (b:Int)).toNat:Int)=((a^^^b:Nat):Int):=
 u32_xor_nat a b ha hb
theorem and1 {a:Nat} (ha:a<4294967296):IntKind.u32.wrap ((BitVec.ofInt IntKind.u32.bits (a:Int)&&&BitVec.ofInt IntKind.u32.bits (1:Int)).toNat:Int)=((a%2:Nat):Int):=by
 have h:IntKind.u32.wrap ((BitVec.ofInt IntKind.u32.bits (a:Int)&&&BitVec.ofInt IntKind.u32.bits ((1:Nat):Int)).toNat:Int)=((a&&&1:Nat):Int):=u32_and_nat a 1 ha (by omega)
 rw[Nat.and_one_is_mod]at h
 exact h
theorem uZ.and1 {a:Nat} (ha:a<4294967296) {A B:Prop} (h1:a%2=1→A) (h2: ¬a%2=1→B):uZ (IntKind.u32.wrap ((BitVec.ofInt IntKind.u32.bits (a:Int)&&&BitVec.ofInt IntKind.u32.bits (1:Int)).toNat:Int)=1) A B:=by
 have e:=_root_.Go.Proofs.YtimhagicagdkfaaGreat.and1 ha
 rw[e]
 refine⟨fun h=>h1 (by omega),fun h=>h2 (by omega)⟩
theorem ad7 (a:Nat):(a:Int).fdiv (2^min (Int.toNat 1) IntKind.u32.bits)=((a/2:Nat):Int):=by
 show(a:Int).fdiv (2:Int)=_
 rw[Int.fdiv_eq_ediv_of_nonneg _ (by omega)]
 omega
theorem VE (r:Nat) (hr:r<4294967296) (c:UInt8):aH Tryz.prog 140 [.v (.int .u32 (r:Int)),.v (.int .u8 (c.toNat:Int))] (.v (.int .u32 (yx r c:Int))) []:=by
 have hc:=UInt8.toNat_lt c
 have h0:r^^^c.toNat<4294967296:=Nat.xor_lt_two_pow (n:=32) (by omega) (by omega)
 refine K1.E 0x2613 Tryz.func140 ?_
 repeat' ((conv=>whnf);first|refine K1.w ?_|refine K1.u ?_|refine K1.z ?_|refine K1.y (fun _=>?_) (fun _=>?_)|fail)
 conv=>whnf
 refine aN.mk {j:Nat//j≤8} (fun j=>⟨[(0,.v (.int .u32 (Bv (r^^^c.toNat) j.1:Int))),(9,.v (.int .i64 (j.1:Int)))],[],[],0⟩) (fun j=>8-j.1) ⟨0,Nat.zero_le _⟩ _
  (dL.mk' [] _ _ _ rfl ⟨aS.int (OZ hr (by omega)),aS.int rfl,trivial⟩ trivial rfl) ?_
 rintro⟨j,hj⟩
 dsimp only
 have hj2:=Bz h0 j
 repeat' ((conv=>whnf);first|refine K1.w ?_|refine K1.u ?_|refine uZ.and1 hj2 (fun _=>?_) (fun _=>?_)|refine aJ.dO ?_|refine K1.z ?_|refine K1.y (fun _=>?_) (fun _=>?_)|fail)
 · rename_i h1
   refine⟨⟨j+1,by omega⟩,_,dL.mk' [] _ _ _ rfl ⟨aS.int ?_,aS.int rfl,trivial⟩ trivial rfl,by show 8-(j+1)<8-j;omega⟩
   show _=((nH (Bv (r^^^c.toNat) j):Nat):Int)
   unfold nH
   rw[if_pos h1,←OZ (by omega) (by omega),←ad7]
   rfl
 · rename_i h1
   refine⟨⟨j+1,by omega⟩,_,dL.mk' [] _ _ _ rfl ⟨aS.int ?_,aS.int rfl,trivial⟩ trivial rfl,by show 8-(j+1)<8-j;omega⟩
   show _=((nH (Bv (r^^^c.toNat) j):Nat):Int)
   unfold nH
   rw[if_neg h1]
   exact ad7 _
 · conv=>whnf
   have:j=8:=by omega
   subst this
   exact bF.mk (aj)
theorem D8 {l:List UInt8} {j:Nat} (h:j<l.length):nI (l.take (j+1))=yx (nI (l.take j)) (l.getD j 0):=by
 rw[List.take_add_one,List.getElem?_eq_getElem h,List.getD,List.getElem?_eq_getElem h,nI,List.foldl_append]
 rfl
theorem Wr.aeT {s:Nat} {m:Int} {K:Int→Prop} (h:K (IntKind.u8.wrap ((s:Int).fdiv m))):Wr ((s:Int).fdiv m) K .u8:= .raw .u8 h
theorem YX {n:Nat} {F:Nat→List AV} (l:List UInt8) (hF:bg F l) (hn:n=l.length) (hl:l.length≤140737488355328):aH Tryz.prog 113 [.sl 1 n true F] (.v (.int .u32 (jX l:Int))) []:=by
 refine aH.args (bvs:=[.sl 1 l.length true (aU l)]) ?_ (.of (fun X u hu=>aS.nT (sc:=true) hF hn X u hu) .nil)
 have YZ (j:Nat):nI (l.take j)<4294967296:=Dh _
 have hs (j:Nat) (c:UInt8):=VE (nI (l.take j)) (YZ j) c
 refine K1.E 0x3ed Tryz.func113 ?_
 repeat' ((conv=>whnf);first|refine K1.w ?_|refine K1.u ?_|refine K1.z ?_|refine K1.y (fun _=>?_) (fun _=>?_)|fail)
 conv=>whnf
 refine aN.mk {j:Nat//j≤l.length} (fun j=>⟨[(3,.v (.int .u32 (nI (l.take j.1):Int))),(6,.sl 1 l.length true (aU l)),(7,.v (.int .i64 (l.length:Int))),(8,.v (.int .i64 (j.1:Int)))],[],[],0⟩) (fun j=>l.length-j.1) ⟨0,Nat.zero_le _⟩ _
  (dL.mk' [] _ _ _ rfl ⟨aS.int rfl,aj,aj,aS.int rfl,trivial⟩ trivial rfl) ?_
 rintro⟨j,hj⟩
 dsimp only
 repeat' ((conv=>whnf);first|refine K1.w ?_|refine K1.u ?_|refine K1.P1 (hs j _) rfl ?_|refine aJ.dO ?_|refine K1.z ?_|refine K1.y (fun _=>?_) (fun _=>?_)|fail)
 · refine⟨⟨j+1,by omega⟩,_,dL.mk' [] _ _ _ rfl ⟨aS.int ?_,aj,aj,aS.int rfl,trivial⟩ trivial rfl,by show l.length-(j+1)<l.length-j;omega⟩
   show _=((nI (l.take (j+1)):Nat):Int)
   rw[D8 (by omega)]
   rfl
 · conv=>whnf
   refine bF.mk (aS.int ?_)
   show IntKind.u32.wrap ((BitVec.ofInt IntKind.u32.bits ((4294967295:Nat):Int)^^^BitVec.ofInt IntKind.u32.bits (nI (l.take j):Int)).toNat:Int)=_
   rw[OZ (by omega) (YZ j),List.take_of_length_le (by omega)]
   rfl
def u8C (n:Nat):AV:= .v (.int .u8 ((UInt8.ofNat n).toNat:Int))
def Rz (s:Nat):List AV:=[u8C s,u8C (s/256),u8C (s/65536),u8C (s/16777216)]
theorem ac9 (n:Nat) (m:Nat):IntKind.u8.wrap ((n:Int).fdiv ((m:Nat):Int))=((UInt8.ofNat (n/m)).toNat:Int):=by
 rw[IntKind.wrap_u8,Int.fdiv_eq_ediv_of_nonneg _ (Int.natCast_nonneg m),UInt8.toNat_ofNat']
 simp
theorem u8V (n:Nat) (m:Nat):AV.v (.int .u8 (IntKind.u8.wrap ((n:Int).fdiv ((m:Nat):Int))))=u8C (n/m):=by rw[ac9];rfl
theorem Di {n:Nat} {F:Nat→List AV} (l:List UInt8) (hF:bg F l) (hn:n=l.length) (hl:l.length≤140737488355328):aH Tryz.prog 79 [.sl 1 n true F] (.agg (Rz (jX l))) []:=by
 have hs:=JW l
 have hss:=YX l hF hn hl
 generalize jX l=s at hs hss
 refine K1.E 0x33d Tryz.func79 ?_
 repeat' ((conv=>whnf);first|refine K1.w ?_|refine K1.u ?_|refine K1.P1 hss rfl ?_|refine aN.rounds 5 ?_|refine aJ.dO ?_|refine Wr.aeT ?_|refine K1.z ?_|refine K1.y (fun _=>?_) (fun _=>?_)|fail)
 conv=>whnf
 refine bF.mk (aS.of (congrArg AV.agg ?_))
 unfold Rz
 rw[←u8V s 256,←u8V s 65536,←u8V s 16777216,show u8C s=AV.v (.int .u8 (IntKind.u8.wrap ((s:Int).fdiv ((1:Nat):Int)))) by rw[u8V,Nat.div_one]]
 rfl
theorem Ul (a0 a1 a2 a3 b0 b1 b2 b3:Int):KO Tryz.prog 137 [.int .u8 a0,.int .u8 a1,.int .u8 a2,.int .u8 a3] [.int .u8 b0,.int .u8 b1,.int .u8 b2,.int .u8 b3] (a0=b0∧a1=b1∧a2=b2∧a3=b3):=by
 refine⟨by kernel_rfl,fun w=>⟨decide (a0=b0∧a1=b1∧a2=b2∧a3=b3),by rw[decide_eq_true_eq], ?_⟩⟩
 show(Op.equalIn 10000 137 (.agg #[.int .u8 a0,.int .u8 a1,.int .u8 a2,.int .u8 a3]) (.agg #[.int .u8 b0,.int .u8 b1,.int .u8 b2,.int .u8 b3])).run Tryz.prog w=_
 rw[show(10000:Nat)=9999+1 from rfl,Op.equalIn]
 simp only[Sem.run_bind,run_underlying Tryz.underlying137,Result.andThen_ok]
 simp only[Std.Legacy.Range.forIn_eq_forIn_range',Std.Legacy.Range.size,Nat.sub_zero,Nat.add_sub_cancel,Nat.div_one,List.range'_succ,List.range'_zero,List.forIn_cons,List.forIn_nil]
 have u3:=Tryz.underlying5
 have a3':=Tryz.isAgg5
 have z3:=Tryz.sizeOf5
 go_simp
 repeat' split
 all_goals simp_all
theorem Y0 (l:List UInt8):bg (chunk 1 (Rz (jX l))) (qc l):=by
 intro i hi
 have:i=0∨i=1∨i=2∨i=3:=by simp[qc]at hi;omega
 rcases this with rfl|rfl|rfl|rfl<;>rfl
theorem oC (d:Nat) {n:Nat} {F:Nat→List AV} (l:List UInt8) (hF:bg F l) (hn:n=l.length) (hl:l.length≤1000000000):
  aH Tryz.prog 78 [.sl 1 n true F] (.own d) [(d,.row 5 1 (dW l).length true (aU (dW l)))]:=by
 refine aH.args (bvs:=[.sl 1 l.length true (aU l)]) ?_ (.of (fun X u hu=>aS.nT (sc:=true) hF hn X u hu) .nil)
 have ht:=Di l (bg.bytes l) rfl (by omega)
 refine K1.E 0x1d Tryz.func78 ?_
 repeat' ((conv=>whnf);first|refine K1.w ?_|refine K1.u ?_|refine K1.P1 ht rfl ?_|refine AMk.none rfl (by omega) (by dsimp only;omega) (by omega) ?_|refine K1.z ?_|refine K1.y (fun _=>?_) (fun _=>?_)|fail)
 conv=>whnf
 refine aJ.oz d rfl rfl ?_ (aj)
 apply bW.nT (l:=[]++l++qc l)
 · exact bg.app (bg.app (bg.nil _) (bg.bytes _) rfl) (Y0 l) (by simp)
 · simp[qc]
 · rfl
theorem BA (m:List UInt8) (k:Nat) (hk:k=m.length) (i:Nat):(((dW m).getD (k+i) default).toNat:Int)=(((qc m).getD i default).toNat:Int):=by
 subst hk
 unfold dW
 rw[List.getD,List.getElem?_append_right (by omega),Nat.add_sub_cancel_left,List.getD]
def sS (l:List UInt8):Prop:=4≤l.length∧l=dW (l.take (l.length-4))
theorem JX (d:Nat) {n:Nat} {F:Nat→List AV} (m:List UInt8) (hF:bg F (dW m)) (hn:n=(dW m).length) (hl:m.length≤1000000000):
  aH Tryz.prog 44 [.sl 1 n true F] (.dF [.own d,.v (.bool true)]) [(d,.row 5 1 m.length true (aU m))]:=by
 refine aH.args (bvs:=[.sl 1 (dW m).length true (aU (dW m))]) ?_ (.of (fun X u hu=>aS.nT (sc:=true) hF hn X u hu) .nil)
 have hlen:=dB m
 have htk:(dW m).take m.length=m:=by simp[dW]
 have hFm:bg (aU (dW m)) m:=fun i hi=>by have:=(bg.bytes (dW m)).take m.length i;rw[htk]at this;exact this hi
 refine K1.E 0x20001d Tryz.func44 ?_
 repeat' ((conv=>whnf);first|refine K1.w ?_|refine K1.u ?_|refine K1.P1 (Di m hFm (by omega) (by omega)) rfl ?_|refine vg.mk [.int .u8 _,.int .u8 _,.int .u8 _,.int .u8 _] [.int .u8 _,.int .u8 _,.int .u8 _,.int .u8 _] _ rfl rfl (Ul _ _ _ _ _ _ _ _) (uZ.yes ⟨BA m _ (by omega) 0,BA m _ (by omega) 1,BA m _ (by omega) 2,BA m _ (by omega) 3⟩ ?_)|refine K1.o (id:=2) [(0,none),(1,none),(2,none),(3,none),(4,none),(5,none),(6,none),(7,none),(8,none),(9,none),(10,none),(11,some [1]),(12,none),(13,none)] [(2,[1]),(3,[1]),(4,[1]),(5,[1]),(6,[1]),(7,[1]),(8,[1]),(9,[1]),(10,[1]),(11,[1]),(12,[1]),(13,[1])] ?_|refine K1.z ?_|refine K1.y (fun _=>?_) (fun _=>?_)|fail)
 conv=>whnf
 refine aJ.oz d rfl rfl ?_ (aj)
 apply bW.nT (l:=[]++m)
 · exact bg.app (bg.nil _) hFm rfl
 · simp
   omega
 · rfl
theorem Me {a b:UInt8} (h:(a.toNat:Int)=(b.toNat:Int)):a=b:=UInt8.toNat_inj.1 (by omega)
theorem ad8 {l:List UInt8} {k:Nat} (h:l.length=k+4):l.drop k=[l.getD (k+0) default,l.getD (k+1) default,l.getD (k+2) default,l.getD (k+3) default]:=by
 apply List.ext_getElem
 · simp[h]
 · intro i h1 h2
   have hi:i<4:=by simpa using h2
   rw[List.getElem_drop]
   rcases(show i=0∨i=1∨i=2∨i=3 by omega)with rfl|rfl|rfl|rfl<;>simp[List.getD,h]
theorem aa8 {l:List UInt8} {k:Nat} (h:l.length=k+4) (e:((l.getD (k+0) default).toNat:Int)=((UInt8.ofNat (jX (l.take k))).toNat:Int)∧((l.getD (k+1) default).toNat:Int)=((UInt8.ofNat (jX (l.take k)/256)).toNat:Int)∧
  ((l.getD (k+2) default).toNat:Int)=((UInt8.ofNat (jX (l.take k)/65536)).toNat:Int)∧((l.getD (k+3) default).toNat:Int)=((UInt8.ofNat (jX (l.take k)/16777216)).toNat:Int)):sS l:=by
 obtain⟨e0,e1,e2,e3⟩:=e
 refine⟨by omega, ?_⟩
 rw[show l.length-4=k by omega]
 unfold dW qc
 conv=>lhs;rw[←List.take_append_drop k l,ad8 h]
 rw[Me e0,Me e1,Me e2,Me e3]
theorem Um {n:Nat} {F:Nat→List AV} (l:List UInt8) (h: ¬sS l) (hF:bg F l) (hn:n=l.length) (hl:l.length≤1000000000):
  aH Tryz.prog 44 [.sl 1 n true F] (.dF [.v (.slice none 0 0),.v (.bool false)]) []:=by
 refine aH.args (bvs:=[.sl 1 l.length true (aU l)]) ?_ (.of (fun X u hu=>aS.nT (sc:=true) hF hn X u hu) .nil)
 have hso (k:Nat) (hk:l.length=k+4):=fun e=>h (aa8 (k:=k) hk e)
 refine K1.E 0x20001d Tryz.func44 ?_
 repeat' ((conv=>whnf);first|refine K1.w ?_|refine K1.u ?_|refine K1.P1 (Di (l.take (l.length-4)) ((bg.bytes l).take _) (by rw[List.length_take];omega) (by rw[List.length_take];omega)) rfl ?_|refine vg.mk [.int .u8 _,.int .u8 _,.int .u8 _,.int .u8 _] [.int .u8 _,.int .u8 _,.int .u8 _,.int .u8 _] _ rfl rfl (Ul _ _ _ _ _ _ _ _) (uZ.no (fun e=>?_) ?_)|refine aJ.dO ?_|refine K1.o (id:=2) [(0,none),(1,none),(2,none),(3,none),(4,none),(5,none),(6,none),(7,none),(8,none),(9,none),(10,none),(11,some [1]),(12,none),(13,none)] [(2,[1]),(3,[1]),(4,[1]),(5,[1]),(6,[1]),(7,[1]),(8,[1]),(9,[1]),(10,[1]),(11,[1]),(12,[1]),(13,[1])] ?_|refine K1.z ?_|refine K1.y (fun _=>?_) (fun _=>?_)|fail)
 · conv=>whnf
   exact bF.mk (aj)
 · have hk:((l.length:Int)-4).toNat=l.length-4:=by omega
   rw[hk]at e
   exact hso (l.length-4) (by omega) e
 · conv=>whnf
   exact bF.mk (aj)
end
section
open Go.RowKit
theorem BD {n:Nat} (h:n<256):((UInt8.ofNat n).toNat:Int)=n:=by
 rw[UInt8.toNat_ofNat',Nat.mod_eq_of_lt (by omega)]
theorem eH (d n:Nat) (h1:n≤4294967296):aH Tryz.prog 77 [.v (.int .u64 (n:Int))] (.own d) [(d,.row 5 1 (ak n).length true (aU (ak n)))]:=by
 have hst:=Q8 n h1
 refine K1.E 0x2d Tryz.func77 ?_
 repeat' ((conv=>whnf);first|refine K1.w ?_|refine K1.u ?_|refine K1.z ?_|refine K1.y (fun _=>?_) (fun _=>?_)|fail)
 refine aN.nil 3 90 5 1 (aU []) rfl (by omega) ?_
 refine aN.mk {x:List UInt8×Nat×Nat//x.1++gJ x.2.2 x.2.1=ak n∧x.2.1<128^(x.2.2+1)∧x.1.length≤10∧x.2.1≤4294967296}
  (fun x=>⟨[(0,.v (.int .u64 (x.1.2.1:Int))),(3,.own 90)],[(90,.row 5 1 x.1.1.length true (aU x.1.1))],[],91⟩) (fun x=>x.1.2.1)
  ⟨([],n,9),hst.1,hst.2,by simp,h1⟩ _ (dL.auto _ _ _ rfl ⟨aj,aj,trivial⟩ ⟨aF rfl,trivial⟩ rfl) ?_
 rintro⟨⟨acc,m,f⟩,i1,i2,i3,i4⟩
 dsimp only at i1 i2 i3 i4⊢
 have hl:acc.length+(gJ f m).length≤10:=by
  have:=congrArg List.length i1
  have:=bD 9 n
  simp only[List.length_append,ak]at*
  omega
 have hp:=yg f m
 repeat' ((conv=>whnf);first|refine K1.w ?_|refine K1.u ?_|refine K1.z ?_|refine K1.y (fun _=>?_) (fun _=>?_)|fail)
 · obtain⟨f',k1,k2⟩:=Gw i1 i2 (by omega)
   refine⟨⟨(acc++[UInt8.ofNat (m%128+128)],m/128,f'),k1,k2,by simp;omega,by dsimp only;omega⟩,_,dL.auto _ _ _ rfl ⟨aS.int (by dsimp only;omega),aj,trivial⟩ ⟨⟨_,rfl,bW.row (by simp) (bJ rfl ?_)⟩,trivial⟩ rfl,by show m/128<m;omega⟩
   simp only[chunk,bC,BD (show m%128+128<256 by omega)]
   rfl
 · have e:=JG i1 (by omega)
   refine aJ.oz d rfl rfl (bW.row ?_ ?_) (aj)
   · rw[←e];simp
   · rw[←e]
     refine bJ rfl ?_
     simp only[chunk,bC,BD (show m<256 by omega)]
     rfl
end
section
open Go.RowKit
theorem uP (d:Nat) (e:Ev) (h:eG e=0):aH Tryz.prog 76 [e.av] (.dF [.own d,.v (.int .i64 0)]) [(d,.row 5 1 (aT e).length true (aU (aT e)))]:=by
 have m:=yh h
 have g:=qI m.ed
 obtain⟨r,n,⟨c0,c1,c2,c3,c4⟩,hh,k,key,l,v⟩:=e
 obtain⟨r0,r4,n1,n2,h1,h2,a0,a1,a2,a3,a4,own,ed⟩:=m
 dsimp only[Ev.ed]at r0 r4 n1 n2 h1 h2 a0 a1 a2 a3 a4 g
 obtain⟨g1,g2,g3,g4,g5,g6,g7⟩:=g
 have g8:v.size≤12∧0≤l∧l≤1:=by
  cases hl:dN k with
  |true=>have:=g6 hl;omega
  |false=>have:=g7 hl;omega
 clear own ed
 obtain⟨n,rfl⟩:=Int.eq_ofNat_of_zero_le (show 0≤n by omega)
 obtain⟨hh,rfl⟩:=Int.eq_ofNat_of_zero_le (show 0≤hh by omega)
 obtain⟨c0,rfl⟩:=Int.eq_ofNat_of_zero_le a0.1
 obtain⟨c1,rfl⟩:=Int.eq_ofNat_of_zero_le a1.1
 obtain⟨c2,rfl⟩:=Int.eq_ofNat_of_zero_le a2.1
 obtain⟨c3,rfl⟩:=Int.eq_ofNat_of_zero_le a3.1
 obtain⟨c4,rfl⟩:=Int.eq_ofNat_of_zero_le a4.1
 have q (x:Nat):(ak x).length≤10:=bD 9 x
 have q0:=q n
 have q1:=q hh
 have q2:=q c0
 have q3:=q c1
 have q4:=q c2
 have q5:=q c3
 have q6:=q c4
 clear q
 dsimp only[Ev.av,Ev.cs]
 rcases(show r=0∨r=1∨r=2∨r=3∨r=4 by omega)with rfl|rfl|rfl|rfl|rfl
 all_goals
  refine K1.E 0x100020e00023ff Tryz.func76 ?_
  repeat' ((conv=>whnf);first|refine K1.w ?_|refine K1.u ?_|refine K1.P1 (lS ⟨_,(n:Int),⟨(c0:Int),(c1:Int),(c2:Int),(c3:Int),(c4:Int)⟩,(hh:Int),k,key,l,v⟩) rfl ?_|refine K1.F1 (eH _ _ (by omega)) rfl ?_|refine K1.P1 (mJ _) rfl ?_|refine aN.rounds 6 ?_|refine K1.I 0x3 Tryz.func110 ?_|refine K1.I 0x3 Tryz.func111 ?_|refine K1.o (id:=0) [(0,none),(1,none),(2,none),(3,some [2]),(4,some [2,0]),(5,some [2,0])] [(3,[2]),(4,[2,0]),(5,[2,0])] ?_|refine K1.z ?_|refine K1.y (fun _=>?_) (fun _=>?_)|fail)
  all_goals(refine aJ.oz d rfl rfl ?_ (aj);apply bW.nT)
  all_goals(try(repeat' (first|exact bg.bytes _|exact bg.str _|exact bg.one (by omega) (by omega)|exact bg.two (by omega) (by omega) (by omega) (by omega)|apply bg.app)))
  all_goals first
    |(simp only[List.length_append,List.length_cons,List.length_nil,rH];try omega;done)
    |(simp[aT,others,words,iF,byteOf,byteOf', *];done)
end
section
open Go.RowKit
theorem gW (k:Int):aH Tryz.prog 127 [.v (.int .i64 k)] (.dF [.v (.bool (Bl k)),.v (.bool (Bo k)),.v (.bool (Bq k)),.v (.bool (rcK k))]) []:=by
 refine K1.E 0xa8fd Tryz.func127 ?_
 repeat' ((conv=>whnf);first|refine K1.w ?_|refine K1.u ?_|refine aJ.dO ?_|refine K1.z ?_|refine K1.y (fun _=>?_) (fun _=>?_)|fail)
 all_goals(conv=>whnf)
 all_goals(refine bF.mk (aS.of ?_))
 all_goals first|(subst_vars;rfl)|(simp[Bl,Bo,Bq,rcK, *];omega)
theorem MB (n:Int):aH Tryz.prog 153 [.v (.int .i64 n)] (.v (.bool (nV n))) []:=by
 refine K1.E 0x5 Tryz.func153 ?_
 repeat' ((conv=>whnf);first|refine K1.w ?_|refine K1.u ?_|refine aJ.dO ?_|refine K1.z ?_|refine K1.y (fun _=>?_) (fun _=>?_)|fail)
 all_goals(conv=>whnf)
 all_goals(refine bF.mk (aS.of ?_))
 all_goals simp[nV,fQ, *]
theorem RD {l:List Ev} {j:Nat} (hj:j<l.length) (h: ¬eG (l.getD j default)=0):l.all (fun e=>decide (eG e=0))=false:=by
 rw[List.all_eq_false]
 refine⟨l[j],List.getElem_mem hj, ?_⟩
 rw[List.getD,List.getElem?_eq_getElem hj]at h
 simpa using h
theorem MC {l:List Ev} (h: ∀i,i<l.length→eG (l.getD i default)=0):l.all (fun e=>decide (eG e=0))=true:=by
 rw[List.all_eq_true]
 intro e he
 obtain⟨i,hi,rfl⟩:=List.mem_iff_getElem.1 he
 have:=h i hi
 rw[List.getD,List.getElem?_eq_getElem hi]at this
 simpa using this
theorem D9 (k:Int) (h: ¬ (1≤k∧k≤6)):aH Tryz.prog 127 [.v (.int .i64 k)] (.dF [.v (.bool false),.v (.bool false),.v (.bool false),.v (.bool false)]) []:=by
 have:=gW k
 rw[show Bl k=false by simp[Bl];omega,show Bo k=false by simp[Bo];omega,show Bq k=false by simp[Bq];omega,show rcK k=false by simp[rcK];omega]at this
 exact this
theorem qM (x:Rc) (hl:x.ev.length≤140737488355328):aH Tryz.prog 126 [x.av] (.v (.bool (iI x))) []:=by
 obtain⟨k,r,u,⟨c0,c1,c2,c3,c4⟩,ev⟩:=x
 dsimp only at hl
 rcases(show k=1∨k=2∨k=3∨k=4∨k=5∨k=6∨ ¬ (1≤k∧k≤6) by omega)with rfl|rfl|rfl|rfl|rfl|rfl|hk
 all_goals dsimp only[Rc.av,Rc.cs]
 all_goals
  refine K1.E 0x10f4000000474000000057f Tryz.func126 ?_
  repeat' ((conv=>whnf);first|refine K1.w ?_|refine K1.u ?_|refine K1.P1 (D9 _ hk) rfl ?_|refine K1.P1 (gW _) rfl ?_|refine K1.P1 (MB _) rfl ?_|refine aN.qY 45 6 rfl ?_|refine vg.mk (aW.vs ⟨c0,c1,c2,c3,c4⟩) (aW.vs bY) (aW.mk c0 c1 c2 c3 c4=bY) rfl rfl (fZ _ _) ?_|refine aJ.dO ?_|refine K1.z ?_|refine K1.y (fun _=>?_) (fun _=>?_)|fail)
  all_goals(conv=>whnf)
  all_goals first
    |refine bF.mk (aS.of ?_)
    |refine aN.mk {j:Nat//j≤ev.length∧ ∀i,i<j→eG (ev.getD i default)=0} (fun j=>⟨[(1,.box 0 0),(80,.sl 12 ev.length true (dX ev)),(81,.v (.int .i64 (ev.length:Int))),(82,.v (.int .i64 (j.1:Int)))],
       [(0,.box 59 [.v (.int .i64 _),.v (.int .i64 r),.v (.int .i64 u),.v (.int .i64 c0),.v (.int .i64 c1),.v (.int .i64 c2),.v (.int .i64 c3),.v (.int .i64 c4),.sl 12 ev.length true (dX ev)])],[],4⟩) (fun j=>ev.length-j.1) ⟨0,Nat.zero_le _,fun i h=>absurd h (Nat.not_lt_zero i)⟩ _
       (dL.mk' [] _ _ _ rfl ⟨aj,aj,aj,aS.int rfl,trivial⟩ ⟨aF rfl,trivial⟩ rfl) ?_
  all_goals try(simp[iI,rcK,Bl,Bo,Bq,OX,iG,-List.length_eq_zero_iff, *]<;>omega;done)
  all_goals(rintro⟨j,hj,hall⟩;dsimp only)
  all_goals repeat' ((conv=>whnf);first|refine K1.w ?_|refine K1.u ?_|refine K1.P1 (lS (ev.getD (j:Int).toNat default)) rfl ?_|refine aJ.dO ?_|refine K1.z ?_|refine K1.y (fun _=>?_) (fun _=>?_)|fail)
  all_goals first
    | (conv=>whnf
       refine⟨⟨j+1,by omega,fun i hi=>?_⟩,_,dL.mk' [] _ _ _ rfl ⟨aj,aj,aj,aS.int rfl,trivial⟩ ⟨aF rfl,trivial⟩ rfl,by show ev.length-(j+1)<ev.length-j;omega⟩
       rcases Nat.lt_or_ge i j with h|h
       · exact hall i h
       · rw[show i=j by omega]
         exact ‹eG (ev.getD (j:Int).toNat default)=0›)
    | (conv=>whnf
       refine bF.mk (aS.of ?_)
       have hno:=RD (l:=ev) (j:=j) (by omega) ‹¬eG (ev.getD (j:Int).toNat default)=0›
       simp[iI,hno])
    | (conv=>whnf
       refine bF.mk (aS.of ?_)
       have hyes:=MC (l:=ev) (fun i hi=>hall i (by omega))
       simp[iI,show nV 0=true from rfl,rcK,Bl,Bo,Bq,OX,iG,-List.length_eq_zero_iff, *]<;>omega)
def dY (l:List Ev):List UInt8:=l.flatMap aT
def yM (c:aW):List UInt8:=iF c.c0++iF c.c1++iF c.c2++iF c.c3++iF c.c4
def fD (x:Rc):List UInt8:=
 [byteOf x.k,byteOf x.r]++(if Bl x.k then iF x.u else [])++(if Bq x.k then yM x.c else [])++(if Bo x.k then ak x.ev.length++dY x.ev else [])
def aB (x:Rc):List UInt8:=ak (dW (fD x)).length++dW (fD x)
theorem Y1 (x:Rc) (hl:x.ev.length≤140737488355328) (h:iI x=false):aH Tryz.prog 93 [x.av] (.dF [.v (.slice none 0 0),.v (.int .i64 1)]) []:=by
 have hm:=qM x hl
 rw[h]at hm
 refine K1.E 0x403c0203a040004f57f Tryz.func93 ?_
 repeat' ((conv=>whnf);first|refine K1.w ?_|refine K1.u ?_|refine K1.P1 hm rfl ?_|refine aJ.dO ?_|refine K1.z ?_|refine K1.y (fun _=>?_) (fun _=>?_)|fail)
 conv=>whnf
 exact bF.mk (aj)
end
theorem Y2 (x:Int):0≤m5 x∧m5 x≤4:=by unfold m5;omega
theorem Y3 (n:Nat):keyE (ks3 n)=0:=by unfold ks3;split;decide;split<;>decide
theorem ac' (n:Nat):fA (vs4 n)=0:=by unfold vs4;split;decide;split;decide;split<;>decide
theorem O5 (e:Ed):jJ (kU e)=0:=by
 have hm:=Y2 e.k
 have ha:=YE e.l
 unfold kU
 split
 · unfold jJ
   simp only[Y3,ac']
   rw[if_neg (by omega),if_neg (by simp),if_neg (by omega),if_neg (by unfold l7;simp;omega)]
 · unfold jJ
   simp only[Y3]
   rw[if_neg (by omega),if_neg (by simp),if_pos (by omega)]
   rfl
theorem Dj: ∀ (f n k:Nat),n<128^(k+1)→(gJ f n).length≤k+1
  |0,n,k,_=>by simp[gJ]
  | f + 1,n,k,h=>by
    unfold gJ
    split
    · simp
    · cases k with
      |zero=>simp at h;omega
      | succ k=>
        have:=Dj f (n/128) k (by rw[Nat.pow_succ]at h;exact Nat.div_lt_of_lt_mul (by rw[Nat.mul_comm];exact h))
        simp only[List.length_cons]
        omega
theorem ad9 {n:Nat} (h:n≤1048576):(ak n).length≤3:=Dj 9 n 2 (by omega)
theorem aea {n:Nat} (h:n≤16777216):(ak n).length≤4:=Dj 9 n 3 (by omega)
theorem Dl {n:Int} (h:n≤1048576):(iF n).length≤3:=ad9 (by omega)
theorem ada {n:Int} (h:n≤16777216):(iF n).length≤4:=aea (by omega)
theorem JY (s:ByteArray):(words s).length=1+s.size:=by
 unfold words
 rw[List.length_cons,Array.length_toList]
 show s.size+1=_
 omega
theorem kV {e:Ev} (h:eG e=0):(aT e).length≤44:=by
 have m:=yh h
 obtain⟨k1,k2,s1,s2,_,hl,hs⟩:=qI m.ed
 have hn:=Dl (n:=e.n) (by have:=m.n2;omega)
 have hh:=ada (n:=e.h) (by have:=m.h2;omega)
 have c0:=Dl m.a0.2
 have c1:=Dl m.a1.2
 have c2:=Dl m.a2.2
 have c3:=Dl m.a3.2
 have c4:=Dl m.a4.2
 have r0:=m.r0
 have r4:=m.r4
 have hv:(if dN e.k then byteOf e.l::words e.v else []).length≤14:=by
  split
  · rename_i h
    have:=hl h
    simp only[List.length_cons,JY,Ev.ed]at this⊢
    omega
  · simp
 have ho:((others e).flatMap iF).length≤12:=by
  unfold others
  rcases(show e.r=0∨e.r=1∨e.r=2∨e.r=3∨e.r=4 by omega)with h|h|h|h|h<;>simp[h]<;>omega
 unfold aT
 simp only[List.length_append,List.length_cons,List.length_nil,JY]
 have:e.key.size≤8:=s2
 omega
section
open Go.RowKit
theorem pq {l:List Ev} (h: ∀e∈l,eG e=0):(dY l).length≤44*l.length:=by
 induction l with
 |nil=>simp[dY]
 | cons e l ih=>
   have h1:=kV (h e (by simp))
   have h2:=ih fun x hx=>h x (by simp[hx])
   simp only[dY,List.flatMap_cons,List.length_append,List.length_cons]at*
   omega
theorem qo {l:List Ev} {j:Nat} (h:j<l.length):dY (l.take (j+1))=dY (l.take j)++aT (l.getD j default):=by
 rw[List.take_add_one,List.getElem?_eq_getElem h,List.getD,List.getElem?_eq_getElem h,dY,List.flatMap_append]
 simp[dY]
theorem Dn {l:List Ev} (h:l.all (fun e=>decide (eG e=0))=true) {j:Nat} (hj:j<l.length):eG (l.getD j default)=0:=by
 rw[List.getD,List.getElem?_eq_getElem hj]
 simpa using List.all_eq_true.1 h l[j] (List.getElem_mem hj)
theorem nJ {l:List Ev} (h:l.all (fun e=>decide (eG e=0))=true): ∀e∈l,eG e=0:=fun e he=>by simpa using List.all_eq_true.1 h e he
theorem eU {n:Int} (h:nV n=true): ∃m:Nat,n=m∧m≤1048576:=by
 have:=gy h
 exact⟨n.toNat,by omega,by omega⟩
structure aeU (x:Rc):Prop where
 k:1≤x.k∧x.k≤6
 r:0≤x.r∧x.r<5
 u:nV x.u=true
 l:x.ev.length≤4096
 c:nV x.c.c0=true∧nV x.c.c1=true∧nV x.c.c2=true∧nV x.c.c3=true∧nV x.c.c4=true
 u0:Bl x.k=true∨x.u=0
 c0:Bq x.k=true∨x.c=bY
 e0:Bo x.k=true∨x.ev.length=0
 ev:x.ev.all (fun e=>decide (eG e=0))=true
 one:x.k≠1∨x.ev.length=1
theorem lY {x:Rc} (h:iI x=true):aeU x:=by
 simp only[iI,Bool.and_eq_true,Bool.or_eq_true,decide_eq_true_eq,iG,OX,rcK]at h
 obtain⟨⟨⟨⟨⟨⟨⟨⟨⟨⟨h1,h2⟩,h3⟩,h4⟩,h5⟩,⟨⟨⟨h6,h7⟩,h8⟩,h9⟩,h10⟩,h11⟩,h12⟩,h13⟩,h14⟩,h15⟩:=h
 exact⟨h1,⟨h2,h3⟩,h4,h5,⟨h6,h7,h8,h9,h10⟩,h11,h12,h13,h14,h15⟩
theorem MF (d:Nat) (x:Rc) (h:iI x=true) (hk:x.k=1∨x.k=2∨x.k=5):
  aH Tryz.prog 93 [x.av] (.dF [.own d,.v (.int .i64 0)]) [(d,.row 5 1 (aB x).length true (aU (aB x)))]:=by
 have m:=lY h
 have hm:=qM x (by have:=m.l;omega)
 rw[h]at hm
 obtain⟨k,r,u,c,ev⟩:=x
 obtain⟨mk,mr,mu,ml,mc,sU,qV,me0,wP,m1⟩:=m
 dsimp only at mk mr mu ml mc sU qV me0 wP m1 hk
 have hat: ∀j,j<ev.length→eG (ev.getD j default)=0:=fun j hj=>Dn wP hj
 have Y4: ∀j,j<ev.length→(aT (ev.getD j default)).length≤44:=fun j hj=>kV (hat j hj)
 have hlen: ∀j,(dY (ev.take j)).length≤44*j:=fun j=>Nat.le_trans (pq fun e he=>nJ wP e (List.mem_of_mem_take he)) (Nat.mul_le_mul_left _ (by rw[List.length_take];omega))
 have hv:(ak ev.length).length≤10:=bD 9 _
 obtain⟨kk,hkk⟩: ∃kk,kk=k:=⟨_,rfl⟩
 have hmore: ∀j,([byteOf' kk,byteOf' r]++ak ev.length++dY (ev.take j)).length=2+(ak ev.length).length+(dY (ev.take j)).length:=fun j=>by simp;omega
 rcases hk with rfl|rfl|rfl
 all_goals
  dsimp only[Rc.av,Rc.cs]at hm⊢
  refine K1.E 0x403c0203a040004f57f Tryz.func93 ?_
  repeat' ((conv=>whnf);first|refine K1.w ?_|refine K1.u ?_|refine K1.P1 hm rfl ?_|refine K1.P1 (gW _) rfl ?_|refine K1.F1 (eH _ ev.length (by omega)) rfl ?_|refine K1.z ?_|refine K1.y (fun _=>?_) (fun _=>?_)|fail)
  conv=>whnf
  refine aN.mk {j:Nat//j≤ev.length} (fun j=>⟨[(1,.box 0 0),(8,.own 90),(62,.sl 12 ev.length true (dX ev)),(63,.v (.int .i64 (ev.length:Int))),(64,.v (.int .i64 (j.1:Int)))],
    [(90,.row 5 1 ([byteOf' kk,byteOf' r]++ak ev.length++dY (ev.take j.1)).length true (aU ([byteOf' kk,byteOf' r]++ak ev.length++dY (ev.take j.1))))],[],91⟩) (fun j=>ev.length-j.1) ⟨0,Nat.zero_le _⟩ _
    (dL.mk' [(3,90)] _ _ _ rfl ⟨aj,aj,aj,aj,aS.int rfl,trivial⟩ ⟨⟨_,rfl,bW.nT (bg.app (bg.two (by omega) (by omega) (by omega) (by omega)) (bg.bytes _) rfl) (by simp<;>omega) (by simp[dY,hkk])⟩,trivial⟩ rfl) ?_
  rintro⟨j,hj⟩
  dsimp only
  have Y5:=Y4 (j:Int).toNat
  have hmj:=hmore j
  have hlj:=hlen j
  have hsl:=dB ([byteOf' kk,byteOf' r]++ak ev.length++dY (ev.take j))
  have hvs:(ak (dW ([byteOf' kk,byteOf' r]++ak ev.length++dY (ev.take j))).length).length≤10:=bD 9 _
  repeat' ((conv=>whnf);first|refine K1.w ?_|refine K1.u ?_|refine K1.F1 (uP _ (ev.getD (j:Int).toNat default) (hat _ (by omega))) rfl ?_|refine K1.F1 (oC _ ([byteOf' kk,byteOf' r]++ak ev.length++dY (ev.take j)) (bg.bytes _) rfl (by omega)) rfl ?_|refine K1.F1 (eH _ (dW ([byteOf' kk,byteOf' r]++ak ev.length++dY (ev.take j))).length (by rw[dB];omega)) rfl ?_|refine K1.z ?_|refine K1.y (fun _=>?_) (fun _=>?_)|fail)
  · conv=>whnf
    refine⟨⟨j+1,by omega⟩,_,dL.mk' [(93,90)] _ _ _ rfl ⟨aj,aj,aj,aj,aS.int rfl,trivial⟩ ⟨⟨_,rfl,bW.nT (bg.app (bg.bytes _) (bg.bytes _) rfl) List.length_append.symm ?_⟩,trivial⟩ rfl,by show ev.length-(j+1)<ev.length-j;omega⟩
    rw[qo (by omega),List.append_assoc]
    rfl
  · conv=>whnf
    refine aJ.oz d rfl rfl ?_ (aj)
    refine bW.nT (bg.app (bg.bytes _) (bg.bytes _) rfl) List.length_append.symm ?_
    rw[List.take_of_length_le (by omega)]
    unfold aB fD
    simp[hkk,Bl,Bo,Bq,byteOf,byteOf']
theorem Y6 (d:Nat) (x:Rc) (h:iI x=true) (hk:x.k=4):
  aH Tryz.prog 93 [x.av] (.dF [.own d,.v (.int .i64 0)]) [(d,.row 5 1 (aB x).length true (aU (aB x)))]:=by
 have m:=lY h
 have hm:=qM x (by have:=m.l;omega)
 rw[h]at hm
 obtain⟨k,r,u,c,ev⟩:=x
 obtain⟨mk,mr,mu,ml,mc,sU,qV,me0,wP,m1⟩:=m
 dsimp only at mk mr mu ml mc sU qV me0 wP m1 hk
 have hat: ∀j,j<ev.length→eG (ev.getD j default)=0:=fun j hj=>Dn wP hj
 have Y4: ∀j,j<ev.length→(aT (ev.getD j default)).length≤44:=fun j hj=>kV (hat j hj)
 have hlen: ∀j,(dY (ev.take j)).length≤44*j:=fun j=>Nat.le_trans (pq fun e he=>nJ wP e (List.mem_of_mem_take he)) (Nat.mul_le_mul_left _ (by rw[List.length_take];omega))
 have hv:(ak ev.length).length≤10:=bD 9 _
 obtain⟨kk,hkk⟩: ∃kk,kk=k:=⟨_,rfl⟩
 obtain⟨un,rfl,hun⟩:=eU mu
 have hvu:(ak un).length≤10:=bD 9 _
 have hmore: ∀j,([byteOf' kk,byteOf' r]++ak un++ak ev.length++dY (ev.take j)).length=2+(ak un).length+(ak ev.length).length+(dY (ev.take j)).length:=fun j=>by simp;omega
 subst hk
 all_goals
  dsimp only[Rc.av,Rc.cs]at hm⊢
  refine K1.E 0x403c0203a040004f57f Tryz.func93 ?_
  repeat' ((conv=>whnf);first|refine K1.w ?_|refine K1.u ?_|refine K1.P1 hm rfl ?_|refine K1.P1 (gW _) rfl ?_|refine K1.F1 (eH _ un (by omega)) rfl ?_|refine K1.F1 (eH _ ev.length (by omega)) rfl ?_|refine K1.z ?_|refine K1.y (fun _=>?_) (fun _=>?_)|fail)
  conv=>whnf
  refine aN.mk {j:Nat//j≤ev.length} (fun j=>⟨[(1,.box 0 0),(8,.own 90),(62,.sl 12 ev.length true (dX ev)),(63,.v (.int .i64 (ev.length:Int))),(64,.v (.int .i64 (j.1:Int)))],
    [(90,.row 5 1 ([byteOf' kk,byteOf' r]++ak un++ak ev.length++dY (ev.take j.1)).length true (aU ([byteOf' kk,byteOf' r]++ak un++ak ev.length++dY (ev.take j.1))))],[],91⟩) (fun j=>ev.length-j.1) ⟨0,Nat.zero_le _⟩ _
    (dL.mk' [(5,90)] _ _ _ rfl ⟨aj,aj,aj,aj,aS.int rfl,trivial⟩ ⟨⟨_,rfl,bW.nT (bg.app (bg.app (bg.two (by omega) (by omega) (by omega) (by omega)) (bg.bytes _) rfl) (bg.bytes _) (by simp<;>omega)) (by simp<;>omega) (by simp[dY,hkk])⟩,trivial⟩ rfl) ?_
  rintro⟨j,hj⟩
  dsimp only
  have Y5:=Y4 (j:Int).toNat
  have hmj:=hmore j
  have hlj:=hlen j
  have hsl:=dB ([byteOf' kk,byteOf' r]++ak un++ak ev.length++dY (ev.take j))
  have hvs:(ak (dW ([byteOf' kk,byteOf' r]++ak un++ak ev.length++dY (ev.take j))).length).length≤10:=bD 9 _
  repeat' ((conv=>whnf);first|refine K1.w ?_|refine K1.u ?_|refine K1.F1 (uP _ (ev.getD (j:Int).toNat default) (hat _ (by omega))) rfl ?_|refine K1.F1 (oC _ ([byteOf' kk,byteOf' r]++ak un++ak ev.length++dY (ev.take j)) (bg.bytes _) rfl (by omega)) rfl ?_|refine K1.F1 (eH _ (dW ([byteOf' kk,byteOf' r]++ak un++ak ev.length++dY (ev.take j))).length (by rw[dB];omega)) rfl ?_|refine K1.z ?_|refine K1.y (fun _=>?_) (fun _=>?_)|fail)
  · conv=>whnf
    refine⟨⟨j+1,by omega⟩,_,dL.mk' [(93,90)] _ _ _ rfl ⟨aj,aj,aj,aj,aS.int rfl,trivial⟩ ⟨⟨_,rfl,bW.nT (bg.app (bg.bytes _) (bg.bytes _) rfl) List.length_append.symm ?_⟩,trivial⟩ rfl,by show ev.length-(j+1)<ev.length-j;omega⟩
    rw[qo (by omega),List.append_assoc]
    rfl
  · conv=>whnf
    refine aJ.oz d rfl rfl ?_ (aj)
    refine bW.nT (bg.app (bg.bytes _) (bg.bytes _) rfl) List.length_append.symm ?_
    rw[List.take_of_length_le (by omega)]
    unfold aB fD
    simp[hkk,Bl,Bo,Bq,byteOf,byteOf',iF]
theorem aa9 (d:Nat) (x:Rc) (h:iI x=true) (hk:x.k=3):
  aH Tryz.prog 93 [x.av] (.dF [.own d,.v (.int .i64 0)]) [(d,.row 5 1 (aB x).length true (aU (aB x)))]:=by
 have m:=lY h
 have hm:=qM x (by have:=m.l;omega)
 rw[h]at hm
 obtain⟨k,r,u,c,ev⟩:=x
 obtain⟨mk,mr,mu,ml,mc,sU,qV,me0,wP,m1⟩:=m
 dsimp only at mk mr mu ml mc sU qV me0 wP m1 hk
 obtain⟨kk,hkk⟩: ∃kk,kk=k:=⟨_,rfl⟩
 obtain⟨un,rfl,hun⟩:=eU mu
 have hvu:(ak un).length≤10:=bD 9 _
 have hmore:([byteOf' kk,byteOf' r]++ak un).length=2+(ak un).length:=by simp;omega
 have hsl:=dB ([byteOf' kk,byteOf' r]++ak un)
 have hvs:(ak (dW ([byteOf' kk,byteOf' r]++ak un)).length).length≤10:=bD 9 _
 subst hk
 dsimp only[Rc.av,Rc.cs]at hm⊢
 refine K1.E 0x403c0203a040004f57f Tryz.func93 ?_
 repeat' ((conv=>whnf);first|refine K1.w ?_|refine K1.u ?_|refine K1.P1 hm rfl ?_|refine K1.P1 (gW _) rfl ?_|refine K1.F1 (eH _ un (by omega)) rfl ?_|refine K1.F1 (oC _ ([byteOf' kk,byteOf' r]++ak un) (hkk▸bg.app (bg.two (by omega) (by omega) (by omega) (by omega)) (bg.bytes _) rfl) (by simp<;>omega) (by omega)) rfl ?_|refine K1.F1 (eH _ (dW ([byteOf' kk,byteOf' r]++ak un)).length (by rw[dB];omega)) rfl ?_|refine K1.z ?_|refine K1.y (fun _=>?_) (fun _=>?_)|fail)
 conv=>whnf
 refine aJ.oz d rfl rfl ?_ (aj)
 refine bW.nT (bg.app (bg.bytes _) (bg.bytes _) rfl) List.length_append.symm ?_
 unfold aB fD
 simp[hkk,Bl,Bo,Bq,byteOf,byteOf',iF]
theorem aa' (d:Nat) (x:Rc) (h:iI x=true) (hk:x.k=6):
  aH Tryz.prog 93 [x.av] (.dF [.own d,.v (.int .i64 0)]) [(d,.row 5 1 (aB x).length true (aU (aB x)))]:=by
 have m:=lY h
 have hm:=qM x (by have:=m.l;omega)
 rw[h]at hm
 obtain⟨k,r,u,⟨c0,c1,c2,c3,c4⟩,ev⟩:=x
 obtain⟨mk,mr,mu,ml,⟨m0,m1,m2,m3,m4⟩,sU,qV,me0,wP,G7⟩:=m
 dsimp only at mk mr mu ml m0 m1 m2 m3 m4 sU qV me0 wP G7 hk
 obtain⟨kk,hkk⟩: ∃kk,kk=k:=⟨_,rfl⟩
 obtain⟨c0,rfl,hc0⟩:=eU m0
 obtain⟨c1,rfl,hc1⟩:=eU m1
 obtain⟨c2,rfl,hc2⟩:=eU m2
 obtain⟨c3,rfl,hc3⟩:=eU m3
 obtain⟨c4,rfl,hc4⟩:=eU m4
 have q0:(ak c0).length≤10:=bD 9 _
 have q1:(ak c1).length≤10:=bD 9 _
 have q2:(ak c2).length≤10:=bD 9 _
 have q3:(ak c3).length≤10:=bD 9 _
 have q4:(ak c4).length≤10:=bD 9 _
 have hmore:([byteOf' kk,byteOf' r]++ak c0++ak c1++ak c2++ak c3++ak c4).length=2+(ak c0).length+(ak c1).length+(ak c2).length+(ak c3).length+(ak c4).length:=by simp;omega
 have hsl:=dB ([byteOf' kk,byteOf' r]++ak c0++ak c1++ak c2++ak c3++ak c4)
 have hvs:(ak (dW ([byteOf' kk,byteOf' r]++ak c0++ak c1++ak c2++ak c3++ak c4)).length).length≤10:=bD 9 _
 subst hk
 dsimp only[Rc.av,Rc.cs]at hm⊢
 refine K1.E 0x403c0203a040004f57f Tryz.func93 ?_
 repeat' ((conv=>whnf);first|refine K1.w ?_|refine K1.u ?_|refine K1.P1 hm rfl ?_|refine K1.P1 (gW _) rfl ?_|refine K1.F1 (eH _ c0 (by omega)) rfl ?_|refine K1.F1 (eH _ c1 (by omega)) rfl ?_|refine K1.F1 (eH _ c2 (by omega)) rfl ?_|refine K1.F1 (eH _ c3 (by omega)) rfl ?_|refine K1.F1 (eH _ c4 (by omega)) rfl ?_|refine K1.F1 (oC _ ([byteOf' kk,byteOf' r]++ak c0++ak c1++ak c2++ak c3++ak c4) (hkk▸bg.app (bg.app (bg.app (bg.app (bg.app (bg.two (by omega) (by omega) (by omega) (by omega)) (bg.bytes _) rfl) (bg.bytes _) (by simp<;>omega)) (bg.bytes _) (by simp<;>omega)) (bg.bytes _) (by simp<;>omega)) (bg.bytes _) (by simp<;>omega)) (by simp<;>omega) (by omega)) rfl ?_|refine K1.F1 (eH _ (dW ([byteOf' kk,byteOf' r]++ak c0++ak c1++ak c2++ak c3++ak c4)).length (by rw[dB];omega)) rfl ?_|refine aN.qY 44 6 rfl ?_|refine K1.z ?_|refine K1.y (fun _=>?_) (fun _=>?_)|fail)
 conv=>whnf
 refine aJ.oz d rfl rfl ?_ (aj)
 refine bW.nT (bg.app (bg.bytes _) (bg.bytes _) rfl) List.length_append.symm ?_
 unfold aB fD
 simp[hkk,Bl,Bo,Bq,byteOf,byteOf',iF,yM]
theorem yA (d:Nat) (x:Rc) (h:iI x=true):
  aH Tryz.prog 93 [x.av] (.dF [.own d,.v (.int .i64 0)]) [(d,.row 5 1 (aB x).length true (aU (aB x)))]:=by
 have m:=(lY h).k
 rcases(show x.k=1∨x.k=2∨x.k=3∨x.k=4∨x.k=5∨x.k=6 by omega)with hk|hk|hk|hk|hk|hk
 · exact MF d x h (.inl hk)
 · exact MF d x h (.inr (.inl hk))
 · exact aa9 d x h hk
 · exact Y6 d x h hk
 · exact MF d x h (.inr (.inr hk))
 · exact aa' d x h hk
end
end Go.Proofs.YtimhagicagdkfaaGreat
