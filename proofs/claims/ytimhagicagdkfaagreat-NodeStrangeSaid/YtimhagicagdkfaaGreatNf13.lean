/-
  Contracts of the walk:Crc,Vin,EvW,Rec,FitP,RecP,RecF,Shape.
-/
import Derived.Test.YtimhagicagdkfaaGreatNf12
import Derived.Test.YtimhagicagdkfaaGreatNf6
import Derived.Laws.BitsAllLaws
import Derived.Laws.StructEq
import Derived.Laws.Cover2
import Derived.Test.YtimhagicagdkfaaGreatNf9
import Derived.Test.YtimhagicagdkfaaGreatNf8
import Derived.Test.YtimhagicagdkfaaGreatNf11
import Derived.Test.YtimhagicagdkfaaGreatNf1
import Derived.WalkSpells
import Derived.WalkLawsBesides
import Derived.Handy
import Derived.WideMake
import Derived.Lib.Hide
set_option linter.unusedVariables false
set_option linter.unusedSimpArgs false
set_option maxHeartbeats 16000000
set_option maxRecDepth 100000
namespace Go.Proofs.YtimhagicagdkfaaGreat
section
open Go.RowKit
def mY (r:Nat):Nat:=if r%2=1 then(r/2)^^^3988292384 else r/2
def AP (r:Nat):Nat→Nat
  |0=>r
  |j+1=>mY (AP r j)
def yc (r:Nat) (c:UInt8):Nat:=AP (r^^^c.toNat) 8
def mZ (l:List UInt8):Nat:=l.foldl yc 4294967295
def jU (l:List UInt8):Nat:=4294967295^^^mZ l
def pI (l:List UInt8):List UInt8:=[UInt8.ofNat (jU l),UInt8.ofNat (jU l/256),UInt8.ofNat (jU l/65536),UInt8.ofNat (jU l/16777216)]
def eP (l:List UInt8):List UInt8:=l++pI l
theorem QS {r:Nat} (h:r<4294967296):mY r<4294967296:=by
 unfold mY
 split
 · exact Nat.xor_lt_two_pow (n:=32) (by omega) (by omega)
 · omega
theorem AQ {r:Nat} (h:r<4294967296): ∀j,AP r j<4294967296
  |0=>h
  |j+1=>QS (AQ h j)
theorem QT {r:Nat} (h:r<4294967296) (c:UInt8):yc r c<4294967296:=by
 have:=UInt8.toNat_lt c
 exact AQ (Nat.xor_lt_two_pow (n:=32) (by omega) (by omega)) 8
theorem OD: ∀ (l:List UInt8) (r:Nat),r<4294967296→l.foldl yc r<4294967296
  |[],_,h=>h
  |c::l,_,h=>OD l _ (QT h c)
theorem BZ (l:List UInt8):mZ l<4294967296:=OD l _ (by omega)
theorem Jt (l:List UInt8):jU l<4294967296:=Nat.xor_lt_two_pow (n:=32) (by omega) (BZ l)
theorem dY (l:List UInt8):(eP l).length=l.length+4:=by simp[eP,pI]
theorem OE {a b:Nat} (ha:a<4294967296) (hb:b<4294967296):IntKind.u32.wrap ((BitVec.ofInt IntKind.u32.bits (a:Int)^^^BitVec.ofInt IntKind.u32.bits (b:Int)).toNat:Int)=((a^^^b:Nat):Int):=
 u32_xor_nat a b ha hb
theorem and1 {a:Nat} (ha:a<4294967296):IntKind.u32.wrap ((BitVec.ofInt IntKind.u32.bits (a:Int)&&&BitVec.ofInt IntKind.u32.bits (1:Int)).toNat:Int)=((a%2:Nat):Int):=by
 have h:IntKind.u32.wrap ((BitVec.ofInt IntKind.u32.bits (a:Int)&&&BitVec.ofInt IntKind.u32.bits ((1:Nat):Int)).toNat:Int)=((a&&&1:Nat):Int):=u32_and_nat a 1 ha (by omega)
 rw[Nat.and_one_is_mod]at h
 exact h
theorem yC.and1 {a:Nat} (ha:a<4294967296) {A B:Prop} (h1:a%2=1→A) (h2: ¬a%2=1→B):yC (IntKind.u32.wrap ((BitVec.ofInt IntKind.u32.bits (a:Int)&&&BitVec.ofInt IntKind.u32.bits (1:Int)).toNat:Int)=1) A B:=by
 have e:=_root_.Go.Proofs.YtimhagicagdkfaaGreat.and1 ha
 rw[e]
 refine⟨fun h=>h1 (by omega),fun h=>h2 (by omega)⟩
theorem adI (a:Nat):(a:Int).fdiv (2^min (Int.toNat 1) IntKind.u32.bits)=((a/2:Nat):Int):=by
 show(a:Int).fdiv (2:Int)=_
 rw[Int.fdiv_eq_ediv_of_nonneg _ (by omega)]
 omega
theorem U7 (r:Nat) (hr:r<4294967296) (c:UInt8):aH Tryz.prog 140 [.v (.int .u32 (r:Int)),.v (.int .u8 (c.toNat:Int))] (.v (.int .u32 (yc r c:Int))) []:=by
 have hc:=UInt8.toNat_lt c
 have h0:r^^^c.toNat<4294967296:=Nat.xor_lt_two_pow (n:=32) (by omega) (by omega)
 refine K1.E 0x2613 Tryz.func140 ?_
 repeat' ((conv=>whnf);first|refine K1.w ?_|refine K1.u ?_|refine K1.z ?_|refine K1.y (fun _=> ?_) (fun _=> ?_)|fail)
 conv=>whnf
 refine aJ.mk {j:Nat//j≤8} (fun j=>⟨[(0,.v (.int .u32 (AP (r^^^c.toNat) j.1:Int))),(9,.v (.int .i64 (j.1:Int)))],[],[],0⟩) (fun j=>8-j.1) ⟨0,Nat.zero_le _⟩ _
  (dB.mk' [] _ _ _ rfl ⟨aj.int (OE hr (by omega)),aj.int rfl,trivial⟩ trivial rfl) ?_
 rintro⟨j,hj⟩
 dsimp only
 have hj2:=AQ h0 j
 repeat' ((conv=>whnf);first|refine K1.w ?_|refine K1.u ?_|refine yC.and1 hj2 (fun _=> ?_) (fun _=> ?_)|refine aG.cO ?_|refine K1.z ?_|refine K1.y (fun _=> ?_) (fun _=> ?_)|fail)
 · rename_i h1
   refine⟨⟨j+1,by omega⟩,_,dB.mk' [] _ _ _ rfl ⟨aj.int ?_,aj.int rfl,trivial⟩ trivial rfl,by show 8-(j+1)<8-j;omega⟩
   show _=((mY (AP (r^^^c.toNat) j):Nat):Int)
   unfold mY
   rw[if_pos h1,←OE (by omega) (by omega),←adI]
   rfl
 · rename_i h1
   refine⟨⟨j+1,by omega⟩,_,dB.mk' [] _ _ _ rfl ⟨aj.int ?_,aj.int rfl,trivial⟩ trivial rfl,by show 8-(j+1)<8-j;omega⟩
   show _=((mY (AP (r^^^c.toNat) j):Nat):Int)
   unfold mY
   rw[if_neg h1]
   exact adI _
 · conv=>whnf
   have:j=8:=by omega
   subst this
   exact aW.mk (aj.refl _)
theorem Dh {l:List UInt8} {j:Nat} (h:j<l.length):mZ (l.take (j+1))=yc (mZ (l.take j)) (l.getD j 0):=by
 rw[List.take_add_one,List.getElem?_eq_getElem h,List.getD,List.getElem?_eq_getElem h,mZ,List.foldl_append]
 rfl
theorem Wr.aes {s:Nat} {m:Int} {K:Int→Prop} (h:K (IntKind.u8.wrap ((s:Int).fdiv m))):Wr ((s:Int).fdiv m) K .u8:= .raw .u8 h
theorem Yt {n:Nat} {F:Nat→List AV} (l:List UInt8) (hF:bF F l) (hn:n=l.length) (hl:l.length≤140737488355328):aH Tryz.prog 113 [.sl 1 n true F] (.v (.int .u32 (jU l:Int))) []:=by
 refine aH.args (bvs:=[.sl 1 l.length true (aX l)]) ?_ (.of (fun X u hu=>aj.pz (sc:=true) hF hn X u hu) .nil)
 have Yu (j:Nat):mZ (l.take j)<4294967296:=BZ _
 have hs (j:Nat) (c:UInt8):=U7 (mZ (l.take j)) (Yu j) c
 refine K1.E 0x3ed Tryz.func113 ?_
 repeat' ((conv=>whnf);first|refine K1.w ?_|refine K1.u ?_|refine K1.z ?_|refine K1.y (fun _=> ?_) (fun _=> ?_)|fail)
 conv=>whnf
 refine aJ.mk {j:Nat//j≤l.length} (fun j=>⟨[(3,.v (.int .u32 (mZ (l.take j.1):Int))),(6,.sl 1 l.length true (aX l)),(7,.v (.int .i64 (l.length:Int))),(8,.v (.int .i64 (j.1:Int)))],[],[],0⟩) (fun j=>l.length-j.1) ⟨0,Nat.zero_le _⟩ _
  (dB.mk' [] _ _ _ rfl ⟨aj.int rfl,aj.refl _,aj.refl _,aj.int rfl,trivial⟩ trivial rfl) ?_
 rintro⟨j,hj⟩
 dsimp only
 repeat' ((conv=>whnf);first|refine K1.w ?_|refine K1.u ?_|refine K1.P1 (hs j _) rfl ?_|refine aG.cO ?_|refine K1.z ?_|refine K1.y (fun _=> ?_) (fun _=> ?_)|fail)
 · refine⟨⟨j+1,by omega⟩,_,dB.mk' [] _ _ _ rfl ⟨aj.int ?_,aj.refl _,aj.refl _,aj.int rfl,trivial⟩ trivial rfl,by show l.length-(j+1)<l.length-j;omega⟩
   show _=((mZ (l.take (j+1)):Nat):Int)
   rw[Dh (by omega)]
   rfl
 · conv=>whnf
   refine aW.mk (aj.int ?_)
   show IntKind.u32.wrap ((BitVec.ofInt IntKind.u32.bits ((4294967295:Nat):Int)^^^BitVec.ofInt IntKind.u32.bits (mZ (l.take j):Int)).toNat:Int)=_
   rw[OE (by omega) (Yu j),List.take_of_length_le (by omega)]
   rfl
def u8C (n:Nat):AV:= .v (.int .u8 ((UInt8.ofNat n).toNat:Int))
def QU (s:Nat):List AV:=[u8C s,u8C (s/256),u8C (s/65536),u8C (s/16777216)]
theorem acF (n:Nat) (m:Nat):IntKind.u8.wrap ((n:Int).fdiv ((m:Nat):Int))=((UInt8.ofNat (n/m)).toNat:Int):=by
 rw[IntKind.wrap_u8,Int.fdiv_eq_ediv_of_nonneg _ (Int.natCast_nonneg m),UInt8.toNat_ofNat']
 simp
theorem u8V (n:Nat) (m:Nat):AV.v (.int .u8 (IntKind.u8.wrap ((n:Int).fdiv ((m:Nat):Int))))=u8C (n/m):=by rw[acF];rfl
theorem Cb {n:Nat} {F:Nat→List AV} (l:List UInt8) (hF:bF F l) (hn:n=l.length) (hl:l.length≤140737488355328):aH Tryz.prog 79 [.sl 1 n true F] (.agg (QU (jU l))) []:=by
 have hs:=Jt l
 have hss:=Yt l hF hn hl
 generalize jU l=s at hs hss
 refine K1.E 0x33d Tryz.func79 ?_
 repeat' ((conv=>whnf);first|refine K1.w ?_|refine K1.u ?_|refine K1.P1 (hss) rfl ?_|refine aJ.rounds 5 ?_|refine aG.cO ?_|refine Wr.aes ?_|refine K1.z ?_|refine K1.y (fun _=> ?_) (fun _=> ?_)|fail)
 conv=>whnf
 refine aW.mk (aj.of (congrArg AV.agg ?_))
 unfold QU
 rw[←u8V s 256,←u8V s 65536,←u8V s 16777216,show u8C s=AV.v (.int .u8 (IntKind.u8.wrap ((s:Int).fdiv ((1:Nat):Int)))) by rw[u8V,Nat.div_one]]
 rfl
theorem Tz (a0 a1 a2 a3 b0 b1 b2 b3:Int):Ep Tryz.prog 137 [.int .u8 a0,.int .u8 a1,.int .u8 a2,.int .u8 a3] [.int .u8 b0,.int .u8 b1,.int .u8 b2,.int .u8 b3] (a0=b0∧a1=b1∧a2=b2∧a3=b3):=by
 refine⟨by kernel_rfl,fun w=>⟨decide (a0=b0∧a1=b1∧a2=b2∧a3=b3),by rw[decide_eq_true_eq], ?_⟩⟩
 show(Op.equalIn 10000 137 (.agg #[.int .u8 a0,.int .u8 a1,.int .u8 a2,.int .u8 a3]) (.agg #[.int .u8 b0,.int .u8 b1,.int .u8 b2,.int .u8 b3])).run Tryz.prog w=_
 rw[show(10000:Nat)=9999+1 from rfl,Op.equalIn]
 simp only[Sem.run_bind,run_underlying Tryz.underlying137,Result.andThen_ok]
 simp only[Std.Legacy.Range.forIn_eq_forIn_range',Std.Legacy.Range.size,Nat.sub_zero,Nat.add_sub_cancel,Nat.div_one,List.range'_succ,List.range'_zero,List.forIn_cons,List.forIn_nil]
 have u3:=Tryz.underlying5
 have a3':=Tryz.isAgg5
 have z3:=Tryz.sizeOf5
 go_simp
 repeat' split
 all_goals simp_all
theorem Yv (l:List UInt8):bF (chunk 1 (QU (jU l))) (pI l):=by
 intro i hi
 have:i=0∨i=1∨i=2∨i=3:=by simp[pI]at hi;omega
 rcases this with rfl|rfl|rfl|rfl<;>rfl
theorem nV (d:Nat) {n:Nat} {F:Nat→List AV} (l:List UInt8) (hF:bF F l) (hn:n=l.length) (hl:l.length≤1000000000):
  aH Tryz.prog 78 [.sl 1 n true F] (.own d) [(d,.row 5 1 (eP l).length true (aX (eP l)))]:=by
 refine aH.args (bvs:=[.sl 1 l.length true (aX l)]) ?_ (.of (fun X u hu=>aj.pz (sc:=true) hF hn X u hu) .nil)
 have ht:=Cb l (bF.bytes l) rfl (by omega)
 refine K1.E 0x1d Tryz.func78 ?_
 repeat' ((conv=>whnf);first|refine K1.w ?_|refine K1.u ?_|refine K1.P1 (ht) rfl ?_|refine AMk.none rfl (by omega) (by dsimp only;omega) (by omega) ?_|refine K1.z ?_|refine K1.y (fun _=> ?_) (fun _=> ?_)|fail)
 conv=>whnf
 refine aG.qJ d rfl rfl ?_ (aj.refl _)
 apply au.pz (l:=[]++l++pI l)
 · exact bF.app (bF.app (bF.nil _) (bF.bytes _) rfl) (Yv l) (by simp)
 · simp[pI]
 · rfl
theorem AU (m:List UInt8) (k:Nat) (hk:k=m.length) (i:Nat):(((eP m).getD (k+i) default).toNat:Int)=(((pI m).getD i default).toNat:Int):=by
 subst hk
 unfold eP
 rw[List.getD,List.getElem?_append_right (by omega),Nat.add_sub_cancel_left,List.getD]
def rX (l:List UInt8):Prop:=4≤l.length∧l=eP (l.take (l.length-4))
theorem Ju (d:Nat) {n:Nat} {F:Nat→List AV} (m:List UInt8) (hF:bF F (eP m)) (hn:n=(eP m).length) (hl:m.length≤1000000000):
  aH Tryz.prog 44 [.sl 1 n true F] (.dM [.own d,.v (.bool true)]) [(d,.row 5 1 m.length true (aX m))]:=by
 refine aH.args (bvs:=[.sl 1 (eP m).length true (aX (eP m))]) ?_ (.of (fun X u hu=>aj.pz (sc:=true) hF hn X u hu) .nil)
 have hlen:=dY m
 have htk:(eP m).take m.length=m:=by simp[eP]
 have hFm:bF (aX (eP m)) m:=fun i hi=>by have:=(bF.bytes (eP m)).take m.length i;rw[htk]at this;exact this hi
 refine K1.E 0x20001d Tryz.func44 ?_
 repeat' ((conv=>whnf);first|refine K1.w ?_|refine K1.u ?_|refine K1.P1 (Cb m hFm (by omega) (by omega)) rfl ?_|refine IC.mk [.int .u8 _,.int .u8 _,.int .u8 _,.int .u8 _] [.int .u8 _,.int .u8 _,.int .u8 _,.int .u8 _] _ rfl rfl (Tz _ _ _ _ _ _ _ _) (yC.yes ⟨AU m _ (by omega) 0,AU m _ (by omega) 1,AU m _ (by omega) 2,AU m _ (by omega) 3⟩ ?_)|refine K1.o (id:=2) [(0,none),(1,none),(2,none),(3,none),(4,none),(5,none),(6,none),(7,none),(8,none),(9,none),(10,none),(11,some [1]),(12,none),(13,none)] [(2,[1]),(3,[1]),(4,[1]),(5,[1]),(6,[1]),(7,[1]),(8,[1]),(9,[1]),(10,[1]),(11,[1]),(12,[1]),(13,[1])] ?_|refine K1.z ?_|refine K1.y (fun _=> ?_) (fun _=> ?_)|fail)
 conv=>whnf
 refine aG.qJ d rfl rfl ?_ (aj.refl _)
 apply au.pz (l:=[]++m)
 · exact bF.app (bF.nil _) hFm rfl
 · simp
   omega
 · rfl
theorem LG {a b:UInt8} (h:(a.toNat:Int)=(b.toNat:Int)):a=b:=UInt8.toNat_inj.1 (by omega)
theorem adJ {l:List UInt8} {k:Nat} (h:l.length=k+4):l.drop k=[l.getD (k+0) default,l.getD (k+1) default,l.getD (k+2) default,l.getD (k+3) default]:=by
 apply List.ext_getElem
 · simp[h]
 · intro i h1 h2
   have hi:i<4:=by simpa using h2
   rw[List.getElem_drop]
   rcases(show i=0∨i=1∨i=2∨i=3 by omega)with rfl|rfl|rfl|rfl<;>simp[List.getD,h]
theorem aaG {l:List UInt8} {k:Nat} (h:l.length=k+4) (e:((l.getD (k+0) default).toNat:Int)=((UInt8.ofNat (jU (l.take k))).toNat:Int)∧((l.getD (k+1) default).toNat:Int)=((UInt8.ofNat (jU (l.take k)/256)).toNat:Int)∧
  ((l.getD (k+2) default).toNat:Int)=((UInt8.ofNat (jU (l.take k)/65536)).toNat:Int)∧((l.getD (k+3) default).toNat:Int)=((UInt8.ofNat (jU (l.take k)/16777216)).toNat:Int)):rX l:=by
 obtain⟨e0,e1,e2,e3⟩:=e
 refine⟨by omega, ?_⟩
 rw[show l.length-4=k by omega]
 unfold eP pI
 conv=>lhs;rw[←List.take_append_drop k l,adJ h]
 rw[LG e0,LG e1,LG e2,LG e3]
theorem TA {n:Nat} {F:Nat→List AV} (l:List UInt8) (h: ¬rX l) (hF:bF F l) (hn:n=l.length) (hl:l.length≤1000000000):
  aH Tryz.prog 44 [.sl 1 n true F] (.dM [.v (.slice none 0 0),.v (.bool false)]) []:=by
 refine aH.args (bvs:=[.sl 1 l.length true (aX l)]) ?_ (.of (fun X u hu=>aj.pz (sc:=true) hF hn X u hu) .nil)
 have hso (k:Nat) (hk:l.length=k+4):=fun e=>h (aaG (k:=k) hk e)
 refine K1.E 0x20001d Tryz.func44 ?_
 repeat' ((conv=>whnf);first|refine K1.w ?_|refine K1.u ?_|refine K1.P1 (Cb (l.take (l.length-4)) ((bF.bytes l).take _) (by rw[List.length_take];omega) (by rw[List.length_take];omega)) rfl ?_|refine IC.mk [.int .u8 _,.int .u8 _,.int .u8 _,.int .u8 _] [.int .u8 _,.int .u8 _,.int .u8 _,.int .u8 _] _ rfl rfl (Tz _ _ _ _ _ _ _ _) (yC.no (fun e=> ?_) ?_)|refine aG.cO ?_|refine K1.o (id:=2) [(0,none),(1,none),(2,none),(3,none),(4,none),(5,none),(6,none),(7,none),(8,none),(9,none),(10,none),(11,some [1]),(12,none),(13,none)] [(2,[1]),(3,[1]),(4,[1]),(5,[1]),(6,[1]),(7,[1]),(8,[1]),(9,[1]),(10,[1]),(11,[1]),(12,[1]),(13,[1])] ?_|refine K1.z ?_|refine K1.y (fun _=> ?_) (fun _=> ?_)|fail)
 · conv=>whnf
   exact aW.mk (aj.refl _)
 · have hk:((l.length:Int)-4).toNat=l.length-4:=by omega
   rw[hk]at e
   exact hso (l.length-4) (by omega) e
 · conv=>whnf
   exact aW.mk (aj.refl _)
end
section
open Go.RowKit
theorem AX {n:Nat} (h:n<256):((UInt8.ofNat n).toNat:Int)=n:=by
 rw[UInt8.toNat_ofNat',Nat.mod_eq_of_lt (by omega)]
theorem dZ (d n:Nat) (h1:n≤4294967296):aH Tryz.prog 77 [.v (.int .u64 (n:Int))] (.own d) [(d,.row 5 1 (aB n).length true (aX (aB n)))]:=by
 have hst:=QC n h1
 refine K1.E 0x2d Tryz.func77 ?_
 repeat' ((conv=>whnf);first|refine K1.w ?_|refine K1.u ?_|refine K1.z ?_|refine K1.y (fun _=> ?_) (fun _=> ?_)|fail)
 refine aJ.nil 3 90 5 1 (aX []) rfl (by omega) ?_
 refine aJ.mk {x:List UInt8×Nat×Nat//x.1++gy x.2.2 x.2.1=aB n∧x.2.1<128^(x.2.2+1)∧x.1.length≤10∧x.2.1≤4294967296}
  (fun x=>⟨[(0,.v (.int .u64 (x.1.2.1:Int))),(3,.own 90)],[(90,.row 5 1 x.1.1.length true (aX x.1.1))],[],91⟩) (fun x=>x.1.2.1)
  ⟨([],n,9),hst.1,hst.2,by simp,h1⟩ _ (dB.auto _ _ _ rfl ⟨aj.refl _,aj.refl _,trivial⟩ ⟨⟨_,rfl,au.refl _⟩,trivial⟩ rfl) ?_
 rintro⟨⟨acc,m,f⟩,i1,i2,i3,i4⟩
 dsimp only at i1 i2 i3 i4⊢
 have hl:acc.length+(gy f m).length≤10:=by
  have:=congrArg List.length i1
  have:=bQ 9 n
  simp only[List.length_append,aB]at*
  omega
 have hp:=xU f m
 repeat' ((conv=>whnf);first|refine K1.w ?_|refine K1.u ?_|refine K1.z ?_|refine K1.y (fun _=> ?_) (fun _=> ?_)|fail)
 · obtain⟨f',k1,k2⟩:=FH i1 i2 (by omega)
   refine⟨⟨(acc++[UInt8.ofNat (m%128+128)],m/128,f'),k1,k2,by simp;omega,by dsimp only;omega⟩,_,dB.auto _ _ _ rfl ⟨aj.int (by dsimp only;omega),aj.refl _,trivial⟩ ⟨⟨_,rfl,au.row (by simp) (bn rfl ?_)⟩,trivial⟩ rfl,by show m/128<m;omega⟩
   simp only[chunk,bC,AX (show m%128+128<256 by omega)]
   rfl
 · have e:=Jc i1 (by omega)
   refine aG.qJ d rfl rfl (au.row ?_ ?_) (aj.refl _)
   · rw[←e];simp
   · rw[←e]
     refine bn rfl ?_
     simp only[chunk,bC,AX (show m<256 by omega)]
     rfl
end
section
open Go.RowKit
theorem uF (d:Nat) (e:Ev) (h:eG e=0):aH Tryz.prog 76 [e.av] (.dM [.own d,.v (.int .i64 0)]) [(d,.row 5 1 (aQ e).length true (aX (aQ e)))]:=by
 have m:=pU h
 have g:=qx m.ed
 obtain⟨r,n,⟨c0,c1,c2,c3,c4⟩,hh,k,key,l,v⟩:=e
 obtain⟨r0,r4,n1,n2,h1,h2,a0,a1,a2,a3,a4,own,ed⟩:=m
 dsimp only[Ev.ed]at r0 r4 n1 n2 h1 h2 a0 a1 a2 a3 a4 g
 obtain⟨g1,g2,g3,g4,g5,g6,g7⟩:=g
 have g8:v.size≤12∧0≤l∧l≤1:=by
  cases hl:dK k with
  |true=>have:=g6 hl;omega
  |false=>have:=g7 hl;omega
 clear own ed
 obtain⟨n,rfl⟩:=Int.eq_ofNat_of_zero_le (show 0≤n by omega)
 obtain⟨hh,rfl⟩:=Int.eq_ofNat_of_zero_le (show 0≤hh by omega)
 obtain⟨c0,rfl⟩:=Int.eq_ofNat_of_zero_le a0.1
 obtain⟨c1,rfl⟩:=Int.eq_ofNat_of_zero_le a1.1
 obtain⟨c2,rfl⟩:=Int.eq_ofNat_of_zero_le a2.1
 obtain⟨c3,rfl⟩:=Int.eq_ofNat_of_zero_le a3.1
 obtain⟨c4,rfl⟩:=Int.eq_ofNat_of_zero_le a4.1
 have q (x:Nat):(aB x).length≤10:=bQ 9 x
 have q0:=q n
 have q1:=q hh
 have q2:=q c0
 have q3:=q c1
 have q4:=q c2
 have q5:=q c3
 have q6:=q c4
 clear q
 dsimp only[Ev.av,Ev.cs]
 rcases(show r=0∨r=1∨r=2∨r=3∨r=4 by omega)with rfl|rfl|rfl|rfl|rfl
 all_goals
  refine K1.E 0x100020e00023ff Tryz.func76 ?_
  repeat' ((conv=>whnf);first|refine K1.w ?_|refine K1.u ?_|refine K1.P1 (lH ⟨_,(n:Int),⟨(c0:Int),(c1:Int),(c2:Int),(c3:Int),(c4:Int)⟩,(hh:Int),k,key,l,v⟩) rfl ?_|refine K1.F1 (dZ _ _ (by omega)) rfl ?_|refine K1.P1 (lY _) rfl ?_|refine aJ.rounds 6 ?_|refine K1.I 0x3 Tryz.func110 ?_|refine K1.I 0x3 Tryz.func111 ?_|refine K1.o (id:=0) [(0,none),(1,none),(2,none),(3,some [2]),(4,some [2,0]),(5,some [2,0])] [(3,[2]),(4,[2,0]),(5,[2,0])] ?_|refine K1.z ?_|refine K1.y (fun _=> ?_) (fun _=> ?_)|fail)
  all_goals(refine aG.qJ d rfl rfl ?_ (aj.refl _);apply au.pz)
  all_goals(try(repeat' (first|exact bF.bytes _|exact bF.str _|exact bF.one (by omega) (by omega)|exact bF.two (by omega) (by omega) (by omega) (by omega)|apply bF.app)))
  all_goals first
    |(simp only[List.length_append,List.length_cons,List.length_nil,qU];try omega;done)
    |(simp[aQ,others,words,iL,byteOf,byteOf', *];done)
end
section
open Go.RowKit
theorem gK (k:Int):aH Tryz.prog 127 [.v (.int .i64 k)] (.dM [.v (.bool (Gg k)),.v (.bool (Gh k)),.v (.bool (Gi k)),.v (.bool (rcK k))]) []:=by
 refine K1.E 0xa8fd Tryz.func127 ?_
 repeat' ((conv=>whnf);first|refine K1.w ?_|refine K1.u ?_|refine aG.cO ?_|refine K1.z ?_|refine K1.y (fun _=> ?_) (fun _=> ?_)|fail)
 all_goals(conv=>whnf)
 all_goals(refine aW.mk (aj.of ?_))
 all_goals first|(subst_vars;rfl)|(simp[Gg,Gh,Gi,rcK, *];omega)
theorem LH (n:Int):aH Tryz.prog 153 [.v (.int .i64 n)] (.v (.bool (oJ n))) []:=by
 refine K1.E 0x5 Tryz.func153 ?_
 repeat' ((conv=>whnf);first|refine K1.w ?_|refine K1.u ?_|refine aG.cO ?_|refine K1.z ?_|refine K1.y (fun _=> ?_) (fun _=> ?_)|fail)
 all_goals(conv=>whnf)
 all_goals(refine aW.mk (aj.of ?_))
 all_goals simp[oJ,gG, *]
theorem Yw {l:List Ev} {j:Nat} (hj:j<l.length) (h: ¬eG (l.getD j default)=0):l.all (fun e=>decide (eG e=0))=false:=by
 rw[List.all_eq_false]
 refine⟨l[j],List.getElem_mem hj, ?_⟩
 rw[List.getD,List.getElem?_eq_getElem hj]at h
 simpa using h
theorem TB {l:List Ev} (h: ∀i,i<l.length→eG (l.getD i default)=0):l.all (fun e=>decide (eG e=0))=true:=by
 rw[List.all_eq_true]
 intro e he
 obtain⟨i,hi,rfl⟩:=List.mem_iff_getElem.1 he
 have:=h i hi
 rw[List.getD,List.getElem?_eq_getElem hi]at this
 simpa using this
theorem Di (k:Int) (h: ¬ (1≤k∧k≤6)):aH Tryz.prog 127 [.v (.int .i64 k)] (.dM [.v (.bool false),.v (.bool false),.v (.bool false),.v (.bool false)]) []:=by
 have:=gK k
 rw[show Gg k=false by simp[Gg];omega,show Gh k=false by simp[Gh];omega,show Gi k=false by simp[Gi];omega,show rcK k=false by simp[rcK];omega]at this
 exact this
theorem qA (x:Rc) (hl:x.ev.length≤140737488355328):aH Tryz.prog 126 [x.av] (.v (.bool (mX x))) []:=by
 obtain⟨k,r,u,⟨c0,c1,c2,c3,c4⟩,ev⟩:=x
 dsimp only at hl
 rcases(show k=1∨k=2∨k=3∨k=4∨k=5∨k=6∨ ¬ (1≤k∧k≤6) by omega)with rfl|rfl|rfl|rfl|rfl|rfl|hk
 all_goals dsimp only[Rc.av,Rc.cs]
 all_goals
  refine K1.E 0x10f4000000474000000057f Tryz.func126 ?_
  repeat' ((conv=>whnf);first|refine K1.w ?_|refine K1.u ?_|refine K1.P1 (Di _ hk) rfl ?_|refine K1.P1 (gK _) rfl ?_|refine K1.P1 (LH _) rfl ?_|refine aJ.rP 45 6 rfl ?_|refine IC.mk (aZ.vs ⟨c0,c1,c2,c3,c4⟩) (aZ.vs dX) (aZ.mk c0 c1 c2 c3 c4=dX) rfl rfl (nU _ _) ?_|refine aG.cO ?_|refine K1.z ?_|refine K1.y (fun _=> ?_) (fun _=> ?_)|fail)
  all_goals(conv=>whnf)
  all_goals first
    |refine aW.mk (aj.of ?_)
    |refine aJ.mk {j:Nat//j≤ev.length∧ ∀i,i<j→eG (ev.getD i default)=0} (fun j=>⟨[(1,.box 0 0),(80,.sl 12 ev.length true (dV ev)),(81,.v (.int .i64 (ev.length:Int))),(82,.v (.int .i64 (j.1:Int)))],
       [(0,.box 59 [.v (.int .i64 _),.v (.int .i64 r),.v (.int .i64 u),.v (.int .i64 c0),.v (.int .i64 c1),.v (.int .i64 c2),.v (.int .i64 c3),.v (.int .i64 c4),.sl 12 ev.length true (dV ev)])],[],4⟩) (fun j=>ev.length-j.1) ⟨0,Nat.zero_le _,fun i h=>absurd h (Nat.not_lt_zero i)⟩ _
       (dB.mk' [] _ _ _ rfl ⟨aj.refl _,aj.refl _,aj.refl _,aj.int rfl,trivial⟩ ⟨⟨_,rfl,au.refl _⟩,trivial⟩ rfl) ?_
  all_goals try(simp[mX,rcK,Gg,Gh,Gi,ML,jo,-List.length_eq_zero_iff, *]<;>omega;done)
  all_goals(rintro⟨j,hj,hall⟩;dsimp only)
  all_goals repeat' ((conv=>whnf);first|refine K1.w ?_|refine K1.u ?_|refine K1.P1 (lH (ev.getD (j:Int).toNat default)) rfl ?_|refine aG.cO ?_|refine K1.z ?_|refine K1.y (fun _=> ?_) (fun _=> ?_)|fail)
  all_goals first
    | (conv=>whnf
       refine⟨⟨j+1,by omega,fun i hi=> ?_⟩,_,dB.mk' [] _ _ _ rfl ⟨aj.refl _,aj.refl _,aj.refl _,aj.int rfl,trivial⟩ ⟨⟨_,rfl,au.refl _⟩,trivial⟩ rfl,by show ev.length-(j+1)<ev.length-j;omega⟩
       rcases Nat.lt_or_ge i j with h|h
       · exact hall i h
       · rw[show i=j by omega]
         exact ‹eG (ev.getD (j:Int).toNat default)=0›)
    | (conv=>whnf
       refine aW.mk (aj.of ?_)
       have hno:=Yw (l:=ev) (j:=j) (by omega) ‹¬eG (ev.getD (j:Int).toNat default)=0›
       simp[mX,hno])
    | (conv=>whnf
       refine aW.mk (aj.of ?_)
       have hyes:=TB (l:=ev) (fun i hi=>hall i (by omega))
       simp[mX,show oJ 0=true from rfl,rcK,Gg,Gh,Gi,ML,jo,-List.length_eq_zero_iff, *]<;>omega)
def fQ (l:List Ev):List UInt8:=l.flatMap aQ
def zy (c:aZ):List UInt8:=iL c.c0++iL c.c1++iL c.c2++iL c.c3++iL c.c4
def fK (x:Rc):List UInt8:=
 [byteOf x.k,byteOf x.r]++(if Gg x.k then iL x.u else [])++(if Gi x.k then zy x.c else [])++(if Gh x.k then aB x.ev.length++fQ x.ev else [])
def aS (x:Rc):List UInt8:=aB (eP (fK x)).length++eP (fK x)
theorem Yx (x:Rc) (hl:x.ev.length≤140737488355328) (h:mX x=false):aH Tryz.prog 93 [x.av] (.dM [.v (.slice none 0 0),.v (.int .i64 1)]) []:=by
 have hm:=qA x hl
 rw[h]at hm
 refine K1.E 0x403c0203a040004f57f Tryz.func93 ?_
 repeat' ((conv=>whnf);first|refine K1.w ?_|refine K1.u ?_|refine K1.P1 (hm) rfl ?_|refine aG.cO ?_|refine K1.z ?_|refine K1.y (fun _=> ?_) (fun _=> ?_)|fail)
 conv=>whnf
 exact aW.mk (aj.refl _)
end
theorem sU (x:Int):0≤m5 x∧m5 x≤4:=by unfold m5;omega
theorem Yy (n:Nat):keyE (ks3 n)=0:=by unfold ks3;split;decide;split<;>decide
theorem acG (n:Nat):eX (vs4 n)=0:=by unfold vs4;split;decide;split;decide;split<;>decide
theorem Gl (e:Ed):jE (kC e)=0:=by
 have hm:=sU e.k
 have ha:=X7 e.l
 unfold kC
 split
 · unfold jE
   simp only[Yy,acG]
   rw[if_neg (by omega),if_neg (by simp),if_neg (by omega),if_neg (by unfold lT;simp;omega)]
 · unfold jE
   simp only[Yy]
   rw[if_neg (by omega),if_neg (by simp),if_pos (by omega)]
   rfl
theorem Gm (e:Ev):eG (fF e)=0:=by
 have hm:=sU e.r
 have a0:=pG e.n
 have a1:=Lh e.h
 have b0:=pG e.c.c0
 have b1:=pG e.c.c1
 have b2:=pG e.c.c2
 have b3:=pG e.c.c3
 have b4:=pG e.c.c4
 refine lQ ?_
 have hed:(fF e).ed=kC e.ed:=rfl
 rcases(show m5 e.r=0∨m5 e.r=1∨m5 e.r=2∨m5 e.r=3∨m5 e.r=4 by omega)with h|h|h|h|h<;>
  (refine⟨?_, ?_, ?_, ?_, ?_, ?_, ?_, ?_, ?_, ?_, ?_, ?_,by rw[hed];exact Gl _⟩<;>simp[fF,h,aZ.put,aZ.get]<;>omega)
theorem Cc: ∀ (f n k:Nat),n<128^(k+1)→(gy f n).length≤k+1
  |0,n,k,_=>by simp[gy]
  | f + 1,n,k,h=>by
    unfold gy
    split
    · simp
    · cases k with
      |zero=>simp at h;omega
      | succ k=>
        have:=Cc f (n/128) k (by rw[Nat.pow_succ]at h;exact Nat.div_lt_of_lt_mul (by rw[Nat.mul_comm];exact h))
        simp only[List.length_cons]
        omega
theorem adK {n:Nat} (h:n≤1048576):(aB n).length≤3:=Cc 9 n 2 (by omega)
theorem adL {n:Nat} (h:n≤16777216):(aB n).length≤4:=Cc 9 n 3 (by omega)
theorem Ce {n:Int} (h:n≤1048576):(iL n).length≤3:=adK (by omega)
theorem acH {n:Int} (h:n≤16777216):(iL n).length≤4:=adL (by omega)
theorem Jv (s:ByteArray):(words s).length=1+s.size:=by
 unfold words
 rw[List.length_cons,Array.length_toList]
 show s.size+1=_
 omega
theorem oL {e:Ev} (h:eG e=0):(aQ e).length≤44:=by
 have m:=pU h
 obtain⟨k1,k2,s1,s2,_,hl,hs⟩:=qx m.ed
 have hn:=Ce (n:=e.n) (by have:=m.n2;omega)
 have hh:=acH (n:=e.h) (by have:=m.h2;omega)
 have c0:=Ce m.a0.2
 have c1:=Ce m.a1.2
 have c2:=Ce m.a2.2
 have c3:=Ce m.a3.2
 have c4:=Ce m.a4.2
 have r0:=m.r0
 have r4:=m.r4
 have hv:(if dK e.k then byteOf e.l::words e.v else []).length≤14:=by
  split
  · rename_i h
    have:=hl h
    simp only[List.length_cons,Jv,Ev.ed]at this⊢
    omega
  · simp
 have ho:((others e).flatMap iL).length≤12:=by
  unfold others
  rcases(show e.r=0∨e.r=1∨e.r=2∨e.r=3∨e.r=4 by omega)with h|h|h|h|h<;>simp[h]<;>omega
 unfold aQ
 simp only[List.length_append,List.length_cons,List.length_nil,Jv]
 have:e.key.size≤8:=s2
 omega
section
open Go.RowKit
theorem sV {l:List Ev} (h: ∀e∈l,eG e=0):(fQ l).length≤44*l.length:=by
 induction l with
 |nil=>simp[fQ]
 | cons e l ih=>
   have h1:=oL (h e (by simp))
   have h2:=ih fun x hx=>h x (by simp[hx])
   simp only[fQ,List.flatMap_cons,List.length_append,List.length_cons]at*
   omega
theorem yg {l:List Ev} {j:Nat} (h:j<l.length):fQ (l.take (j+1))=fQ (l.take j)++aQ (l.getD j default):=by
 rw[List.take_add_one,List.getElem?_eq_getElem h,List.getD,List.getElem?_eq_getElem h,fQ,List.flatMap_append]
 simp[fQ]
theorem LJ {l:List Ev} (h:l.all (fun e=>decide (eG e=0))=true) {j:Nat} (hj:j<l.length):eG (l.getD j default)=0:=by
 rw[List.getD,List.getElem?_eq_getElem hj]
 simpa using List.all_eq_true.1 h l[j] (List.getElem_mem hj)
theorem pJ {l:List Ev} (h:l.all (fun e=>decide (eG e=0))=true): ∀e∈l,eG e=0:=fun e he=>by simpa using List.all_eq_true.1 h e he
theorem fU {n:Int} (h:oJ n=true): ∃m:Nat,n=m∧m≤1048576:=by
 have:=fV h
 exact⟨n.toNat,by omega,by omega⟩
structure aeu (x:Rc):Prop where
 k:1≤x.k∧x.k≤6
 r:0≤x.r∧x.r<5
 u:oJ x.u=true
 l:x.ev.length≤4096
 c:oJ x.c.c0=true∧oJ x.c.c1=true∧oJ x.c.c2=true∧oJ x.c.c3=true∧oJ x.c.c4=true
 u0:Gg x.k=true∨x.u=0
 c0:Gi x.k=true∨x.c=dX
 e0:Gh x.k=true∨x.ev.length=0
 ev:x.ev.all (fun e=>decide (eG e=0))=true
 one:x.k≠1∨x.ev.length=1
theorem uG {x:Rc} (h:mX x=true):aeu x:=by
 simp only[mX,Bool.and_eq_true,Bool.or_eq_true,decide_eq_true_eq,jo,ML,rcK]at h
 obtain⟨⟨⟨⟨⟨⟨⟨⟨⟨⟨h1,h2⟩,h3⟩,h4⟩,h5⟩,⟨⟨⟨h6,h7⟩,h8⟩,h9⟩,h10⟩,h11⟩,h12⟩,h13⟩,h14⟩,h15⟩:=h
 exact⟨h1,⟨h2,h3⟩,h4,h5,⟨h6,h7,h8,h9,h10⟩,h11,h12,h13,h14,h15⟩
theorem LK (d:Nat) (x:Rc) (h:mX x=true) (hk:x.k=1∨x.k=2∨x.k=5):
  aH Tryz.prog 93 [x.av] (.dM [.own d,.v (.int .i64 0)]) [(d,.row 5 1 (aS x).length true (aX (aS x)))]:=by
 have m:=uG h
 have hm:=qA x (by have:=m.l;omega)
 rw[h]at hm
 obtain⟨k,r,u,c,ev⟩:=x
 obtain⟨mk,mr,mu,ml,mc,wF,uQ,me0,Gn,m1⟩:=m
 dsimp only at mk mr mu ml mc wF uQ me0 Gn m1 hk
 have hat: ∀j,j<ev.length→eG (ev.getD j default)=0:=fun j hj=>LJ Gn hj
 have h44: ∀j,j<ev.length→(aQ (ev.getD j default)).length≤44:=fun j hj=>oL (hat j hj)
 have hlen: ∀j,(fQ (ev.take j)).length≤44*j:=fun j=>Nat.le_trans (sV fun e he=>pJ Gn e (List.mem_of_mem_take he)) (Nat.mul_le_mul_left _ (by rw[List.length_take];omega))
 have hv:(aB ev.length).length≤10:=bQ 9 _
 obtain⟨kk,hkk⟩: ∃kk,kk=k:=⟨_,rfl⟩
 have hmore: ∀j,([byteOf' kk,byteOf' r]++aB ev.length++fQ (ev.take j)).length=2+(aB ev.length).length+(fQ (ev.take j)).length:=fun j=>by simp;omega
 rcases hk with rfl|rfl|rfl
 all_goals
  dsimp only[Rc.av,Rc.cs]at hm⊢
  refine K1.E 0x403c0203a040004f57f Tryz.func93 ?_
  repeat' ((conv=>whnf);first|refine K1.w ?_|refine K1.u ?_|refine K1.P1 (hm) rfl ?_|refine K1.P1 (gK _) rfl ?_|refine K1.F1 (dZ _ ev.length (by omega)) rfl ?_|refine K1.z ?_|refine K1.y (fun _=> ?_) (fun _=> ?_)|fail)
  conv=>whnf
  refine aJ.mk {j:Nat//j≤ev.length} (fun j=>⟨[(1,.box 0 0),(8,.own 90),(62,.sl 12 ev.length true (dV ev)),(63,.v (.int .i64 (ev.length:Int))),(64,.v (.int .i64 (j.1:Int)))],
    [(90,.row 5 1 ([byteOf' kk,byteOf' r]++aB ev.length++fQ (ev.take j.1)).length true (aX ([byteOf' kk,byteOf' r]++aB ev.length++fQ (ev.take j.1))))],[],91⟩) (fun j=>ev.length-j.1) ⟨0,Nat.zero_le _⟩ _
    (dB.mk' [(3,90)] _ _ _ rfl ⟨aj.refl _,aj.refl _,aj.refl _,aj.refl _,aj.int rfl,trivial⟩ ⟨⟨_,rfl,au.pz (bF.app (bF.two (by omega) (by omega) (by omega) (by omega)) (bF.bytes _) rfl) (by simp<;>omega) (by simp[fQ,hkk])⟩,trivial⟩ rfl) ?_
  rintro⟨j,hj⟩
  dsimp only
  have acI:=h44 (j:Int).toNat
  have hmj:=hmore j
  have hlj:=hlen j
  have hsl:=dY ([byteOf' kk,byteOf' r]++aB ev.length++fQ (ev.take j))
  have hvs:(aB (eP ([byteOf' kk,byteOf' r]++aB ev.length++fQ (ev.take j))).length).length≤10:=bQ 9 _
  repeat' ((conv=>whnf);first|refine K1.w ?_|refine K1.u ?_|refine K1.F1 (uF _ (ev.getD (j:Int).toNat default) (hat _ (by omega))) rfl ?_|refine K1.F1 (nV _ ([byteOf' kk,byteOf' r]++aB ev.length++fQ (ev.take j)) (bF.bytes _) rfl (by omega)) rfl ?_|refine K1.F1 (dZ _ (eP ([byteOf' kk,byteOf' r]++aB ev.length++fQ (ev.take j))).length (by rw[dY];omega)) rfl ?_|refine K1.z ?_|refine K1.y (fun _=> ?_) (fun _=> ?_)|fail)
  · conv=>whnf
    refine⟨⟨j+1,by omega⟩,_,dB.mk' [(93,90)] _ _ _ rfl ⟨aj.refl _,aj.refl _,aj.refl _,aj.refl _,aj.int rfl,trivial⟩ ⟨⟨_,rfl,au.pz (bF.app (bF.bytes _) (bF.bytes _) rfl) List.length_append.symm ?_⟩,trivial⟩ rfl,by show ev.length-(j+1)<ev.length-j;omega⟩
    rw[yg (by omega),List.append_assoc]
    rfl
  · conv=>whnf
    refine aG.qJ d rfl rfl ?_ (aj.refl _)
    refine au.pz (bF.app (bF.bytes _) (bF.bytes _) rfl) List.length_append.symm ?_
    rw[List.take_of_length_le (by omega)]
    unfold aS fK
    simp[hkk,Gg,Gh,Gi,byteOf,byteOf']
theorem Yz (d:Nat) (x:Rc) (h:mX x=true) (hk:x.k=4):
  aH Tryz.prog 93 [x.av] (.dM [.own d,.v (.int .i64 0)]) [(d,.row 5 1 (aS x).length true (aX (aS x)))]:=by
 have m:=uG h
 have hm:=qA x (by have:=m.l;omega)
 rw[h]at hm
 obtain⟨k,r,u,c,ev⟩:=x
 obtain⟨mk,mr,mu,ml,mc,wF,uQ,me0,Gn,m1⟩:=m
 dsimp only at mk mr mu ml mc wF uQ me0 Gn m1 hk
 have hat: ∀j,j<ev.length→eG (ev.getD j default)=0:=fun j hj=>LJ Gn hj
 have h44: ∀j,j<ev.length→(aQ (ev.getD j default)).length≤44:=fun j hj=>oL (hat j hj)
 have hlen: ∀j,(fQ (ev.take j)).length≤44*j:=fun j=>Nat.le_trans (sV fun e he=>pJ Gn e (List.mem_of_mem_take he)) (Nat.mul_le_mul_left _ (by rw[List.length_take];omega))
 have hv:(aB ev.length).length≤10:=bQ 9 _
 obtain⟨kk,hkk⟩: ∃kk,kk=k:=⟨_,rfl⟩
 obtain⟨un,rfl,hun⟩:=fU mu
 have hvu:(aB un).length≤10:=bQ 9 _
 have hmore: ∀j,([byteOf' kk,byteOf' r]++aB un++aB ev.length++fQ (ev.take j)).length=2+(aB un).length+(aB ev.length).length+(fQ (ev.take j)).length:=fun j=>by simp;omega
 subst hk
 all_goals
  dsimp only[Rc.av,Rc.cs]at hm⊢
  refine K1.E 0x403c0203a040004f57f Tryz.func93 ?_
  repeat' ((conv=>whnf);first|refine K1.w ?_|refine K1.u ?_|refine K1.P1 (hm) rfl ?_|refine K1.P1 (gK _) rfl ?_|refine K1.F1 (dZ _ un (by omega)) rfl ?_|refine K1.F1 (dZ _ ev.length (by omega)) rfl ?_|refine K1.z ?_|refine K1.y (fun _=> ?_) (fun _=> ?_)|fail)
  conv=>whnf
  refine aJ.mk {j:Nat//j≤ev.length} (fun j=>⟨[(1,.box 0 0),(8,.own 90),(62,.sl 12 ev.length true (dV ev)),(63,.v (.int .i64 (ev.length:Int))),(64,.v (.int .i64 (j.1:Int)))],
    [(90,.row 5 1 ([byteOf' kk,byteOf' r]++aB un++aB ev.length++fQ (ev.take j.1)).length true (aX ([byteOf' kk,byteOf' r]++aB un++aB ev.length++fQ (ev.take j.1))))],[],91⟩) (fun j=>ev.length-j.1) ⟨0,Nat.zero_le _⟩ _
    (dB.mk' [(5,90)] _ _ _ rfl ⟨aj.refl _,aj.refl _,aj.refl _,aj.refl _,aj.int rfl,trivial⟩ ⟨⟨_,rfl,au.pz (bF.app (bF.app (bF.two (by omega) (by omega) (by omega) (by omega)) (bF.bytes _) rfl) (bF.bytes _) (by simp<;>omega)) (by simp<;>omega) (by simp[fQ,hkk])⟩,trivial⟩ rfl) ?_
  rintro⟨j,hj⟩
  dsimp only
  have acI:=h44 (j:Int).toNat
  have hmj:=hmore j
  have hlj:=hlen j
  have hsl:=dY ([byteOf' kk,byteOf' r]++aB un++aB ev.length++fQ (ev.take j))
  have hvs:(aB (eP ([byteOf' kk,byteOf' r]++aB un++aB ev.length++fQ (ev.take j))).length).length≤10:=bQ 9 _
  repeat' ((conv=>whnf);first|refine K1.w ?_|refine K1.u ?_|refine K1.F1 (uF _ (ev.getD (j:Int).toNat default) (hat _ (by omega))) rfl ?_|refine K1.F1 (nV _ ([byteOf' kk,byteOf' r]++aB un++aB ev.length++fQ (ev.take j)) (bF.bytes _) rfl (by omega)) rfl ?_|refine K1.F1 (dZ _ (eP ([byteOf' kk,byteOf' r]++aB un++aB ev.length++fQ (ev.take j))).length (by rw[dY];omega)) rfl ?_|refine K1.z ?_|refine K1.y (fun _=> ?_) (fun _=> ?_)|fail)
  · conv=>whnf
    refine⟨⟨j+1,by omega⟩,_,dB.mk' [(93,90)] _ _ _ rfl ⟨aj.refl _,aj.refl _,aj.refl _,aj.refl _,aj.int rfl,trivial⟩ ⟨⟨_,rfl,au.pz (bF.app (bF.bytes _) (bF.bytes _) rfl) List.length_append.symm ?_⟩,trivial⟩ rfl,by show ev.length-(j+1)<ev.length-j;omega⟩
    rw[yg (by omega),List.append_assoc]
    rfl
  · conv=>whnf
    refine aG.qJ d rfl rfl ?_ (aj.refl _)
    refine au.pz (bF.app (bF.bytes _) (bF.bytes _) rfl) List.length_append.symm ?_
    rw[List.take_of_length_le (by omega)]
    unfold aS fK
    simp[hkk,Gg,Gh,Gi,byteOf,byteOf',iL]
theorem aaH (d:Nat) (x:Rc) (h:mX x=true) (hk:x.k=3):
  aH Tryz.prog 93 [x.av] (.dM [.own d,.v (.int .i64 0)]) [(d,.row 5 1 (aS x).length true (aX (aS x)))]:=by
 have m:=uG h
 have hm:=qA x (by have:=m.l;omega)
 rw[h]at hm
 obtain⟨k,r,u,c,ev⟩:=x
 obtain⟨mk,mr,mu,ml,mc,wF,uQ,me0,Gn,m1⟩:=m
 dsimp only at mk mr mu ml mc wF uQ me0 Gn m1 hk
 obtain⟨kk,hkk⟩: ∃kk,kk=k:=⟨_,rfl⟩
 obtain⟨un,rfl,hun⟩:=fU mu
 have hvu:(aB un).length≤10:=bQ 9 _
 have hmore:([byteOf' kk,byteOf' r]++aB un).length=2+(aB un).length:=by simp;omega
 have hsl:=dY ([byteOf' kk,byteOf' r]++aB un)
 have hvs:(aB (eP ([byteOf' kk,byteOf' r]++aB un)).length).length≤10:=bQ 9 _
 subst hk
 dsimp only[Rc.av,Rc.cs]at hm⊢
 refine K1.E 0x403c0203a040004f57f Tryz.func93 ?_
 repeat' ((conv=>whnf);first|refine K1.w ?_|refine K1.u ?_|refine K1.P1 (hm) rfl ?_|refine K1.P1 (gK _) rfl ?_|refine K1.F1 (dZ _ un (by omega)) rfl ?_|refine K1.F1 (nV _ ([byteOf' kk,byteOf' r]++aB un) (hkk▸bF.app (bF.two (by omega) (by omega) (by omega) (by omega)) (bF.bytes _) rfl) (by simp<;>omega) (by omega)) rfl ?_|refine K1.F1 (dZ _ (eP ([byteOf' kk,byteOf' r]++aB un)).length (by rw[dY];omega)) rfl ?_|refine K1.z ?_|refine K1.y (fun _=> ?_) (fun _=> ?_)|fail)
 conv=>whnf
 refine aG.qJ d rfl rfl ?_ (aj.refl _)
 refine au.pz (bF.app (bF.bytes _) (bF.bytes _) rfl) List.length_append.symm ?_
 unfold aS fK
 simp[hkk,Gg,Gh,Gi,byteOf,byteOf',iL]
theorem aaI (d:Nat) (x:Rc) (h:mX x=true) (hk:x.k=6):
  aH Tryz.prog 93 [x.av] (.dM [.own d,.v (.int .i64 0)]) [(d,.row 5 1 (aS x).length true (aX (aS x)))]:=by
 have m:=uG h
 have hm:=qA x (by have:=m.l;omega)
 rw[h]at hm
 obtain⟨k,r,u,⟨c0,c1,c2,c3,c4⟩,ev⟩:=x
 obtain⟨mk,mr,mu,ml,⟨m0,m1,m2,m3,m4⟩,wF,uQ,me0,Gn,LM⟩:=m
 dsimp only at mk mr mu ml m0 m1 m2 m3 m4 wF uQ me0 Gn LM hk
 obtain⟨kk,hkk⟩: ∃kk,kk=k:=⟨_,rfl⟩
 obtain⟨c0,rfl,hc0⟩:=fU m0
 obtain⟨c1,rfl,hc1⟩:=fU m1
 obtain⟨c2,rfl,hc2⟩:=fU m2
 obtain⟨c3,rfl,hc3⟩:=fU m3
 obtain⟨c4,rfl,hc4⟩:=fU m4
 have q0:(aB c0).length≤10:=bQ 9 _
 have q1:(aB c1).length≤10:=bQ 9 _
 have q2:(aB c2).length≤10:=bQ 9 _
 have q3:(aB c3).length≤10:=bQ 9 _
 have q4:(aB c4).length≤10:=bQ 9 _
 have hmore:([byteOf' kk,byteOf' r]++aB c0++aB c1++aB c2++aB c3++aB c4).length=2+(aB c0).length+(aB c1).length+(aB c2).length+(aB c3).length+(aB c4).length:=by simp;omega
 have hsl:=dY ([byteOf' kk,byteOf' r]++aB c0++aB c1++aB c2++aB c3++aB c4)
 have hvs:(aB (eP ([byteOf' kk,byteOf' r]++aB c0++aB c1++aB c2++aB c3++aB c4)).length).length≤10:=bQ 9 _
 subst hk
 dsimp only[Rc.av,Rc.cs]at hm⊢
 refine K1.E 0x403c0203a040004f57f Tryz.func93 ?_
 repeat' ((conv=>whnf);first|refine K1.w ?_|refine K1.u ?_|refine K1.P1 (hm) rfl ?_|refine K1.P1 (gK _) rfl ?_|refine K1.F1 (dZ _ c0 (by omega)) rfl ?_|refine K1.F1 (dZ _ c1 (by omega)) rfl ?_|refine K1.F1 (dZ _ c2 (by omega)) rfl ?_|refine K1.F1 (dZ _ c3 (by omega)) rfl ?_|refine K1.F1 (dZ _ c4 (by omega)) rfl ?_|refine K1.F1 (nV _ ([byteOf' kk,byteOf' r]++aB c0++aB c1++aB c2++aB c3++aB c4) (hkk▸bF.app (bF.app (bF.app (bF.app (bF.app (bF.two (by omega) (by omega) (by omega) (by omega)) (bF.bytes _) rfl) (bF.bytes _) (by simp<;>omega)) (bF.bytes _) (by simp<;>omega)) (bF.bytes _) (by simp<;>omega)) (bF.bytes _) (by simp<;>omega)) (by simp<;>omega) (by omega)) rfl ?_|refine K1.F1 (dZ _ (eP ([byteOf' kk,byteOf' r]++aB c0++aB c1++aB c2++aB c3++aB c4)).length (by rw[dY];omega)) rfl ?_|refine aJ.rP 44 6 rfl ?_|refine K1.z ?_|refine K1.y (fun _=> ?_) (fun _=> ?_)|fail)
 conv=>whnf
 refine aG.qJ d rfl rfl ?_ (aj.refl _)
 refine au.pz (bF.app (bF.bytes _) (bF.bytes _) rfl) List.length_append.symm ?_
 unfold aS fK
 simp[hkk,Gg,Gh,Gi,byteOf,byteOf',iL,zy]
theorem Jw (d:Nat) (x:Rc) (h:mX x=true):
  aH Tryz.prog 93 [x.av] (.dM [.own d,.v (.int .i64 0)]) [(d,.row 5 1 (aS x).length true (aX (aS x)))]:=by
 have m:=(uG h).k
 rcases(show x.k=1∨x.k=2∨x.k=3∨x.k=4∨x.k=5∨x.k=6 by omega)with hk|hk|hk|hk|hk|hk
 · exact LK d x h (.inl hk)
 · exact LK d x h (.inr (.inl hk))
 · exact aaH d x h hk
 · exact Yz d x h hk
 · exact LK d x h (.inr (.inr hk))
 · exact aaI d x h hk
end
section
open Go.RowKit
theorem C1.AY {X:CX} {a1 a2 a3 a4 a5 a6 a7 a8:AV} {f:Nat→List AV} {u:Value} (h:C1 X (.agg [a1,a2,a3,a4,a5,a6,a7,a8,.v (.slice none 0 0)]) u):C1 X (.agg [a1,a2,a3,a4,a5,a6,a7,a8,.sl 12 0 true f]) u:=by
 obtain⟨us,e,ha⟩:=h
 obtain⟨v,hv,hc⟩:=ha.get (i:=8) rfl
 have hc:v= .slice none 0 0:=hc
 subst hc
 refine⟨us,e, ?_⟩
 have:=ha.set 8 (x:= .sl 12 0 true f) (u:= .slice none 0 0) (show C0 X (.sl 12 0 true f) (.slice none 0 0)from .sl 12 0 true f none 0 [] (by omega) (Nat.le_refl _) (by simp[maxLen]) (by simp) (fun i hi=>absurd hi (Nat.not_lt_zero i)) (fun _ x hx=>by simp[flat]at hx) (fun i x u hx=>by simp[flat]at hx) (.inl rfl))
 have e2:us.set 8 (.slice none 0 0)=us:=by
  apply List.ext_getElem?
  intro i
  rw[List.getElem?_set]
  by_cases h8:8=i
  · subst h8
    rw[if_pos rfl,hv]
    have:8<us.length:=by
     rcases Nat.lt_or_ge 8 us.length with h|h
     · exact h
     · rw[List.getElem?_eq_none h]at hv;cases hv
    rw[if_pos this]
  · rw[if_neg h8]
 rw[e2]at this
 exact this
def acJ (c:aZ):aZ:=⟨lU c.c0 1048575,lU c.c1 1048575,lU c.c2 1048575,lU c.c3 1048575,lU c.c4 1048575⟩
theorem aj.AY {a1 a2 a3 a4 a5 a6 a7 a8:AV} (f:Nat→List AV):aj (.agg [a1,a2,a3,a4,a5,a6,a7,a8,.v (.slice none 0 0)]) (.agg [a1,a2,a3,a4,a5,a6,a7,a8,.sl 12 0 true f]):=fun _ _ h=>C1.AY h
theorem acK {l:List Ev} {m j:Nat} (h:j<m) (hj:j<l.length):((l.take m).map fF).getD j default=fF (l.getD j default):=by
 have:j<((l.take m).map fF).length:=by simp;omega
 rw[List.getD,List.getElem?_eq_getElem this,List.getD,List.getElem?_eq_getElem hj]
 simp
theorem YA {l:List Ev} {j:Nat} (hj:j<l.length):(l.take (j+1)).map fF=(l.take j).map fF++[fF (l.getD j default)]:=by
 rw[List.take_add_one,List.getElem?_eq_getElem hj,List.getD,List.getElem?_eq_getElem hj,List.map_append]
 rfl
def iI (k r u c0 c1 c2 c3 c4:Int) (e:AV):List AV:=[.v (.int .i64 k),.v (.int .i64 r),.v (.int .i64 u),.v (.int .i64 c0),.v (.int .i64 c1),.v (.int .i64 c2),.v (.int .i64 c3),.v (.int .i64 c4),e]
theorem TD (x:Int):oJ (lU x 1048575)=true:=by
 have:=pG x
 exact jT ⟨this.1,by omega⟩
theorem OG (x:Rc):5<(aS x).length:=by
 have hv:=xU 9 (eP (fK x)).length
 have hb:2≤(fK x).length:=by simp[fK]<;>omega
 have hs:=dY (fK x)
 unfold aS
 rw[List.length_append]
 show 5<(gy 9 (eP (fK x)).length).length+_
 omega
def IsE (F:Nat→List AV) (l:List Ev):Prop:= ∀i,i<l.length→F i=dV l i
theorem IsE.nil (F:Nat→List AV):IsE F []:=fun i h=>absurd h (by simp)
theorem IsE.app {F G:Nat→List AV} {l l':List Ev} {n:Nat} (h:IsE F l) (h':IsE G l') (hn:n=l.length):IsE (qh n F G) (l++l'):=by
 intro i hi
 rw[List.length_append]at hi
 show _=qK Ev.cs (l++l') i
 rw[←els_app hn]
 unfold qh
 cases hb:Nat.ble n i with
 | true=>
   have:=Nat.le_of_ble_eq_true hb
   exact h' (i-n) (by omega)
 | false=>
   have:i<n:=Nat.lt_of_not_le fun h=>by rw[Nat.ble_eq_true_of_le h]at hb;cases hb
   exact h i (by omega)
theorem IsE.one {F:Nat→List AV} {e:Ev} (h:F 0=e.cs):IsE F [e]:=fun i hi=>by
 have:i=0:=by simpa using hi
 subst this
 exact h
end
section
open Go.RowKit
def wG (k:Int):Bool:=k==1||k==4
def wH (k:Int):Bool:=k==2
def wI (k:Int):Bool:=k==3||k==5
def Jy (k:Int):Bool:=decide (1≤k∧k≤5)
def wJ (e u c:Bool):Value:= .agg #[.bool e,.bool u,.bool c]
theorem aaJ (w:World) (b:Nat) (es:Array MapEntry) (clock:Nat) (n:Int) (x:Value) (hb:w.heap[b]? =some (.map es clock)) (hn:Instr.findNow (.int .i64) (.int .i64 n) es.toList 0=some none):
  (Instr.mapUpdate 185 (.map (some b)) (.int .i64 n) x).run Tryz.prog w= .ok () {w with heap:=w.heap.setIfInBounds b (.map (es.push {key:= .int .i64 n,val:=x,born:=clock}) (clock+1))}:=by
 have hc:(Instr.checkKey false 10000 3 (.int .i64 n)).run Tryz.prog w= .ok () w:=MapKept.run_checkKey (k:= .int .i64 n) Tryz.underlying3 (by simp[MapKept.IsKey]) false 9999
 simp[Instr.mapUpdate,run_underlying Tryz.underlying185,MapKept.run_getObj_map hb,hc,MapKept.run_findKey Tryz.underlying3 hn,MapKept.run_setObj_map _ hb,Result.andThen]
def valOf:Option (Nat×Value)→Value
  |some p=>p.2
  |none=>wJ false false false
theorem YB (w:World) (b:Nat) (es:Array MapEntry) (clock:Nat) (n:Int) (r:Option (Nat×Value)) (hb:w.heap[b]? =some (.map es clock)) (hn:Instr.findNow (.int .i64) (.int .i64 n) es.toList 0=some r):
  (Instr.lookup 185 (.map (some b)) (.int .i64 n) true).run Tryz.prog w= .ok (.tuple #[(valOf r),.bool r.isSome]) w:=by
 have hc:(Instr.checkKey es.isEmpty 10000 3 (.int .i64 n)).run Tryz.prog w= .ok () w:=MapKept.run_checkKey (k:= .int .i64 n) Tryz.underlying3 (by simp[MapKept.IsKey]) _ 9999
 have hz:(zeroValue 134).run Tryz.prog w= .ok (wJ false false false) w:=by kernel_rfl
 cases r with
 |none=>simp[Instr.lookup,run_underlying Tryz.underlying185,MapKept.run_getObj_map hb,hc,MapKept.run_findKey Tryz.underlying3 hn,hz,Result.andThen,valOf]
 |some p=>simp[Instr.lookup,run_underlying Tryz.underlying185,MapKept.run_getObj_map hb,hc,MapKept.run_findKey Tryz.underlying3 hn,Result.andThen,valOf]
def ent (n:Int) (e u c:Bool) (b:Nat):MapEntry:={key:= .int .i64 n,val:=wJ e u c,born:=b}
def ents:List MapEntry:=[ent 1 true false false 0,ent 2 false true false 1,ent 3 false false true 2,ent 4 true false false 3,ent 5 false false true 4]
theorem U8 (k:Int): ∃r,Instr.findNow (.int .i64) (.int .i64 k) ents 0=some r∧(valOf r)=wJ (wG k) (wH k) (wI k)∧r.isSome=Jy k:=by
 by_cases h:1≤k∧k≤5
 · rcases(show k=1∨k=2∨k=3∨k=4∨k=5 by omega)with rfl|rfl|rfl|rfl|rfl<;>exact⟨_,rfl,rfl,rfl⟩
 · refine⟨none, ?_, ?_, ?_⟩
   · have h1:(k==1)=false:=by simp;omega
     have h2:(k==2)=false:=by simp;omega
     have h3:(k==3)=false:=by simp;omega
     have h4:(k==4)=false:=by simp;omega
     have h5:(k==5)=false:=by simp;omega
     simp[ents,ent,Instr.findNow,Instr.sameNow,h1,h2,h3,h4,h5]
   · simp[valOf,wJ,wG,wH,wI];omega
   · simp[Jy];omega
theorem set_push (a:Array Obj) (o o':Obj):(a.push o).setIfInBounds a.size o'=a.push o':=by
 apply Array.ext'
 rw[Array.toList_setIfInBounds,Array.toList_push,Array.toList_push,←Array.length_toList,List.set_append_right _ _ (Nat.le_refl _),Nat.sub_self]
 rfl
theorem U9 (w:World) (o o':Obj):({(w.alloc o)with heap:=(w.alloc o).heap.setIfInBounds w.heap.size o'}:World)=w.alloc o':=by
 show({w with heap:=(w.heap.push o).setIfInBounds w.heap.size o'}:World)={w with heap:=w.heap.push o'}
 rw[set_push]
theorem sW (w:World) (b:Nat) (l:List MapEntry) (n:Int) (e u c:Bool) (hb:b=w.heap.size) (hn:Instr.findNow (.int .i64) (.int .i64 n) l 0=some none):
  (Instr.mapUpdate 185 (.map (some b)) (.int .i64 n) (.agg #[.bool e,.bool u,.bool c])).run Tryz.prog (w.alloc (.map l.toArray l.length))= .ok () (w.alloc (.map (l++[ent n e u c l.length]).toArray (l.length+1))):=by
 subst hb
 rw[aaJ _ _ l.toArray l.length n _ (heap_alloc_new w _) (by simpa using hn),U9]
 simp[ent,wJ]
theorem Va (k:Int) (w:World):Calls Tryz.prog 75 #[.int .i64 k] w fun e w'=>e= .returned (.tuple #[wJ (wG k) (wH k) (wI k),.bool (Jy k)])∧Below w.heap.size w w':=by
 have hmm:= @run_makeMap Tryz.prog
 obtain⟨W1,hW⟩: ∃W1,W1=w.alloc (.cells #[.bool false,.bool false,.bool false] 134):=⟨_,rfl⟩
 have hs:w.heap.size+1=W1.heap.size:=by rw[hW];simp
 have h1:(Instr.mapUpdate 185 (.map (some (w.heap.size+1))) (.int .i64 1) (.agg #[.bool true,.bool false,.bool false])).run Tryz.prog (W1.alloc (.map #[] 0))= .ok () (W1.alloc (.map #[ent 1 true false false 0] 1)):=sW W1 _ [] 1 true false false hs rfl
 have h2:(Instr.mapUpdate 185 (.map (some (w.heap.size+1))) (.int .i64 2) (.agg #[.bool false,.bool true,.bool false])).run Tryz.prog (W1.alloc (.map #[ent 1 true false false 0] 1))= .ok () (W1.alloc (.map #[ent 1 true false false 0,ent 2 false true false 1] 2)):=sW W1 _ [ent 1 true false false 0] 2 false true false hs rfl
 have h3:(Instr.mapUpdate 185 (.map (some (w.heap.size+1))) (.int .i64 3) (.agg #[.bool false,.bool false,.bool true])).run Tryz.prog (W1.alloc (.map #[ent 1 true false false 0,ent 2 false true false 1] 2))= .ok () (W1.alloc (.map #[ent 1 true false false 0,ent 2 false true false 1,ent 3 false false true 2] 3)):=sW W1 _ [ent 1 true false false 0,ent 2 false true false 1] 3 false false true hs rfl
 have h4:(Instr.mapUpdate 185 (.map (some (w.heap.size+1))) (.int .i64 4) (.agg #[.bool true,.bool false,.bool false])).run Tryz.prog (W1.alloc (.map #[ent 1 true false false 0,ent 2 false true false 1,ent 3 false false true 2] 3))= .ok () (W1.alloc (.map #[ent 1 true false false 0,ent 2 false true false 1,ent 3 false false true 2,ent 4 true false false 3] 4)):=sW W1 _ [ent 1 true false false 0,ent 2 false true false 1,ent 3 false false true 2] 4 true false false hs rfl
 have h5:(Instr.mapUpdate 185 (.map (some (w.heap.size+1))) (.int .i64 5) (.agg #[.bool false,.bool false,.bool true])).run Tryz.prog (W1.alloc (.map #[ent 1 true false false 0,ent 2 false true false 1,ent 3 false false true 2,ent 4 true false false 3] 4))= .ok () (W1.alloc (.map #[ent 1 true false false 0,ent 2 false true false 1,ent 3 false false true 2,ent 4 true false false 3,ent 5 false false true 4] 5)):=sW W1 _ [ent 1 true false false 0,ent 2 false true false 1,ent 3 false false true 2,ent 4 true false false 3] 5 false false true hs rfl
 obtain⟨r,hr1,hr2,hr3⟩:=U8 k
 have hl:=YB (W1.alloc (.map ents.toArray 5)) (w.heap.size+1) ents.toArray 5 k r (by rw[hs];exact heap_alloc_new W1 _) (by simpa using hr1)
 rw[hr2,hr3]at hl
 unfold ents at hl
 rw[hW]at h1 h2 h3 h4 h5 hl
 have H1:=Lib.hid h1
 have H2:=Lib.hid h2
 have H3:=Lib.hid h3
 have H4:=Lib.hid h4
 have H5:=Lib.hid h5
 have HL:=Lib.hid hl
 clear h1 h2 h3 h4 h5 hl hr1 hr2 hr3 hs hW
 go_enter Tryz.func75,Tryz.ntmps75
 go_wp2
 rw[H1.out]
 go_wp2
 rw[H2.out]
 go_wp2
 rw[H3.out]
 go_wp2
 rw[H4.out]
 go_wp2
 rw[H5.out]
 go_wp2
 rw[HL.out]
 simp only[wJ]
 go_wp2
 go_returns
 exact⟨rfl,by go_grown⟩
theorem kS (k:Int):aH Tryz.prog 75 [.v (.int .i64 k)] (.dM [.agg [.v (.bool (wG k)),.v (.bool (wH k)),.v (.bool (wI k))],.v (.bool (Jy k))]) []:=by
 refine⟨⟨_,_,Tryz.func75,rfl,rfl⟩,fun w keep args _ hargs=> ?_⟩
 obtain⟨u,rfl,hu⟩:=tZ hargs
 have hu:u= .int .i64 k:=hu
 subst hu
 refine(Va k w).mono ?_
 rintro e w' ⟨h1,h2⟩
 exact⟨_,fun _=>undef,h1,h2,⟨[.agg #[.bool (wG k),.bool (wH k),.bool (wI k)],.bool (Jy k)],rfl,aI.cons ⟨[.bool (wG k),.bool (wH k),.bool (wI k)],rfl,aI.cons rfl (aI.cons rfl (aI.cons rfl aI.nil))⟩ (aI.cons rfl aI.nil)⟩,(fun p hp=>by cases hp),by simp[ah],(fun b hb=>by simp[ah]at hb)⟩
end
end Go.Proofs.YtimhagicagdkfaaGreat
