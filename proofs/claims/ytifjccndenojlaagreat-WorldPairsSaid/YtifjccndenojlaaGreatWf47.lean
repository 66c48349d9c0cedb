/-
  Contracts of the walk:BkR,BkJP,Br1,Br2,Br3,Br4,Br5P,Br6,Br5M,R6,LxK,BkVin,BkB1,BkB2,WdH.
-/
import Derived.Test.YtifjccndenojlaaGreatWf10
import Derived.Test.YtifjccndenojlaaGreatWf1
import Derived.Test.YtifjccndenojlaaGreatWf11
import Derived.Test.YtifjccndenojlaaGreatWf15
import Derived.Test.YtifjccndenojlaaGreatWf22
import Derived.Test.YtifjccndenojlaaGreatWf9
import Derived.Test.YtifjccndenojlaaGreatWf16
import Derived.Test.YtifjccndenojlaaGreatWf43
import Derived.Test.YtifjccndenojlaaGreatWf38
import Derived.Test.YtifjccndenojlaaGreatWf42
set_option maxHeartbeats 16000000
set_option maxRecDepth 100000
set_option linter.unusedVariables false
set_option linter.unusedSimpArgs false
namespace Go.Proofs.YtifjccndenojlaaGreat
open Go.RowKit
open Go.Proofs.Tryz
variable{a b m n:Nat}{F G:Nat->List AV}{keep:Nat->Prop}{α:Type}{w:World}
theorem ahI(a0 a1 b0 b1:Bool):zf prog 63 [.bool a0,.bool a1] [.bool b0,.bool b1] (a0=b0/\a1=b1):=by
 refine⟨by kernel_rfl,λ w=>⟨decide (a0=b0/\a1=b1),by rw[decide_eq_true_eq], ?_⟩⟩;show(Op.equalIn 10000 63 (.agg #[.bool a0,.bool a1]) (.agg #[.bool b0,.bool b1])).run prog w=_;rw[show(10000:Nat)=9999+1 from rfl,Op.equalIn];simp only[aoy,run_underlying Tryz.underlying63,aow];simp only[apL,Std.Legacy.Range.size,aqo,aqi,Nat.div_one,aq1,aq2,List.forIn_cons,List.forIn_nil];have u3:=Tryz.underlying4;have a3':=Tryz.isAgg4;have z3:=Tryz.sizeOf4;go_simp;repeat' split
 all_goals simp_all
theorem ajM(a0 a1 b0 b1:ByteArray):zf prog 64 [.string a0,.string a1] [.string b0,.string b1] (a0=b0/\a1=b1):=by
 refine⟨by kernel_rfl,λ w=>⟨decide (a0=b0/\a1=b1),by rw[decide_eq_true_eq], ?_⟩⟩;show(Op.equalIn 10000 64 (.agg #[.string a0,.string a1]) (.agg #[.string b0,.string b1])).run prog w=_;rw[show(10000:Nat)=9999+1 from rfl,Op.equalIn];simp only[aoy,run_underlying Tryz.underlying64,aow];simp only[apL,Std.Legacy.Range.size,aqo,aqi,Nat.div_one,aq1,aq2,List.forIn_cons,List.forIn_nil];have u3:=Tryz.underlying9;have a3':=Tryz.isAgg9;have z3:=Tryz.sizeOf9;go_simp;repeat' split
 all_goals simp_all [afb]
theorem ahJ{a b:Cont}(h0:a.key=b.key)(h1:a.h0=b.h0/\a.h1=b.h1)(h2:a.f0=b.f0/\a.f1=b.f1)(h3:a.s0=b.s0)(h4:a.s1=b.s1):a=b:=by
 obtain⟨a1,a2,a3,a4,a5,a6,a7⟩:=a;obtain⟨b1,b2,b3,b4,b5,b6,b7⟩:=b;simp only at h0 h1 h2 h3 h4;rw[h0,h1.1,h1.2,h2.1,h2.2,h3,h4]
theorem XG{x y:List UInt8}(h:(⟨x.toArray⟩:ByteArray)=⟨y.toArray⟩):x=y:=by
 have:=congrArg (λ b=>b.data.toList) h;simpa using this
theorem Ua{x y:List α}{d:α}(hl:x.length=y.length)(h:∀i,i<x.length->x.getD i d=y.getD i d):x=y:=by
 apply aqZ hl;intro i h1 h2;have:=h i h1;rwa [List.getD,List.getD,aom h1,aom h2]at this
theorem adG(a b:List Cont)(sa sb:Bool)(R:Bool)(hR:R=true↔a=b)(ha:a.length<=140737488355328)(hsa:∀c∈a,c.s0.length<=140737488355328/\c.s1.length<=140737488355328):
  aH prog 19 [.sl 7 a.length sa (F8 a),.sl 7 b.length sb (F8 b)] (.v (.bool R)) []:=by
 have hno:a≠b->R=false:=λ h=>by cases R with|true=>exact absurd (hR.1 rfl) h|false=>rfl
 have hyes:a=b->R=true:=hR.2;refine K1.E 0x20000040100002800000000110f3 func19 ?_;by_cases hlen:(a.length:Int)=(b.length:Int)
 ·repeat' ((conv=>whnf);first|refine K1.u ?_|fail)
  conv=>whnf
  refine aI.mk {j:Nat//j<=a.length/\ ∀i,i<j->a.getD i default=b.getD i default} (λ j=>⟨[(0,.sl 7 a.length sa (F8 a)),(1,.sl 7 b.length sb (F8 b)),(5,.v (.int .i64 (j.1:Int)))],[],[],0⟩) (λ j=>a.length-j.1) ⟨0,aoB _,λ i h=>absurd h (aoM i)⟩ _
   (dO.mk' [] _ _ _ rfl ⟨au,au,aY.int rfl,trivial⟩ trivial rfl) ?_
  rintro⟨j,hj,hall⟩;dsimp only;by_cases hjl:j<a.length
  ·have hd:a.getD (j:Int).toNat default≠b.getD (j:Int).toNat default->R=false:=λ h=>hno λ e=>h (by rw[e]);have hup:a.getD (j:Int).toNat default=b.getD (j:Int).toNat default-> ∀i,i<j+1->a.getD i default=b.getD i default:=λ h i hi=>by
    rcases aoP i j with h'|h'
    ·exact hall i h'
    ·obtain rfl:i=j:=o_
     exact h
   have hsl:(a.getD (j:Int).toNat default).s0.length<=140737488355328/\(a.getD (j:Int).toNat default).s1.length<=140737488355328:=hsa _ (by
    rw[List.getD,aom (show(j:Int).toNat<a.length from hjl)];exact ao1 _)
   clear hall;repeat' ((conv=>whnf);first|refine K1.u ?_|refine Ub.mk [.bool _,.bool _] [.bool _,.bool _] _ rfl rfl (ahI _ _ _ _) ?_|refine Ub.mk [.string _,.string _] [.string _,.string _] _ rfl rfl (ajM _ _ _ _) ?_|refine aU.fF ?_|refine K1.y (λ _=>?_) (λ _=>?_)|fail)
   all_goals(conv=>whnf)
   ·have hh:=(show(a.getD (j:Int).toNat default).key=(b.getD (j:Int).toNat default).key/\((a.getD (j:Int).toNat default).h0=(b.getD (j:Int).toNat default).h0/\(a.getD (j:Int).toNat default).h1=(b.getD (j:Int).toNat default).h1)/\(a.getD (j:Int).toNat default).f0=(b.getD (j:Int).toNat default).f0/\(a.getD (j:Int).toNat default).f1=(b.getD (j:Int).toNat default).f1 from⟨a_,a_,a_⟩);refine aI.mk {n:Nat//n<=2/\(1<=n->(a.getD (j:Int).toNat default).s0=(b.getD (j:Int).toNat default).s0)/\(2<=n->(a.getD (j:Int).toNat default).s1=(b.getD (j:Int).toNat default).s1)} (λ n=>⟨[(0,.sl 7 a.length sa (F8 a)),(1,.sl 7 b.length sb (F8 b)),(5,.v (.int .i64 (j:Int))),(6,.v (.int .i64 (n.1:Int)))],[],[],0⟩) (λ n=>2-n.1) ⟨0,aoB _,λ h=>absurd h o_,λ h=>absurd h o_⟩ _
     (dO.mk' [] _ _ _ rfl ⟨au,au,aY.int rfl,aY.int rfl,trivial⟩ trivial rfl) ?_
    rintro⟨n,hn,h0n,h1n⟩;dsimp only;obtain rfl|rfl|rfl:n=0\/n=1\/n=2:=o_
    ·repeat' ((conv=>whnf);first|refine K1.u ?_|refine aU.fF ?_|refine K1.z ?_|refine K1.y (λ _=>?_) (λ _=>?_)|fail)
     all_goals(conv=>whnf)
     ·refine aI.mk {k:Nat//k<=(a.getD (j:Int).toNat default).s0.length/\ ∀i,i<k->(a.getD (j:Int).toNat default).s0.getD i []=(b.getD (j:Int).toNat default).s0.getD i []} (λ k=>⟨[(0,.sl 7 a.length sa (F8 a)),(1,.sl 7 b.length sb (F8 b)),(5,.v (.int .i64 (j:Int))),(6,.v (.int .i64 0)),(7,.v (.int .i64 (k.1:Int)))],[],[],0⟩) (λ k=>(a.getD (j:Int).toNat default).s0.length-k.1) ⟨0,aoB _,λ i h=>absurd h (aoM i)⟩ _
       (dO.mk' [] _ _ _ rfl ⟨au,au,aY.int rfl,aY.int rfl,aY.int rfl,trivial⟩ trivial rfl) ?_
      rintro⟨k,hk,hka⟩;dsimp only;by_cases hkl:k<(a.getD (j:Int).toNat default).s0.length
      ·have hkd:¬ (⟨((a.getD (j:Int).toNat default).s0.getD (k:Int).toNat []).toArray⟩:ByteArray)=⟨((b.getD (j:Int).toNat default).s0.getD (k:Int).toNat []).toArray⟩->R=false:=λ h=>hd λ e=>h (by rw[e]);have hku:(⟨((a.getD (j:Int).toNat default).s0.getD (k:Int).toNat []).toArray⟩:ByteArray)=⟨((b.getD (j:Int).toNat default).s0.getD (k:Int).toNat []).toArray⟩-> ∀i,i<k+1->(a.getD (j:Int).toNat default).s0.getD i []=(b.getD (j:Int).toNat default).s0.getD i []:=λ h i hi=>by
        rcases aoP i k with h'|h'
        ·exact hka i h'
        ·obtain rfl:i=k:=o_
         exact XG h
       clear hka;repeat' ((conv=>whnf);first|refine K1.u ?_|refine aU.fF ?_|refine K1.z ?_|refine K1.y (λ _=>?_) (λ _=>?_)|fail)
       all_goals(conv=>whnf)
       all_goals first
        |(rw[hkd a_];exact bn.mk (au))
        |exact⟨⟨k+1,hkl,hku a_⟩,_,dO.mk' [] _ _ _ rfl ⟨au,au,aY.int rfl,aY.int rfl,aY.int rfl,trivial⟩ trivial rfl,aqG _ _ hkl⟩
      ·have hse:(a.getD (j:Int).toNat default).s0=(b.getD (j:Int).toNat default).s0:=Ua o_ λ i hi=>hka i o_;clear hka;repeat' ((conv=>whnf);first|refine K1.u ?_|refine K1.z ?_|fail)
       conv=>whnf
       exact⟨⟨1,o_,λ _=>hse,λ h=>absurd h o_⟩,_,dO.mk' [] _ _ _ rfl ⟨au,au,aY.int rfl,aY.int rfl,trivial⟩ trivial rfl,by show 2-1<2-0;omega⟩
     ·rw[hd λ e=>absurd (congrArg (λ c:Cont=>(c.s0.length:Int)) e) a_];exact bn.mk (au)
    ·repeat' ((conv=>whnf);first|refine K1.u ?_|refine aU.fF ?_|refine K1.z ?_|refine K1.y (λ _=>?_) (λ _=>?_)|fail)
     all_goals(conv=>whnf)
     ·refine aI.mk {k:Nat//k<=(a.getD (j:Int).toNat default).s1.length/\ ∀i,i<k->(a.getD (j:Int).toNat default).s1.getD i []=(b.getD (j:Int).toNat default).s1.getD i []} (λ k=>⟨[(0,.sl 7 a.length sa (F8 a)),(1,.sl 7 b.length sb (F8 b)),(5,.v (.int .i64 (j:Int))),(6,.v (.int .i64 1)),(7,.v (.int .i64 (k.1:Int)))],[],[],0⟩) (λ k=>(a.getD (j:Int).toNat default).s1.length-k.1) ⟨0,aoB _,λ i h=>absurd h (aoM i)⟩ _
       (dO.mk' [] _ _ _ rfl ⟨au,au,aY.int rfl,aY.int rfl,aY.int rfl,trivial⟩ trivial rfl) ?_
      rintro⟨k,hk,hka⟩;dsimp only;by_cases hkl:k<(a.getD (j:Int).toNat default).s1.length
      ·have hkd:¬ (⟨((a.getD (j:Int).toNat default).s1.getD (k:Int).toNat []).toArray⟩:ByteArray)=⟨((b.getD (j:Int).toNat default).s1.getD (k:Int).toNat []).toArray⟩->R=false:=λ h=>hd λ e=>h (by rw[e]);have hku:(⟨((a.getD (j:Int).toNat default).s1.getD (k:Int).toNat []).toArray⟩:ByteArray)=⟨((b.getD (j:Int).toNat default).s1.getD (k:Int).toNat []).toArray⟩-> ∀i,i<k+1->(a.getD (j:Int).toNat default).s1.getD i []=(b.getD (j:Int).toNat default).s1.getD i []:=λ h i hi=>by
        rcases aoP i k with h'|h'
        ·exact hka i h'
        ·obtain rfl:i=k:=o_
         exact XG h
       clear hka;repeat' ((conv=>whnf);first|refine K1.u ?_|refine aU.fF ?_|refine K1.z ?_|refine K1.y (λ _=>?_) (λ _=>?_)|fail)
       all_goals(conv=>whnf)
       all_goals first
        |(rw[hkd a_];exact bn.mk (au))
        |exact⟨⟨k+1,hkl,hku a_⟩,_,dO.mk' [] _ _ _ rfl ⟨au,au,aY.int rfl,aY.int rfl,aY.int rfl,trivial⟩ trivial rfl,aqG _ _ hkl⟩
      ·have hse:(a.getD (j:Int).toNat default).s1=(b.getD (j:Int).toNat default).s1:=Ua o_ λ i hi=>hka i o_;clear hka;repeat' ((conv=>whnf);first|refine K1.u ?_|refine K1.z ?_|fail)
       conv=>whnf
       exact⟨⟨2,o_,λ _=>h0n o_,λ h=>hse⟩,_,dO.mk' [] _ _ _ rfl ⟨au,au,aY.int rfl,aY.int rfl,trivial⟩ trivial rfl,by show 2-2<2-1;omega⟩
     ·rw[hd λ e=>absurd (congrArg (λ c:Cont=>(c.s1.length:Int)) e) a_];exact bn.mk (au)
    ·have hae:(a.getD (j:Int).toNat default)=(b.getD (j:Int).toNat default):=ahJ hh.1 hh.2.1 hh.2.2 (h0n o_) (h1n o_);repeat' ((conv=>whnf);first|refine K1.u ?_|fail)
     conv=>whnf
     exact⟨⟨j+1,hjl,hup hae⟩,_,dO.mk' [] _ _ _ rfl ⟨au,au,aY.int rfl,trivial⟩ trivial rfl,aqG _ _ hjl⟩
   all_goals
    first
    |(rw[hd λ e=>absurd (congrArg Cont.key e) a_];exact bn.mk (au))
    |(rw[hd λ e=>absurd (And.intro (congrArg Cont.h0 e) (congrArg Cont.h1 e)) a_];exact bn.mk (au))
    |(rw[hd λ e=>absurd (And.intro (congrArg Cont.f0 e) (congrArg Cont.f1 e)) a_];exact bn.mk (au))
  ·rw[hyes (Ua o_ λ i hi=>hall i o_)];repeat' ((conv=>whnf);first|refine K1.u ?_|refine aU.fF ?_|fail)
   conv=>whnf
   exact bn.mk (au)
 ·rw[hno λ e=>hlen (by rw[e])];repeat' ((conv=>whnf);first|refine K1.u ?_|refine aU.fF ?_|fail)
  all_goals(conv=>whnf)
  all_goals exact bn.mk (au)
def IsS(F:Nat->List AV)(l:List Str):Prop:= ∀i,i<l.length->F i=iD l i
theorem IsS.refl(l:List Str):IsS (iD l) l:=λ _ _=>rfl
theorem IsS.nil(F:Nat->List AV):IsS F []:=λ i h=>absurd h s_
theorem IsS.app{l l':List Str}(h:IsS F l)(h':IsS G l')(hn:n=l.length):IsS (kV n F G) (l++l'):=by
 intro i hi;subst hn;rw[aop]at hi;unfold kV;cases hb:Nat.ble l.length i with
 |true=>
  have:=aox hb;simp only[cond_true];rw[h' (i-l.length) o_];unfold iD;rw[List.getD,List.getD,ao2 this]
 |false=>
  have:i<l.length:=Nat.lt_of_not_le λ h=>by rw[apm h]at hb;cases hb
  simp only[cond_false];rw[h i this];unfold iD;rw[List.getD,List.getD,aoS this]
theorem IsS.take{F:Nat->List AV}{l:List Str}(h:IsS F l)(k:Nat):IsS F (l.take k):=by
 intro i hi;rw[aou]at hi;rw[h i o_];unfold iD;rw[List.getD,List.getD,aqs o_]
theorem IsS.drop{F:Nat->List AV}{l:List Str}(h:IsS F l)(k:Nat):IsS (λ i=>F (k+i)) (l.drop k):=by
 intro i hi;rw[aoK]at hi;show F (k+i)=_;rw[h (k+i) o_];unfold iD;rw[List.getD,List.getD,apC]
theorem IsS.one(s:ByteArray):IsS (chunk 1 [.v (.string s)]) [dU s]:=by
 intro i hi;obtain rfl:i=0:=by simpa using hi
 show [AV.v (.string s)]=[AV.v (encStr (dU s))];rw[Es]
theorem dK.anV{t:TypeId}{cs ds:List AV}(hl:cs.length=ds.length)(h:∀(i:Nat)(x y:AV),cs[i]? =some x->ds[i]? =some y-> ∀(X:CX)(u:Value),C0 X x u->C0 X y u):dK (.box t cs) (.box t ds):=by
 rintro X id ⟨b,us,h1,h2,h3⟩;exact⟨b,us,h1,h2,by rw[<-hl];exact h3.1,λ i y u hy hu=>by
  have hi:i<cs.length:=by rw[hl];exact(aoC.1 hy).1
  exact h i _ y (aom hi) hy X u (h3.2 i _ u (aom hi) hu)⟩
inductive ZB:List AV->List AV->Prop where
 |nil:ZB [] []
 |same {x:AV} {xs ys:List AV} (h:ZB xs ys):ZB (x::xs) (x::ys)
 |gW {s:Nat} {sc:Bool} {f:Nat->List AV} {xs ys:List AV} (hs:0<s) (h:ZB xs ys):ZB (.v (.slice none 0 0)::xs) (.sl s 0 sc f::ys)
theorem ZB.box{t:TypeId}{cs ds:List AV}(h:ZB cs ds):dK (.box t cs) (.box t ds):=by
 refine dK.anV ?_ ?_
 ·induction h with
  |nil=>rfl
  |same _ ih=>simp[ih]
  |gW _ _ ih=>simp[ih]
 ·induction h with
  |nil=>intro i x y hx;cases hx
  |same _ ih=>
   intro i x y hx hy X u hu;cases i with
   |zero=>cases hx;cases hy;exact hu
   |succ i=>exact ih i x y hx hy X u hu
  |gW hs _ ih=>
   intro i x y hx hy X u hu;cases i with
   |zero=>
    cases hx;cases hy;exact C1.gW (X:=X) hs hu
   |succ i=>exact ih i x y hx hy X u hu
theorem aj.res{P:Program}{f:FuncId}{hin:List (Nat×AO)}{aZ:List AV}{r r':AV}{hout:List (Nat×AO)}(h:aj P f hin aZ r hout)(hr:aY r r'):aj P f hin aZ r' hout:=by
 refine⟨h.1,λ w keep ρ args a1 a2 a3 a4 a5=>(h.2 w keep ρ args a1 a2 a3 a4 a5).mono ?_⟩;rintro e w' ⟨u,ρ',rfl,b1,b2,b3,b4⟩;exact⟨u,ρ',rfl,b1,b2,hr _ _ b3,b4⟩
def XH(key:ByteArray):Cont:=⟨key,false,false,⟨#[]⟩,⟨#[]⟩,[],[]⟩
theorem PC.aiH{s:Nat}{sc:Bool}{f g:Nat->List AV}(hn:n=m)(h:∀i,i<n->iY (f i) (g i))(u:Value)(hu:PC w keep (.sl s n sc f) u):PC w keep (.sl s m false g) u:=by
 subst hn;cases hu with
 |sl _ _ _ _ A c us hs hn hc hl hf hsc hq hr=>
  have hi:=iY.flat h;refine .sl s n false g A c us hs hn hc hl (λ i hi=>by rw[<-(h i hi).1];exact hf i hi) (λ h=>by cases h) (λ i x v hx hv=>?_) hr;have hlen:i<(flat n f).length:=by rw[hi.1];exact(aoC.1 hx).1
  exact hi.2 i _ x (aom hlen) hx w keep v (hq i _ v (aom hlen) hv)
theorem PC.ako{u:Value}(h:PC w keep (.v (.slice none 0 0)) u):PC w keep (.sl 1 0 true (iD [])) u:=by
 cases h with
 |v _ _=>exact .sl 1 0 true _ none 0 [] o_ (aoH _) (by simp[maxLen]) rfl (λ i hi=>absurd hi (aoM i)) (λ _ x hx=>by simp[flat]at hx) (λ i x v hx hv=>by simp at hv) (.inl rfl)
theorem ahK(key:ByteArray):iY [.v (.string key),.v (.bool false),.v (.bool false),.v (.string ⟨#[]⟩),.v (.string ⟨#[]⟩),.v (.slice none 0 0),.v (.slice none 0 0)] (XH key).cs:=by
 refine iY.cons (λ _ _ _ h=>h) (iY.cons (λ _ _ _ h=>h) (iY.cons (λ _ _ _ h=>h) (iY.cons (λ _ _ _ h=>h) (iY.cons (λ _ _ _ h=>h) (iY.cons (λ _ _ _ h=>PC.ako h) (iY.cons (λ _ _ _ h=>PC.ako h) iY.nil))))))
theorem adH{key:ByteArray}{sa sb:Bool}(hn:n=1)(hm:m=1)(hF:F 0=(XH key).cs)
  (hG:G 0=[.v (.string key),.v (.bool false),.v (.bool false),.v (.string ⟨#[]⟩),.v (.string ⟨#[]⟩),.v (.slice none 0 0),.v (.slice none 0 0)]):
  aH prog 19 [.sl 7 n sa F,.sl 7 m sb G] (.v (.bool true)) []:=by
 subst hn hm;refine(adG [XH key] [XH key] false false true s_ s_ (λ c hc=>by rw[aoo.1 hc];exact⟨aoB _,aoB _⟩)).args (.of (λ X u hu=>?_) (.of (λ X u hu=>?_) .nil))
 ·exact PC.aiH rfl (λ i hi=>by have hi:i<1:=hi
                               obtain rfl:i=0:=o_
                               rw[hF];exact iY.refl _) u hu
 ·exact PC.aiH rfl (λ i hi=>by have hi:i<1:=hi
                               obtain rfl:i=0:=o_
                               rw[hG];exact ahK key) u hu
def am3(a:Nat)(k:ByteArray):Ev:=⟨a,1,aW,1,1,k,0,⟨#[]⟩⟩
theorem am4:∀a,a<3-> ∀i,i<3->pz [am3 a (Fq i)]=[XH (Fq i)]:=by
 intro a ha i hi;rcases(show a=0\/a=1\/a=2 by omega)with rfl|rfl|rfl<;>rcases(show i=0\/i=1\/i=2 by omega)with rfl|rfl|rfl<;>kernel_rfl
theorem alW:∀a,a<3-> ∀b,b<3->a≠b-> ∀i,i<3->((Af a b (Fq i) 9).nd (b:Int)).log=[am3 a (Fq i)]:=by
 intro a ha b hb hab i hi;rcases(show a=0\/a=1\/a=2 by omega)with rfl|rfl|rfl<;>rcases(show b=0\/b=1\/b=2 by omega)with rfl|rfl|rfl<;>rcases(show i=0\/i=1\/i=2 by omega)with rfl|rfl|rfl<;>first|exact absurd rfl hab|kernel_rfl
theorem ajN(e:Ed):∃i,i<3/\(vT e).key=Fq i:=by
 have h:∀n,∃i,i<3/\ks3 n=Fq i:=λ n=>by
  unfold ks3;split
  ·exact⟨0,o_,rfl⟩
  split
  ·exact⟨1,o_,rfl⟩
  ·exact⟨2,o_,rfl⟩
 unfold vT;split<;>exact h _
theorem ZC(a b:Nat)(k:ByteArray):∀n,n<=400->uM n (Af a b k n)
 |0,_=>uM.new d_
 |n+1,h=>(ZC a b k n o_).step o_ _
theorem Oe{k:ByteArray}(n:Nat)(hn:n<=400)(ht:tK a b k n=true):aj prog 11 [(0,.obs (ji n (Af a b k n)))] [.box 0 0,(TM a b k n).av] (.v (.int .i64 0)) [(0,.obs (ji (n+1) (Af a b k (n+1))))]:=by
 have hb:(TM a b k n).bit=0/\(TM a b k n).mask=0:=by
  unfold TM;split<;>exact⟨rfl,rfl⟩
 have h:=yu (ZC a b k n hn) o_ (TM a b k n) (by rw[hb.1];decide) (by rw[hb.2];decide);have e:((Af a b k n).step (TM a b k n)).2=0:=of_decide_eq_true ht;rw[e]at h;exact h
theorem Ns(a b:Nat)(k:ByteArray):∀n,(Af a b k n).ns.length=3
 |0=>rfl
 |n+1=>(Ag _ _).1.trans (Ns a b k n)
theorem am5{i:Nat}(ha:a<3)(hb:b<3)(hab:a≠b)(hi:i<3):alU a b (Fq i)=true:=by
 have h:=amX;rw[aoD]at h;have h:=aoD.1 (h a (ap4.2 ha)) b (ap4.2 hb);rw[apf,beq_iff_eq]at h;exact aoD.1 (h.resolve_left hab) i (ap4.2 hi)
theorem IU(e:Ed)(n0 n1:Int)(he:e.key.size<=140737488355328/\e.v.size<=140737488355328)(h0:0<=n0/\n0<=255)(h1:0<=n1/\n1<=255):aH prog 6 [e.av,.agg [.v (.int .u8 n0),.v (.int .u8 n1)]] (.v (.bool true)) []:=by
 have hsh:=rX;have hf:=KC e he.1 he.2;obtain⟨i,hi,hk⟩:=ajN e;generalize vT e=f at hf hk;have hnew:aj prog 9 [] [cPr.av] (.bI [.box 0 0,.v (.int .i64 0)]) [(0,.obs (ji 0 (Af 0 0 ⟨#[]⟩ 0)))]:=Np d_;obtain⟨fk,anD,fl,fv⟩:=f;obtain⟨ek,KZ,el,ev⟩:=e;dsimp only at hk;subst hk;dsimp only[Ed.av,Ed.cs,kR.av,kR.cs,cPr]at hf hnew⊢;refine K1.E 0x200005bdffff func6 ?_;repeat' ((conv=>whnf);first|refine K1.u ?_|refine K1.P1 hsh ?_|refine K1.P1 hf ?_|refine K1.C 0 [] (hnew) rfl ?_|refine K1.z ?_|fail)
 all_goals(conv=>whnf)
 have hA:∃a:Nat,n0%3=(a:Int)/\a<3:=⟨(n0%3).toNat,o_,o_⟩;have hB:∃b:Nat,(n0%3+1+n1%2)%3=(b:Int)/\b<3/\(b:Int)≠n0%3:=⟨((n0%3+1+n1%2)%3).toNat,o_,o_,o_⟩;obtain⟨a,ea,ha⟩:=hA;obtain⟨b,eb,hb,hab⟩:=hB;rw[ea]at hab;rw[eb,ea];have hok:=am5 ha hb (λ e=>hab (by rw[e])) hi;have ajA:=alW a ha b hb (λ e=>hab (by rw[e])) i hi;have hof:=am4 a ha i hi;generalize Fq i=k at*;unfold alU at hok;simp only[aon,beq_iff_eq,decide_eq_true_eq]at hok;obtain⟨⟨⟨⟨⟨⟨⟨⟨⟨⟨⟨⟨⟨⟨⟨t0,t1⟩,t2⟩,t3⟩,t4⟩,t5⟩,t6⟩,t7⟩,t8⟩,t9⟩,u5,l5⟩,u8,l8⟩,u9,-⟩,u10,s10⟩,f10⟩,-⟩:=hok;have s0:=Oe 0 o_ t0;have s1:=Oe 1 o_ t1;have s2:=Oe 2 o_ t2;have s3:=Oe 3 o_ t3;have s4:=Oe 4 o_ t4;have s5:=Oe 5 o_ t5;have s6:=Oe 6 o_ t6;have s7:=Oe 7 o_ t7;have s8:=Oe 8 o_ t8;have s9:=Oe 9 o_ t9;have p5:=Jk (ZC a b k 5 o_) o_ (r:=b) (by rw[Ns];exact hb) u5;have p8:=Jk (ZC a b k 8 o_) o_ (r:=b) (by rw[Ns];exact hb) u8;have p9:=Jk (ZC a b k 9 o_) o_ (r:=b) (by rw[Ns];exact hb) u9;have q10:=yw (ZC a b k 10 o_) o_ (r:=a) (by rw[Ns];exact ha);have r10:=nZ (ZC a b k 10 o_);rw[apr.1 l5,show pz []=[] by kernel_rfl]at p5;rw[apr.1 l8,show pz []=[] by kernel_rfl]at p8;rw[ajA,hof]at p9;rw[f10]at r10;unfold yK at q10;rw[u10,s10]at q10;clear t0 t1 t2 t3 t4 t5 t6 t7 t8 t9 l5 l8 u5 u8 u9 u10 s10 f10 ajA hof hsh hf hnew;generalize((Af a b k 10).nd (a:Int)).clk=ck at*;generalize((Af a b k 10).nd (a:Int)).held=hd at*;generalize((Af a b k 10).nd (a:Int)).log=lg at*;have e0:ji 0 (Af 0 0 ⟨#[]⟩ 0)=ji 0 (Af a b k 0):=rfl;rw[e0];simp only[apl,Nat.reduceAdd]at s0 s1 s2 s3 s4 s5 s6 s7 s8 s9;generalize ji 0 (Af a b k 0)=B0 at*;generalize ji 1 (Af a b k 1)=B1 at*;generalize ji 2 (Af a b k 2)=B2 at*;generalize ji 3 (Af a b k 3)=B3 at*;generalize ji 4 (Af a b k 4)=B4 at*;generalize ji 5 (Af a b k 5)=B5 at*;generalize ji 6 (Af a b k 6)=B6 at*;generalize ji 7 (Af a b k 7)=B7 at*;generalize ji 8 (Af a b k 8)=B8 at*;generalize ji 9 (Af a b k 9)=B9 at*;generalize ji 10 (Af a b k 10)=B10 at*;dsimp only[TM,Nv,Stp.av,Stp.cs,rW,cond_true]at s0 s1 s2 s3 s4 s5 s6 s7 s8 s9 q10;repeat' ((conv=>whnf);first|refine K1.u ?_|refine K1.C 1 [(0,_)] (s0) rfl ?_|refine K1.C 1 [(0,_)] (s1) rfl ?_|refine K1.C 1 [(0,_)] (s2) rfl ?_|refine K1.C 1 [(0,_)] (s3) rfl ?_|refine K1.C 1 [(0,_)] (s4) rfl ?_|refine K1.C 1 [(0,_)] (s5) rfl ?_|refine K1.C 1 [(0,_)] (s6) rfl ?_|refine K1.C 1 [(0,_)] (s7) rfl ?_|refine K1.C 1 [(0,_)] (s8) rfl ?_|refine K1.C 1 [(0,_)] (s9) rfl ?_|refine K1.C 20 [(0,_)] (p5) rfl ?_|refine K1.C 20 [(0,_)] (p8) rfl ?_|refine K1.C 20 [(0,_)] (p9) rfl ?_|refine K1.C 1 [(0,_)] (q10) rfl ?_|refine K1.C 1 [(0,_)] (r10) rfl ?_|refine K1.P1 (adH rfl rfl rfl rfl) ?_|refine aU.fF ?_|refine K1.y (λ _=>?_) (λ _=>?_)|fail)
 all_goals(conv=>whnf)
 all_goals first
  |exact bn.mk (au)
  |exact absurd rfl a_
end Go.Proofs.YtifjccndenojlaaGreat
