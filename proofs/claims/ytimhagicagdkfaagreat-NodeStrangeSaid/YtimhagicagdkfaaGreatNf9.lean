/-
  Contracts of the walk:Txt,Var,VTake,TkPlain,FitA,BkU,H3.
-/
import Derived.Test.YtimhagicagdkfaaGreatNf6
import Derived.Test.YtimhagicagdkfaaGreatNf1
import Derived.WalkSpells
import Derived.WalkLawsBesides
import Derived.Test.YtimhagicagdkfaaGreatChecked
import Derived.Handy
import Derived.Laws.BitsAllLaws
import Derived.Test.YtimhagicagdkfaaGreatNf8
import Derived.Lib.RowBridge
set_option linter.unusedVariables false
set_option linter.unusedSimpArgs false
set_option maxHeartbeats 16000000
set_option maxRecDepth 100000
namespace Go.Proofs.YtimhagicagdkfaaGreat
section
open Go.RowKit
theorem Aq (s:ByteArray):vX s=true↔ ∀i (h:i<s.size),97≤(s[i]'h).toNat∧(s[i]'h).toNat≤122:=by
 unfold vX
 rw[List.all_eq_true]
 constructor
 · intro h i hi
   have:=h s[i] (by
    show s.data[i]'hi∈s.data.toList
    exact Array.mem_toList_iff.2 (Array.getElem_mem _))
   simpa using this
 · intro h b hb
   obtain⟨i,hi,rfl⟩:=Array.getElem_of_mem (Array.mem_toList_iff.1 hb)
   have h1:97≤(s.data[i]'hi).toNat∧(s.data[i]'hi).toNat≤122:=h i hi
   simpa using h1
theorem SY {s:ByteArray} (h1:1≤s.size) (h2:s.size≤8) (h: ∀i (h:i<s.size),97≤(s[i]'h).toNat∧(s[i]'h).toNat≤122):keyE s=0:=by
 unfold keyE
 rw[if_pos ⟨h1,h2,(Aq s).2 h⟩]
theorem Ea {s:ByteArray} {i:Nat} (hi:i<s.size) (h: ¬ (97≤(s[i]'hi).toNat∧(s[i]'hi).toNat≤122)):keyE s=10:=by
 unfold keyE
 rw[if_neg (fun hh=>h ((Aq s).1 hh.2.2 i hi))]
theorem xW {s:ByteArray} (h: ¬ (1≤s.size∧s.size≤8)):keyE s=10:=by
 unfold keyE
 rw[if_neg (fun hh=>h ⟨hh.1,hh.2.1⟩)]
theorem aau (s:ByteArray) (w:World):
  Calls Tryz.prog 115 #[.string s] w fun e w'=>e= .returned (.int .i64 (keyE s))∧Below w.heap.size w w':=by
 by_cases h1:1≤s.size
 · by_cases h2 :s.size≤8
   · go_enter Tryz.func115,Tryz.ntmps115
     go_wp2
     go_loopw [] (fun w'=> ∃pos:Nat,w'=w.iter s pos∧ ∀i (h:i<s.size),i<pos→97≤(s[i]'h).toNat∧(s[i]'h).toNat≤122) (fun w'=>s.size-w'.iterPos w.heap.size)
     case atStart=>exact⟨0,rfl,fun i _ h=>by omega⟩
     case round =>
      obtain⟨pos,rfl,hl⟩:=hrel
      have HL:=Lib.hid hl
      clear hl
      by_cases hp:pos<s.size
      · by_cases ha:(s[pos]'hp).toNat<128
        · have hnx: ∀ty,(Instr.next (.pointer (some ⟨w.heap.size,0,none⟩)) true ty).run Tryz.prog (w.iter s pos)=_:=fun ty=>run_next_ascii w s pos ty hp ha
          by_cases h97:97≤(s[pos]'hp).toNat
          · by_cases h122:(s[pos]'hp).toNat≤122
            · go_wp2
              go_roundw
              case rel=>
               exact⟨pos+1,rfl,fun i h hi=>by
                by_cases e:i=pos
                · subst e;exact⟨h97,h122⟩
                · exact HL.out i h (by omega)⟩
              case measure=>
               simp
               omega
            · go_wp2
              go_ret
              exact⟨xE (Ea hp (fun hh=>h122 hh.2)).symm,(Below.refl _ _).alloc (Nat.le_refl _) _⟩
          · go_wp2
            go_ret
            exact⟨xE (Ea hp (fun hh=>h97 hh.1)).symm,(Below.refl _ _).alloc (Nat.le_refl _) _⟩
        · have hnx: ∀ty,(Instr.next (.pointer (some ⟨w.heap.size,0,none⟩)) true ty).run Tryz.prog (w.iter s pos)=_:=fun ty=>run_next_any w s pos ty hp
          have hd:=(decode_high s pos hp (by omega)).1
          go_wp2
          go_ret
          exact⟨xE (Ea hp (by omega)).symm,(Below.refl _ _).alloc (Nat.le_refl _) _⟩
      · have hnx: ∀ty,(Instr.next (.pointer (some ⟨w.heap.size,0,none⟩)) true ty).run Tryz.prog (w.iter s pos)=_:=fun ty=>run_next_end w s pos ty hp
        go_wp2
        go_ret
        exact⟨xE (SY h1 h2 (fun i h=>HL.out i h (by omega))).symm,(Below.refl _ _).alloc (Nat.le_refl _) _⟩
   · go_enter Tryz.func115,Tryz.ntmps115
     go_wp2
     go_ret
     exact⟨xE (xW (by omega)).symm,Below.refl _ _⟩
 · go_enter Tryz.func115,Tryz.ntmps115
   go_wp2
   go_ret
   exact⟨xE (xW (by omega)).symm,Below.refl _ _⟩
theorem Ob (s:ByteArray):aH Tryz.prog 115 [.v (.string s)] (.v (.int .i64 (keyE s))) []:=
 zq (xs:=[.string s]) ⟨_,_,Tryz.func115,rfl,rfl⟩ fun w=>aau s w
theorem QG (n:Int):aH Tryz.prog 116 [.v (.int .i64 n)] (.v (.int .i64 (lT n))) []:=by
 refine K1.E 0x105 Tryz.func116 ?_
 repeat' ((conv=>whnf);first|refine K1.w ?_|refine K1.u ?_|refine K1.z ?_|refine K1.y (fun _=> ?_) (fun _=> ?_)|fail)
 all_goals(refine aG.int rfl ?_;unfold lT;(first|rw[if_pos (by omega)]|rw[if_neg (by omega)]))
theorem FM (s:ByteArray):aH Tryz.prog 117 [.v (.string s)] (.v (.int .i64 (eX s))) []:=by
 refine K1.E 0x405 Tryz.func117 ?_
 repeat' ((conv=>whnf);first|refine K1.w ?_|refine K1.u ?_|refine K1.z ?_|refine K1.y (fun _=> ?_) (fun _=> ?_)|fail)
 all_goals(refine aG.int rfl ?_;unfold eX;(first|rw[if_pos (by omega)]|rw[if_neg (by omega)]))
theorem Je {s:ByteArray} (h:s=⟨#[]⟩):s.size=0:=by rw[h];rfl
theorem size_pos {s:ByteArray} (h: ¬s=⟨#[]⟩):s.size≠0:=fun e=>h (by
 cases s with
 | mk d=>
   have:d= #[]:=Array.eq_empty_of_size_eq_zero e
   rw[this])
theorem BU (e:Ed):aH Tryz.prog 84 [e.av] (.v (.int .i64 (jE e))) []:=by
 refine K1.E 0x212402101f Tryz.func84 ?_
 repeat' ((conv=>whnf);first|refine K1.w ?_|refine K1.u ?_|refine K1.P1 (Ob _) rfl ?_|refine K1.P1 (QG _) rfl ?_|refine K1.P1 (FM _) rfl ?_|refine K1.z ?_|refine K1.y (fun _=> ?_) (fun _=> ?_)|fail)
 all_goals(refine aG.int rfl ?_;unfold jE;try have h0:=size_pos ‹_›)
 all_goals grind [Je]
theorem vZ (n a b:Int):aH Tryz.prog 139 [.v (.int .i64 n),.v (.int .i64 a),.v (.int .i64 b)] (.v (.bool (decide (a≤n∧n≤b)))) []:=by
 refine K1.E 0x47 Tryz.func139 ?_
 repeat' ((conv=>whnf);first|refine K1.w ?_|refine K1.u ?_|refine K1.z ?_|refine K1.y (fun _=> ?_) (fun _=> ?_)|fail)
 all_goals(refine aG.bool rfl ?_;simp[*])
theorem lY (k:Int):aH Tryz.prog 112 [.v (.int .i64 k)] (.v (.bool (dK k))) []:=by
 refine K1.E 0x5 Tryz.func112 ?_
 repeat' ((conv=>whnf);first|refine K1.w ?_|refine K1.u ?_|refine K1.z ?_|refine K1.y (fun _=> ?_) (fun _=> ?_)|fail)
 all_goals(refine aG.bool rfl ?_;simp[dK, *])
theorem lH (e:Ev):aH Tryz.prog 109 [e.av] (.v (.int .i64 (eG e))) []:=by
 obtain⟨r,n,⟨c0,c1,c2,c3,c4⟩,h,k,key,l,v⟩:=e
 dsimp only[Ev.av,Ev.cs]
 by_cases hr:0≤r∧r≤4
 · rcases(show r=0∨r=1∨r=2∨r=3∨r=4 by omega)with rfl|rfl|rfl|rfl|rfl
   all_goals
    refine K1.E 0x4011d00017 Tryz.func109 ?_
    repeat' ((conv=>whnf);first|refine K1.w ?_|refine K1.u ?_|refine K1.P1 (vZ _ _ _) rfl ?_|refine K1.P1 (BU ⟨k,key,l,v⟩) rfl ?_|refine aJ.rounds 6 ?_|refine K1.z ?_|refine K1.y (fun _=> ?_) (fun _=> ?_)|fail)
    all_goals refine aG.int rfl ?_
    all_goals first|(simp[eG,oJ,gG,aZ.get,Ev.ed, *];done)|(simp[eG,oJ,gG,aZ.get,Ev.ed, *];omega)
 · refine K1.E 0x4011d00017 Tryz.func109 ?_
   repeat' ((conv=>whnf);first|refine K1.w ?_|refine K1.u ?_|refine K1.P1 (vZ _ _ _) rfl ?_|refine K1.P1 (BU ⟨k,key,l,v⟩) rfl ?_|refine aJ.rounds 6 ?_|refine K1.z ?_|refine K1.y (fun _=> ?_) (fun _=> ?_)|fail)
   all_goals refine aG.int rfl ?_
   all_goals(simp[eG,gG];omega)
end
section
open Go.RowKit
end
section
open Go.RowKit
def gW:List UInt8→Nat→Nat→Nat×Nat×Int
  |[],i,_=>if i=10 then(0,0,3)else(0,0,2)
  | c::r,i,acc=>
    if 128≤c.toNat then gW r (i+1) (acc+(c.toNat-128)*128^i)
    else if(0<i∧c.toNat=0)∨(i=9∧1<c.toNat)then(0,0,3)
    else(acc+c.toNat*128^i,i+1,0)
def dF (bs:List UInt8):Nat×Nat×Int:=gW (bs.take 10) 0 0
theorem FN (j:Nat):2^(7*j)=128^j:=by rw[Nat.pow_mul]
theorem X4 {acc v j:Nat} (ha:acc<128^j) (hv:v*128^j<18446744073709551616) (hp:128^j≤9223372036854775808):
  bits .or .u64 (acc:Int) (IntKind.u64.wrap ((v:Int)*2^(7*j)))=((acc+v*128^j:Nat):Int):=by
 have h1:((v:Int)*2^(7*j))=((v*128^j:Nat):Int):=by
  rw[←FN];simp
 rw[h1,IntKind.wrap_u64]
 have h2:((v*128^j:Nat):Int)%18446744073709551616=((v*128^j:Nat):Int):=by omega
 rw[h2,u64_or_nat _ _ (by omega) hv,Nat.or_comm]
 congr 1
 rw[nat_join (7*j) (v*128^j) acc (by rw[FN];exact Nat.mul_mod_left _ _) (by rw[FN];exact ha),Nat.add_comm]
theorem Eb {j:Nat} (h:j≤9):128^j≤9223372036854775808:=by
 have:=Nat.pow_le_pow_right (n:=128) (by omega) h
 have h2:128^9=9223372036854775808:=by decide
 omega
theorem adD {acc q j:Nat} (hj:j≤8) (ha:acc<128^j) (hq:q<256) (h128:128≤q):
  bits .or .u64 (acc:Int) (IntKind.u64.wrap (((q:Int)-128)*2^(7*j)))=((acc+(q-128)*128^j:Nat):Int)∧acc+(q-128)*128^j<128^(j+1):=by
 have hp:=Eb (show j+1≤9 by omega)
 have hp':=Eb (show j≤9 by omega)
 rw[Nat.pow_succ]at hp⊢
 have hm:(q-128)*128^j≤127*128^j:=Nat.mul_le_mul_right _ (by omega)
 have hc:(q:Int)-128=((q-128:Nat):Int):=by omega
 rw[hc]
 exact⟨X4 ha (by omega) hp',by omega⟩
theorem UN {acc q j:Nat} (hj:j≤9) (ha:acc<128^j) (hq:q<128) (h9: ¬ (j=9∧1<q)):
  bits .or .u64 (acc:Int) (IntKind.u64.wrap ((q:Int)*2^(7*j)))=((acc+q*128^j:Nat):Int):=by
 have hp':=Eb hj
 by_cases h:j=9
 · have hm:q*128^j≤1*128^j:=Nat.mul_le_mul_right _ (by omega)
   exact X4 ha (by omega) hp'
 · have hp:=Eb (show j+1≤9 by omega)
   rw[Nat.pow_succ]at hp
   have hm:q*128^j≤127*128^j:=Nat.mul_le_mul_right _ (by omega)
   exact X4 ha (by omega) hp'
theorem UO (A:Option Addr) (n c:Nat) (bs:List UInt8) (w:World) (h:Rd w w.heap.size 1 A n (bs.map bV)) (hn:n=bs.length) (hc:n≤c):
  Calls Tryz.prog 80 #[.slice A n c] w fun x w'=>x= .returned (.tuple #[.int .u64 (dF bs).1,.int .i64 (dF bs).2.1,.int .i64 (dF bs).2.2])∧w=w':=by
 generalize hR:dF bs=R
 unfold dF at hR
 by_cases h10:10<n
 · have hrd : Rd w w.heap.size 1 A 10 ((bs.take 10).map bV):=by
    have:=h.first (k:=10) (by omega)
    rwa [Nat.mul_one,←List.map_take]at this
   have hll:(bs.take 10).length=10:=by rw[List.length_take];omega
   generalize bs.take 10=L at hR hrd hll
   go_enter Tryz.func80,Tryz.ntmps80
   go_wp2_with fail
   have hlm:L.length≤10:=by omega
   go_loop [2,14] (fun x i=> ∃ (j acc:Nat) (z:Int),j≤10∧x= .int .u64 z∧i= .int .i64 j∧(j≤9→z=acc∧acc<128^j)∧gW (L.drop j) j acc=R) (fun _ i=>10-(intOf i).toNat)
   case atStart=>exact⟨0,0,0,by omega,rfl,rfl,fun _=>⟨rfl,by decide⟩,hR⟩
   case round =>
    obtain⟨j,acc,z,hj,rfl,rfl,hz,hr⟩:=hrel
    have HZ:=Lib.hid hz
    have HRR:=Lib.hid hr
    clear hz hr
    by_cases hjm:j<10
    · obtain ⟨b,o,hl,hA,hb,hcell⟩:=hrd.at1 hjm
      subst hA
      rw[List.getElem_map]at hcell
      simp only[bV]at hcell
      simp only[List.length_map]at hl
      have hdrop:L.drop j=L[j]::L.drop (j+1):=List.drop_eq_getElem_cons hl
      have HD:=Lib.hid hdrop
      clear hdrop
      generalize L[j]=q at hcell HD
      have hq:=q.toNat_lt
      have adE:IntKind.i64.wrap (7*(j:Int))=7*j:=IntWalk.i64_in _ (by omega)
      have e_0:(0:Int)≤7*(j:Int):=by omega
      have aei:7*(j:Int)≤64:=by omega
      have aej:(j:Int)<10:=by omega
      by_cases h128:128≤q.toNat
      · have h128':(128:Int)≤(q.toNat:Int):=by omega
        have adF:IntKind.u8.wrap ((q.toNat:Int)-128)=(q.toNat:Int)-128:=by
         rw[IntKind.wrap_u8];omega
        have X5:IntKind.u64.wrap ((q.toNat:Int)-128)=(q.toNat:Int)-128:=by
         rw[IntKind.wrap_u64];omega
        go_wp2_with fail
        go_round
        case rel=>
         have hr:=HRR.out
         rw[HD.out]at hr
         unfold gW at hr
         rw[if_pos h128]at hr
         refine⟨j+1,_,_,by omega,rfl,by go_num,fun h9=> ?_,hr⟩
         have h8:j≤8:=by omega
         obtain⟨hz,ha⟩:=HZ.out (by omega)
         rw[hz]
         exact adD h8 ha hq h128
        case measure=>simp[intOf];omega
      · have h128':(q.toNat:Int)<128:=by omega
        have X5:IntKind.u64.wrap (q.toNat:Int)=(q.toNat:Int):=by
         rw[IntKind.wrap_u64];omega
        have aek:IntKind.i64.wrap ((j:Int)+1)=j+1:=IntWalk.i64_in _ (by omega)
        have hr:=HRR.out
        rw[HD.out]at hr
        unfold gW at hr
        rw[if_neg h128]at hr
        have QH:=Lib.hid h128
        clear h128
        by_cases h0:j=0
        · have hj0: ¬ (0:Int)<(j:Int):=by omega
          have h9':((j:Int)==9)=false:=by rw[beq_eq_false_iff_ne];omega
          rw[if_neg (by omega)]at hr
          have H0:=Lib.hid h0
          clear h0
          go_wp2_with fail
          go_ret3
          have h0:=H0.out
          have hv:=UN (acc:=acc) (by omega) (HZ.out (by omega)).2 (by have:=QH.out;omega:q.toNat<128) (by omega)
          rw[←hr,(HZ.out (by omega)).1,hv]
          simp
        · have hj0:(0:Int)<(j:Int):=by omega
          by_cases hq0:q.toNat=0
          · rw[if_pos (Or.inl ⟨by omega,hq0⟩)]at hr
            have X6:(q.toNat:Int)=0:=by omega
            rw[X6]at hcell
            go_wp2_with fail
            go_ret3
            rw[←hr]
            simp
          · have X6:((q.toNat:Int)==0)=false:=by rw[beq_eq_false_iff_ne];omega
            by_cases h9:j=9
            · have h9':((j:Int)==9)=true:=by rw[beq_iff_eq];omega
              have H9:=Lib.hid h9
              by_cases hq1:1<q.toNat
              · have hq1':(1:Int)<(q.toNat:Int):=by omega
                rw[if_pos (Or.inr ⟨h9,hq1⟩)]at hr
                clear h9
                go_wp2_with fail
                go_ret3
                rw[←hr]
                simp
              · have hq1': ¬ (1:Int)<(q.toNat:Int):=by omega
                rw[if_neg (by omega)]at hr
                clear h9
                go_wp2_with fail
                go_ret3
                have h9:=H9.out
                have hv:=UN (acc:=acc) (by omega) (HZ.out (by omega)).2 (by have:=QH.out;omega:q.toNat<128) (by omega)
                rw[←hr,(HZ.out (by omega)).1,hv]
                simp
            · have h9':((j:Int)==9)=false:=by rw[beq_eq_false_iff_ne];omega
              rw[if_neg (by omega)]at hr
              go_wp2_with fail
              go_ret3
              have hv:=UN (acc:=acc) (by omega) (HZ.out (by omega)).2 (by have:=QH.out;omega:q.toNat<128) (by omega)
              rw[←hr,(HZ.out (by omega)).1,hv]
              simp
    · have hjn:j=10:=by omega
      subst hjn
      have hr:=HRR.out
      rw[List.drop_eq_nil_of_le (by omega)]at hr
      unfold gW at hr
      rw[if_pos rfl]at hr
      go_wp2_with fail
      go_ret3
      rw[←hr]
      simp
 · have hrd : Rd w w.heap.size 1 A n ((bs.take 10).map bV):=by rwa [List.take_of_length_le (by omega)]
   have hll:(bs.take 10).length=n:=by rw[List.length_take];omega
   generalize bs.take 10=L at hR hrd hll
   go_enter Tryz.func80,Tryz.ntmps80
   go_wp2_with fail
   have hlm:L.length≤10:=by omega
   go_loop [2,14] (fun x i=> ∃ (j acc:Nat) (z:Int),j≤n∧x= .int .u64 z∧i= .int .i64 j∧(j≤9→z=acc∧acc<128^j)∧gW (L.drop j) j acc=R) (fun _ i=>n-(intOf i).toNat)
   case atStart=>exact⟨0,0,0,by omega,rfl,rfl,fun _=>⟨rfl,by decide⟩,hR⟩
   case round =>
    obtain⟨j,acc,z,hj,rfl,rfl,hz,hr⟩:=hrel
    have HZ:=Lib.hid hz
    have HRR:=Lib.hid hr
    clear hz hr
    by_cases hjm:j<n
    · obtain ⟨b,o,hl,hA,hb,hcell⟩:=hrd.at1 hjm
      subst hA
      rw[List.getElem_map]at hcell
      simp only[bV]at hcell
      simp only[List.length_map]at hl
      have hdrop:L.drop j=L[j]::L.drop (j+1):=List.drop_eq_getElem_cons hl
      have HD:=Lib.hid hdrop
      clear hdrop
      generalize L[j]=q at hcell HD
      have hq:=q.toNat_lt
      have adE:IntKind.i64.wrap (7*(j:Int))=7*j:=IntWalk.i64_in _ (by omega)
      have e_0:(0:Int)≤7*(j:Int):=by omega
      have aei:7*(j:Int)≤64:=by omega
      have aej:(j:Int)<(n:Int):=by omega
      by_cases h128:128≤q.toNat
      · have h128':(128:Int)≤(q.toNat:Int):=by omega
        have adF:IntKind.u8.wrap ((q.toNat:Int)-128)=(q.toNat:Int)-128:=by
         rw[IntKind.wrap_u8];omega
        have X5:IntKind.u64.wrap ((q.toNat:Int)-128)=(q.toNat:Int)-128:=by
         rw[IntKind.wrap_u64];omega
        go_wp2_with fail
        go_round
        case rel=>
         have hr:=HRR.out
         rw[HD.out]at hr
         unfold gW at hr
         rw[if_pos h128]at hr
         refine⟨j+1,_,_,by omega,rfl,by go_num,fun h9=> ?_,hr⟩
         have h8:j≤8:=by omega
         obtain⟨hz,ha⟩:=HZ.out (by omega)
         rw[hz]
         exact adD h8 ha hq h128
        case measure=>simp[intOf];omega
      · have h128':(q.toNat:Int)<128:=by omega
        have X5:IntKind.u64.wrap (q.toNat:Int)=(q.toNat:Int):=by
         rw[IntKind.wrap_u64];omega
        have aek:IntKind.i64.wrap ((j:Int)+1)=j+1:=IntWalk.i64_in _ (by omega)
        have hr:=HRR.out
        rw[HD.out]at hr
        unfold gW at hr
        rw[if_neg h128]at hr
        have QH:=Lib.hid h128
        clear h128
        by_cases h0:j=0
        · have hj0: ¬ (0:Int)<(j:Int):=by omega
          have h9':((j:Int)==9)=false:=by rw[beq_eq_false_iff_ne];omega
          rw[if_neg (by omega)]at hr
          have H0:=Lib.hid h0
          clear h0
          go_wp2_with fail
          go_ret3
          have h0:=H0.out
          have hv:=UN (acc:=acc) (by omega) (HZ.out (by omega)).2 (by have:=QH.out;omega:q.toNat<128) (by omega)
          rw[←hr,(HZ.out (by omega)).1,hv]
          simp
        · have hj0:(0:Int)<(j:Int):=by omega
          by_cases hq0:q.toNat=0
          · rw[if_pos (Or.inl ⟨by omega,hq0⟩)]at hr
            have X6:(q.toNat:Int)=0:=by omega
            rw[X6]at hcell
            go_wp2_with fail
            go_ret3
            rw[←hr]
            simp
          · have X6:((q.toNat:Int)==0)=false:=by rw[beq_eq_false_iff_ne];omega
            by_cases h9:j=9
            · have h9':((j:Int)==9)=true:=by rw[beq_iff_eq];omega
              have H9:=Lib.hid h9
              by_cases hq1:1<q.toNat
              · have hq1':(1:Int)<(q.toNat:Int):=by omega
                rw[if_pos (Or.inr ⟨h9,hq1⟩)]at hr
                clear h9
                go_wp2_with fail
                go_ret3
                rw[←hr]
                simp
              · have hq1': ¬ (1:Int)<(q.toNat:Int):=by omega
                rw[if_neg (by omega)]at hr
                clear h9
                go_wp2_with fail
                go_ret3
                have h9:=H9.out
                have hv:=UN (acc:=acc) (by omega) (HZ.out (by omega)).2 (by have:=QH.out;omega:q.toNat<128) (by omega)
                rw[←hr,(HZ.out (by omega)).1,hv]
                simp
            · have h9':((j:Int)==9)=false:=by rw[beq_eq_false_iff_ne];omega
              rw[if_neg (by omega)]at hr
              go_wp2_with fail
              go_ret3
              have hv:=UN (acc:=acc) (by omega) (HZ.out (by omega)).2 (by have:=QH.out;omega:q.toNat<128) (by omega)
              rw[←hr,(HZ.out (by omega)).1,hv]
              simp
    · have hjn:j=n:=by omega
      subst hjn
      have hr:=HRR.out
      rw[List.drop_eq_nil_of_le (by omega)]at hr
      unfold gW at hr
      by_cases h9:j=10
      · have h9':((j:Int)==10)=true:=by rw[beq_iff_eq];omega
        rw[if_pos h9]at hr
        go_wp2_with fail
        go_ret3
        rw[←hr]
        simp
      · have h9':((j:Int)==10)=false:=by rw[beq_eq_false_iff_ne];omega
        rw[if_neg h9]at hr
        go_wp2_with fail
        go_ret3
        rw[←hr]
        simp
theorem Jf: ∀ (l:List UInt8) (i acc:Nat),(gW l i acc).2.1≤i+l.length
  |[],i,acc=>by unfold gW;split<;>simp
  | c ::r,i,acc=>by
    unfold gW
    split
    · have:=Jf r (i+1) (acc+(c.toNat-128)*128^i)
      simp only[List.length_cons]
      omega
    · split<;>simp
theorem wu (l:List UInt8):(dF l).2.1≤l.length:=by
 have:=Jf (l.take 10) 0 0
 rw[List.length_take]at this
 unfold dF
 omega
end
abbrev Sq:=Nat×Int
def fG (bs:List UInt8) (lo hi:Int) (s:Sq):Int×Sq:=
 if s.2≠0 then(0,s)
 else if bs.length≤s.1 then(0,(s.1,2))
 else if lo≤((bs.getD s.1 0).toNat:Int)∧((bs.getD s.1 0).toNat:Int)≤hi then(((bs.getD s.1 0).toNat:Int),(s.1+1,0))
 else(0,(s.1+1,3))
def eU (bs:List UInt8) (lo hi:Int) (s:Sq):Int×Sq:=
 if s.2≠0 then(0,s)
 else if(dF (bs.drop s.1)).2.2≠0 then(0,(s.1,(dF (bs.drop s.1)).2.2))
 else if lo≤((dF (bs.drop s.1)).1:Int)∧((dF (bs.drop s.1)).1:Int)≤hi then(((dF (bs.drop s.1)).1:Int),(s.1+(dF (bs.drop s.1)).2.1,0))
 else(0,(s.1,3))
def Ig (bs:List UInt8) (u n:Nat):ByteArray:=⟨((bs.drop u).take n).toArray⟩
def fO (bs:List UInt8) (size:Int) (may:ByteArray→Int) (s:Sq):ByteArray×Sq:=
 if s.2≠0 then(⟨#[]⟩,s)
 else if((bs.length:Int)-s.1<size)then(⟨#[]⟩,(s.1,2))
 else(Ig bs s.1 size.toNat,(s.1+size.toNat,if may (Ig bs s.1 size.toNat)=0 then 0 else 3))
def kN (bs:List UInt8) (r:Int) (j:Nat) (s:Sq):Int×Sq:=if(j:Int)=r then(0,s)else eU bs 0 1048576 s
def aZ.put (c:aZ) (r v:Int):aZ:=
 if r=0 then{c with c0:=v}else if r=1 then{c with c1:=v}else if r=2 then{c with c2:=v}else if r=3 then{c with c3:=v}else{c with c4:=v}
def aZ.rQ (c:aZ):Nat→Int→aZ
  |0,v=>{c with c0:=v}
  |1,v=>{c with c1:=v}
  |2,v=>{c with c2:=v}
  |3,v=>{c with c3:=v}
  |_,v=>{c with c4:=v}
def ku (bs:List UInt8) (r:Int) (s:Sq):Nat→aZ×Sq
  |0=>(⟨0,0,0,0,0⟩,s)
  |j+1=>((ku bs r s j).1.rQ j (kN bs r j (ku bs r s j).2).1,(kN bs r j (ku bs r s j).2).2)
def iR (bs:List UInt8) (r:Int) (s:Sq):aZ×Sq:=ku bs r s 5
def dH (bs:List UInt8) (s:Sq):Ev×Sq:=
 let k:=fG bs 1 5 s
 let r:=fG bs 0 4 k.2
 let n:=eU bs 1 1048576 r.2
 let c:=iR bs r.1 n.2
 let h:=eU bs 1 16777216 c.2
 let ks:=fG bs 1 8 h.2
 let key:=fO bs ks.1 keyE ks.2
 if dK k.1 then
  let l:=fG bs 0 1 key.2
  let vs:=fG bs 1 12 l.2
  let v:=fO bs vs.1 eX vs.2
  (⟨r.1,n.1,c.1.put r.1 (n.1-1),h.1,k.1,key.1,l.1,v.1⟩,v.2)
 else(⟨r.1,n.1,c.1.put r.1 (n.1-1),h.1,k.1,key.1,0,⟨#[]⟩⟩,key.2)
theorem aav {bs:List UInt8} {lo hi:Int} {s:Sq} (h:s.1≤bs.length):(fG bs lo hi s).2.1≤bs.length:=by
 unfold fG;split;exact h;split;exact h;split<;>dsimp only<;>omega
theorem FP {bs:List UInt8} {lo hi:Int} {s:Sq}:(fG bs lo hi s).1=0∨(lo≤(fG bs lo hi s).1∧(fG bs lo hi s).1≤hi):=by
 unfold fG
 split
 · exact Or.inl rfl
 · split
   · exact Or.inl rfl
   · split
     · rename_i h
       exact Or.inr h
     · exact Or.inl rfl
section
open Go.RowKit
def rU (l:List UInt8):Nat:=(l.map fun b=>b.toNat).sum
theorem Ec: ∀l:List UInt8,rU l≤255*l.length
  |[]=>by simp[rU]
  | b::l=>by
    have:=Ec l
    have:=UInt8.toNat_lt b
    simp only[rU,List.map_cons,List.sum_cons,List.length_cons]at*
    omega
theorem Jg {l:List UInt8} {j:Nat} (h:j<l.length):rU (l.take (j+1))=rU (l.take j)+(l.getD j 0).toNat:=by
 rw[List.take_add_one,List.getElem?_eq_getElem h,List.getD,List.getElem?_eq_getElem h,rU,List.map_append,List.sum_append]
 simp[rU]
theorem Oc {l:List UInt8} {j:Nat} (h:l.length≤j):rU (l.take j)=rU l:=by rw[List.take_of_length_le h]
def ks3 (n:Nat):ByteArray:=if(n:Int)%3=0 then⟨#[97,110,110]⟩else if(n:Int)%3=1 then⟨#[98,111,98]⟩else⟨#[99,121]⟩
def vs4 (n:Nat):ByteArray:=if(n:Int)%4=0 then⟨#[49]⟩else if(n:Int)%4=1 then⟨#[116,119,111]⟩else if(n:Int)%4=2 then⟨#[0,255]⟩else⟨#[116,119,101,108,118,101,32,98,121,116,101,115]⟩
def lU (x m:Int):Int:=IntKind.i64.wrap ((BitVec.ofInt IntKind.i64.bits x&&&BitVec.ofInt IntKind.i64.bits m).toNat:Int)
def m5 (x:Int):Int:=(x.tmod 5+5)%5
def kC (e:Ed):Ed:=
 if 2<1+m5 e.k then⟨1+m5 e.k,ks3 (rU e.key.data.toList),lU e.l 1,vs4 (rU e.v.data.toList)⟩else⟨1+m5 e.k,ks3 (rU e.key.data.toList),0,⟨#[]⟩⟩
theorem Ar (k:Int): -5<k.tmod 5∧k.tmod 5<5:=by
 have h1:=Int.tmod_lt_of_pos k (show(0:Int)<5 by decide)
 have h2:=Int.lt_tmod_of_pos k (show(0:Int)<5 by decide)
 omega
theorem FQ (x:Int) (m:Nat) (hm:m≤4294967296):0≤lU x (m:Int)∧lU x (m:Int)≤m:=by
 have h:(BitVec.ofInt 64 x&&&BitVec.ofInt 64 (m:Int)).toNat≤m:=by
  rw[BitVec.toNat_and,BitVec.ofInt_natCast,BitVec.toNat_ofNat]
  exact Nat.le_trans Nat.and_le_right (Nat.mod_le _ _)
 show 0≤IntKind.i64.wrap ((BitVec.ofInt 64 x&&&BitVec.ofInt 64 (m:Int)).toNat:Int)∧IntKind.i64.wrap ((BitVec.ofInt 64 x&&&BitVec.ofInt 64 (m:Int)).toNat:Int)≤m
 rw[IntKind.wrap_i64]
 omega
theorem pG (x:Int):0≤lU x 1048575∧lU x 1048575≤1048575:=FQ x 1048575 (by omega)
theorem Lh (x:Int):0≤lU x 16777215∧lU x 16777215≤16777215:=FQ x 16777215 (by omega)
theorem X7 (x:Int):0≤lU x 1∧lU x 1≤1:=FQ x 1 (by omega)
theorem Rm.m3 {a:Int} {K:Int→Prop} (h:0≤a) (h0:a%3=0→K 0) (h1:a%3=1→K 1) (h2:a%3=2→K 2):Rm a 3 K:=by
 refine .pos h (by omega) ?_
 rcases(show a%3=0∨a%3=1∨a%3=2 by omega)with e|e|e
 · rw[e];exact h0 e
 · rw[e];exact h1 e
 · rw[e];exact h2 e
theorem Rm.m4 {a:Int} {K:Int→Prop} (h:0≤a) (h0:a%4=0→K 0) (h1:a%4=1→K 1) (h2:a%4=2→K 2) (h3:a%4=3→K 3):Rm a 4 K:=by
 refine .pos h (by omega) ?_
 rcases(show a%4=0∨a%4=1∨a%4=2∨a%4=3 by omega)with e|e|e|e
 · rw[e];exact h0 e
 · rw[e];exact h1 e
 · rw[e];exact h2 e
 · rw[e];exact h3 e
def abJ:List AV:=[.v (.string ⟨#[97,110,110]⟩),.v (.string ⟨#[98,111,98]⟩),.v (.string ⟨#[99,121]⟩)]
def abK:List AV:=[.v (.string ⟨#[49]⟩),.v (.string ⟨#[116,119,111]⟩),.v (.string ⟨#[0,255]⟩),.v (.string ⟨#[116,119,101,108,118,101,32,98,121,116,101,115]⟩)]
def edZ:List AV:=[.v (.int .i64 0),.v (.string ⟨#[]⟩),.v (.int .i64 0),.v (.string ⟨#[]⟩)]
theorem FT (e:Ed) (hk:e.key.size≤140737488355328) (hv:e.v.size≤140737488355328):aH Tryz.prog 32 [e.av] (kC e).av []:=by
 obtain⟨k,key,l,v⟩:=e
 dsimp only at hk hv
 obtain⟨ht1,ht2⟩:=Ar k
 refine K1.E 0x200000400103ff Tryz.func32 ?_
 repeat' ((conv=>whnf);first|refine K1.w ?_|refine K1.u ?_|refine K1.o (id:=13) [(0,none),(1,none),(2,none),(3,none),(4,none),(5,none),(6,none),(7,none),(8,none),(9,none),(10,none),(11,some []),(12,some [9,7,5,4,3,2,1])] [(2,[1]),(3,[2,1]),(4,[3,2,1]),(5,[4,3,2,1]),(8,[7]),(9,[7]),(10,[9,7,5,4,3,2,1]),(11,[]),(12,[9,7,5,4,3,2,1])] ?_|refine K1.z ?_|refine K1.y (fun _=> ?_) (fun _=> ?_)|fail)
 conv=>whnf
 refine aJ.mk {j:Nat//j≤key.size} (fun j=>⟨[(1,.box 0 0),(2,.box 1 0),(3,.box 2 0),(4,.box 3 0),(5,.v (.int .i64 (rU (key.data.toList.take j.1):Int))),(6,.v (.int .i64 (j.1:Int)))],
  [(0,.box 64 [.v (.int .i64 k),.v (.string key),.v (.int .i64 l),.v (.string v)]),(1,.box 64 edZ),(2,.box 120 abJ),(3,.box 121 abK)],[],4⟩) (fun j=>key.size-j.1) ⟨0,Nat.zero_le _⟩ _
  (dB.mk' [] _ _ _ rfl ⟨aj.refl _,aj.refl _,aj.refl _,aj.refl _,aj.int (by simp[rU]),aj.int rfl,trivial⟩ ⟨⟨_,rfl,au.refl _⟩,⟨_,rfl,au.refl _⟩,⟨_,rfl,au.refl _⟩,⟨_,rfl,au.refl _⟩,trivial⟩ rfl) ?_
 rintro⟨j,hj⟩
 dsimp only
 have hb1:=Ec (key.data.toList.take j)
 rw[List.length_take]at hb1
 have hb2:=UInt8.toNat_lt (key.data.toList.getD (j:Int).toNat 0)
 repeat' ((conv=>whnf);first|refine K1.w ?_|refine K1.u ?_|refine K1.o (id:=13) [(0,none),(1,none),(2,none),(3,none),(4,none),(5,none),(6,none),(7,none),(8,none),(9,none),(10,none),(11,some []),(12,some [9,7,5,4,3,2,1])] [(2,[1]),(3,[2,1]),(4,[3,2,1]),(5,[4,3,2,1]),(8,[7]),(9,[7]),(10,[9,7,5,4,3,2,1]),(11,[]),(12,[9,7,5,4,3,2,1])] ?_|refine K1.z ?_|refine K1.y (fun _=> ?_) (fun _=> ?_)|fail)
 · rename_i hlt
   refine⟨⟨j+1,by omega⟩,_,dB.mk' [] _ _ _ rfl ⟨aj.refl _,aj.refl _,aj.refl _,aj.refl _,aj.int ?_,aj.int ?_,trivial⟩ ⟨⟨_,rfl,au.refl _⟩,⟨_,rfl,au.refl _⟩,⟨_,rfl,au.refl _⟩,⟨_,rfl,au.refl _⟩,trivial⟩ rfl, ?_⟩
   · rw[Jg (by rw[qU];omega)]
     simp
   · simp
   · show key.size-(j+1)<key.size-j
     omega
 rename_i hge
 have hje:rU (key.data.toList.take j)=rU key.data.toList:=Oc (by rw[qU];omega)
 rw[hje]at*
 clear hb2 hge hj hb1 hje
 have hb1:=Ec key.data.toList
 rw[qU]at hb1
 conv=>whnf
 refine aJ.mk {j:Nat//j≤v.size} (fun j=>⟨[(1,.box 0 0),(2,.box 1 0),(3,.box 2 0),(4,.box 3 0),(5,.v (.int .i64 (rU key.data.toList:Int))),(7,.v (.int .i64 (rU (v.data.toList.take j.1):Int))),(8,.v (.int .i64 (j.1:Int)))],
  [(0,.box 64 [.v (.int .i64 k),.v (.string key),.v (.int .i64 l),.v (.string v)]),(1,.box 64 edZ),(2,.box 120 abJ),(3,.box 121 abK)],[],4⟩) (fun j=>v.size-j.1) ⟨0,Nat.zero_le _⟩ _
  (dB.mk' [] _ _ _ rfl ⟨aj.refl _,aj.refl _,aj.refl _,aj.refl _,aj.refl _,aj.int (by simp[rU]),aj.int rfl,trivial⟩ ⟨⟨_,rfl,au.refl _⟩,⟨_,rfl,au.refl _⟩,⟨_,rfl,au.refl _⟩,⟨_,rfl,au.refl _⟩,trivial⟩ rfl) ?_
 rintro⟨j,hj⟩
 dsimp only
 have hb3:=Ec (v.data.toList.take j)
 rw[List.length_take]at hb3
 have hb2:=UInt8.toNat_lt (v.data.toList.getD (j:Int).toNat 0)
 repeat' ((conv=>whnf);first|refine K1.w ?_|refine K1.u ?_|refine Rm.m3 (by omega) (fun _=> ?_) (fun _=> ?_) (fun _=> ?_)|refine Rm.m4 (by omega) (fun _=> ?_) (fun _=> ?_) (fun _=> ?_) (fun _=> ?_)|refine Rm.pos (by omega) (by omega) ?_|refine Rm.FI ?_|refine aG.cO ?_|refine K1.o (id:=13) [(0,none),(1,none),(2,none),(3,none),(4,none),(5,none),(6,none),(7,none),(8,none),(9,none),(10,none),(11,some []),(12,some [9,7,5,4,3,2,1])] [(2,[1]),(3,[2,1]),(4,[3,2,1]),(5,[4,3,2,1]),(8,[7]),(9,[7]),(10,[9,7,5,4,3,2,1]),(11,[]),(12,[9,7,5,4,3,2,1])] ?_|refine K1.z ?_|refine K1.y (fun _=> ?_) (fun _=> ?_)|fail)
 · rename_i hlt
   refine⟨⟨j+1,by omega⟩,_,dB.mk' [] _ _ _ rfl ⟨aj.refl _,aj.refl _,aj.refl _,aj.refl _,aj.refl _,aj.int ?_,aj.int ?_,trivial⟩ ⟨⟨_,rfl,au.refl _⟩,⟨_,rfl,au.refl _⟩,⟨_,rfl,au.refl _⟩,⟨_,rfl,au.refl _⟩,trivial⟩ rfl, ?_⟩
   · rw[Jg (by rw[qU];omega)]
     simp
   · simp
   · show v.size-(j+1)<v.size-j
     omega
 all_goals(conv=>whnf)
 all_goals refine aW.mk (aj.of ?_)
 all_goals(rw[Oc (show v.data.toList.length≤j by rw[qU];omega)]at*)
 all_goals simp only[kC,ks3,vs4,m5,lU,Ed.av, *,if_true,if_false,Int.reduceEq,Int.one_ne_zero]
theorem UQ (e:Ev):aH Tryz.prog 66 [e.av] e.ed.av []:=by
 refine K1.E 0x7 Tryz.func66 ?_
 repeat' ((conv=>whnf);first|refine K1.w ?_|refine K1.u ?_|refine aG.cO ?_|refine K1.z ?_|refine K1.y (fun _=> ?_) (fun _=> ?_)|fail)
 conv=>whnf
 exact aW.mk (aj.refl _)
def fF (e:Ev):Ev:=
 ⟨m5 e.r,1+lU e.n 1048575,aZ.put ⟨lU e.c.c0 1048575,lU e.c.c1 1048575,lU e.c.c2 1048575,lU e.c.c3 1048575,lU e.c.c4 1048575⟩ (m5 e.r) (1+lU e.n 1048575-1),
  1+lU e.h 16777215,(kC e.ed).k,(kC e.ed).key,(kC e.ed).l,(kC e.ed).v⟩
theorem Wr.a20 {x:Int} {K:Int→Prop} (h:K (1+lU x 1048575)):Wr (1+IntKind.i64.wrap ((BitVec.ofInt IntKind.i64.bits x&&&BitVec.ofInt IntKind.i64.bits 1048575).toNat:Int)) K .i64:=by
 have:=pG x
 exact .i64 (show-9223372036854775808≤1+lU x 1048575 by omega) (show 1+lU x 1048575≤9223372036854775807 by omega) h
theorem Wr.a24 {x:Int} {K:Int→Prop} (h:K (1+lU x 16777215)):Wr (1+IntKind.i64.wrap ((BitVec.ofInt IntKind.i64.bits x&&&BitVec.ofInt IntKind.i64.bits 16777215).toNat:Int)) K .i64:=by
 have:=Lh x
 exact .i64 (show-9223372036854775808≤1+lU x 16777215 by omega) (show 1+lU x 16777215≤9223372036854775807 by omega) h
theorem Rm.m5 {a:Int} {K:Int→Prop} (h:0≤a) (h0:a%5=0→K 0) (h1:a%5=1→K 1) (h2:a%5=2→K 2) (h3:a%5=3→K 3) (h4:a%5=4→K 4):Rm a 5 K:=by
 refine .pos h (by omega) ?_
 rcases(show a%5=0∨a%5=1∨a%5=2∨a%5=3∨a%5=4 by omega)with e|e|e|e|e
 · rw[e];exact h0 e
 · rw[e];exact h1 e
 · rw[e];exact h2 e
 · rw[e];exact h3 e
 · rw[e];exact h4 e
theorem FU (e:Ev) (hk:e.key.size≤140737488355328) (hv:e.v.size≤140737488355328):aH Tryz.prog 33 [e.av] (fF e).av []:=by
 have hfit:=FT e.ed hk hv
 obtain⟨ht1,ht2⟩:=Ar e.r
 have a0:=pG e.n
 have a1:=Lh e.h
 refine K1.E 0x10000003f Tryz.func33 ?_
 repeat' ((conv=>whnf);first|refine K1.w ?_|refine K1.u ?_|refine K1.P1 (UQ _) rfl ?_|refine K1.P1 (hfit) rfl ?_|refine Rm.m5 (by omega) (fun _=> ?_) (fun _=> ?_) (fun _=> ?_) (fun _=> ?_) (fun _=> ?_)|refine Rm.FI ?_|refine Wr.a20 ?_|refine Wr.a24 ?_|refine aJ.rounds 6 ?_|refine aG.cO ?_|refine K1.z ?_|refine K1.y (fun _=> ?_) (fun _=> ?_)|fail)
 all_goals(conv=>whnf)
 all_goals refine aW.mk (aj.of ?_)
 all_goals(unfold fF;rw[show m5 e.r=_ from ‹(e.r.tmod 5+5)%5=_›];rfl)
end
section
open Go.Lib
abbrev Str:=List UInt8
theorem Lj {a b:Str} (h:a<b):a≤b:=List.le_of_lt h
theorem rV (a:Str): ¬a<a:=List.lt_irrefl a
theorem Ll {a b:Str} (h:a≤b) (hn:a≠b):a<b:=by
 rcases List.le_iff_lt_or_eq.1 h with h|h
 · exact h
 · exact absurd h hn
theorem DR {a b c:Str} (h:a≤b) (k:b<c):a<c:=List.lt_of_le_of_lt h k
theorem Lm {a b c:Str} (h:a<b) (k:b<c):a<c:=List.lt_of_le_of_lt (Lj h) k
def uniq (l:List Str):List Str:=Lib.compact (l.mergeSort fun x y=>decide (x≤y))
theorem qW (d:Array Str) (hs: ∀i j,i≤j→j<d.size→d[i]! ≤d[j]!): ∀m,m≤d.size→(compactUpTo d m).Pairwise (· < ·)∧(∀x∈compactUpTo d m,∃j,j<m∧x=d[j]!)∧ ∀j,j<m→d[j]! ∈compactUpTo d m
  | 0,_=>by
    refine⟨?_,fun x hx=> ?_,fun j hj=>absurd hj (Nat.not_lt_zero j)⟩
    · show(compactUpTo d 0).Pairwise _
      exact List.Pairwise.nil
    · exact absurd hx (by show x ∉ ([]:List Str);simp)
  | m + 1,hm=>by
    obtain⟨h1,h2,h3⟩:=qW d hs m (by omega)
    rw[compactUpTo_succ]
    by_cases hk:keeps d m=true
    · rw [if_pos hk]
      refine⟨?_,fun x hx=> ?_,fun j hj=> ?_⟩
      · refine List.pairwise_append.2 ⟨h1,List.pairwise_singleton _ _,fun x hx y hy=> ?_⟩
        rw[List.mem_singleton.1 hy]
        obtain⟨j,hj,rfl⟩:=h2 x hx
        have hne:m=0∨d[m]! ≠d[m-1]! :=of_decide_eq_true hk
        have hne:d[m]! ≠d[m-1]! :=by
         rcases hne with h|h
         · omega
         · exact h
        exact DR (hs j (m-1) (by omega) (by omega)) (Ll (hs (m-1) m (by omega) (by omega)) fun e=>hne e.symm)
      · rcases List.mem_append.1 hx with hx|hx
        · obtain⟨j,hj,e⟩:=h2 x hx
          exact⟨j,by omega,e⟩
        · exact⟨m,by omega,List.mem_singleton.1 hx⟩
      · rcases Nat.lt_or_ge j m with h|h
        · exact List.mem_append.2 (.inl (h3 j h))
        · obtain rfl:j=m:=by omega
          exact List.mem_append.2 (.inr (List.mem_singleton.2 rfl))
    · rw [if_neg hk,List.append_nil]
      refine⟨h1,fun x hx=> ?_,fun j hj=> ?_⟩
      · obtain⟨j,hj,e⟩:=h2 x hx
        exact⟨j,by omega,e⟩
      · rcases Nat.lt_or_ge j m with h|h
        · exact h3 j h
        · obtain rfl:j=m:=by omega
          have hk: ¬ (j=0∨d[j]! ≠d[j-1]!):=fun h=>hk (decide_eq_true h)
          have e:d[j]! =d[j-1]! :=Classical.byContradiction fun h=>hk (.inr h)
          rw[e]
          exact h3 (j-1) (by have:j≠0:=fun h=>hk (.inl h);omega)
theorem Ih (l:List Str):(l.mergeSort fun x y=>decide (x≤y)).Pairwise (· ≤ ·):=by
 have tr: ∀a b c:Str,decide (a≤b)=true→decide (b≤c)=true→decide (a≤c)=true:=fun a b c h1 h2=>by simp only[decide_eq_true_eq]at*;exact List.le_trans h1 h2
 have to: ∀a b:Str,(decide (a≤b)||decide (b≤a))=true:=fun a b=>by simp only[Bool.or_eq_true,decide_eq_true_eq];exact List.le_total a b
 exact(List.pairwise_mergeSort tr to l).imp fun h=>of_decide_eq_true h
theorem Oe (a:Str):a≤a:=List.le_refl a
theorem jA (l:List Str):(uniq l).Pairwise (· < ·)∧ ∀x,x∈uniq l↔x∈l:=by
 have hp:=Ih l
 have hm: ∀x,x∈(l.mergeSort fun x y=>decide (x≤y))↔x∈l:=fun x=>List.mem_mergeSort
 unfold uniq
 generalize(l.mergeSort fun x y=>decide (x≤y))=s at hp hm
 have hg: ∀i (h:i<s.length),s.toArray[i]! =s[i]:=fun i h=>by simp[h]
 obtain⟨h1,h2,h3⟩:=qW s.toArray (fun i j hij hj=>by
  have hj:j<s.length:=hj
  rw[hg j hj,hg i (by omega)]
  rcases Nat.lt_or_ge i j with h|h
  · exact List.pairwise_iff_getElem.1 hp i j (by omega) hj h
  · obtain rfl:i=j:=by omega
    exact Oe _) s.length (Nat.le_refl _)
 refine⟨h1,fun x=> ?_⟩
 rw[←hm]
 constructor
 · intro hx
   obtain⟨j,hj,rfl⟩:=h2 x hx
   rw[hg j hj]
   exact List.getElem_mem _
 · intro hx
   obtain⟨j,hj,rfl⟩:=List.getElem_of_mem hx
   have:=h3 j hj
   rw[hg j hj]at this
   exact this
theorem xX: ∀ {a b:List Str},a.Pairwise (· < ·)→b.Pairwise (· < ·)→(∀x,x∈a↔x∈b)→a=b
  |[],[],_,_,_=>rfl
  |[],y::_,_,_,h=>absurd ((h y).2 List.mem_cons_self) (by simp)
  |x::_,[],_,_,h=>absurd ((h x).1 List.mem_cons_self) (by simp)
  | x ::a,y::b,ha,hb,h=>by
    obtain⟨ha1,ha2⟩:=List.pairwise_cons.1 ha
    obtain⟨hb1,hb2⟩:=List.pairwise_cons.1 hb
    have e:x=y:=by
     rcases List.mem_cons.1 ((h x).1 List.mem_cons_self)with e|hx
     · exact e
     · rcases List.mem_cons.1 ((h y).2 List.mem_cons_self)with e|hy
       · exact e.symm
       · exact absurd (Lm (hb1 x hx) (ha1 y hy)) (rV _)
    subst e
    rw[xX ha2 hb2 fun z=>⟨fun hz=> ?_,fun hz=> ?_⟩]
    · rcases List.mem_cons.1 ((h z).1 (List.mem_cons_of_mem _ hz))with e|h'
      · exact absurd (e▸ha1 z hz) (rV _)
      · exact h'
    · rcases List.mem_cons.1 ((h z).2 (List.mem_cons_of_mem _ hz))with e|h'
      · exact absurd (e▸hb1 z hz) (rV _)
      · exact h'
theorem Og {a b:List Str} (h: ∀x,x∈a↔x∈b):uniq a=uniq b:=
 xX (jA a).1 (jA b).1 fun x=>by rw[(jA a).2,(jA b).2,h]
theorem any_congr {α:Type} {p q:α→Bool}: ∀ {l:List α},(∀x∈l,p x=q x)→l.any p=l.any q
  |[],_=>rfl
  |x::l,h=>by rw[List.any_cons,List.any_cons,h x List.mem_cons_self,any_congr fun y hy=>h y (List.mem_cons_of_mem _ hy)]
end
section
open Go.RowKit
end
end Go.Proofs.YtimhagicagdkfaaGreat
