/-
  Contracts of the walk:Txt,Var,VTake,TkPlain,FitA,BkU,H3,OpG,BkO.
-/
import Derived.Test.YtimhagicagdkfaaGreatNh6
import Derived.Test.YtimhagicagdkfaaGreatNh1
import Derived.WalkSpells
import Derived.WalkLawsBesides
import Derived.Test.YtimhagicagdkfaaGreatChecked
import Derived.Handy
import Derived.Laws.BitsAllLaws
import Derived.Test.YtimhagicagdkfaaGreatNh8
import Derived.Lib.RowBridge
import Derived.Test.YtimhagicagdkfaaGreatRows
import Derived.ProofKit
import Derived.OpenShut
import Derived.SizedLaws
import Derived.ChangeOld
set_option maxHeartbeats 16000000
set_option maxRecDepth 100000
set_option linter.unusedVariables false
set_option linter.unusedSimpArgs false
namespace Go.Proofs.YtimhagicagdkfaaGreat
section
open Go.RowKit
theorem Bd (s:ByteArray):wI s=true↔ ∀i (h:i<s.size),97≤(s[i]'h).toNat∧(s[i]'h).toNat≤122:=by
 unfold wI
 rw[List.all_eq_true]
 constructor
 · intro h i hi
   have:=h s[i] (by
    show s.data[i]'hi∈s.data.toList
    exact Array.mem_toList_iff.2 (Array.getElem_mem _))
   simpa using this
 · intro h b hb
   obtain⟨i,hi,rfl⟩:=Array.getElem_of_mem (Array.mem_toList_iff.1 hb)
   have h1:97≤(s.data[i]'hi).toNat∧(s.data[i]'hi).toNat≤122:=h i hi
   simpa using h1
theorem TW {s:ByteArray} (h1:1≤s.size) (h2:s.size≤8) (h: ∀i (h:i<s.size),97≤(s[i]'h).toNat∧(s[i]'h).toNat≤122):keyE s=0:=by
 unfold keyE
 rw[if_pos ⟨h1,h2,(Bd s).2 h⟩]
theorem ER {s:ByteArray} {i:Nat} (hi:i<s.size) (h: ¬ (97≤(s[i]'hi).toNat∧(s[i]'hi).toNat≤122)):keyE s=10:=by
 unfold keyE
 rw[if_neg (fun hh=>h ((Bd s).1 hh.2.2 i hi))]
theorem yj {s:ByteArray} (h: ¬ (1≤s.size∧s.size≤8)):keyE s=10:=by
 unfold keyE
 rw[if_neg (fun hh=>h ⟨hh.1,hh.2.1⟩)]
theorem aaV (s:ByteArray) (w:World):
  Calls Tryz.prog 115 #[.string s] w fun e w'=>e= .returned (.int .i64 (keyE s))∧Below w.heap.size w w':=by
 by_cases h1:1≤s.size
 · by_cases h2 :s.size≤8
   · go_enter Tryz.func115,Tryz.ntmps115
     go_wp2
     go_loopw [] (fun w'=> ∃pos:Nat,w'=w.iter s pos∧ ∀i (h:i<s.size),i<pos→97≤(s[i]'h).toNat∧(s[i]'h).toNat≤122) (fun w'=>s.size-w'.iterPos w.heap.size)
     case atStart=>exact⟨0,rfl,fun i _ h=>by omega⟩
     case round =>
      obtain⟨pos,rfl,hl⟩:=hrel
      have HL:=Lib.hid hl
      clear hl
      by_cases hp:pos<s.size
      · by_cases ha:(s[pos]'hp).toNat<128
        · have hnx: ∀ty,(Instr.next (.pointer (some ⟨w.heap.size,0,none⟩)) true ty).run Tryz.prog (w.iter s pos)=_:=fun ty=>run_next_ascii w s pos ty hp ha
          by_cases h97:97≤(s[pos]'hp).toNat
          · by_cases h122:(s[pos]'hp).toNat≤122
            · go_wp2
              go_roundw
              case rel=>
               exact⟨pos+1,rfl,fun i h hi=>by
                by_cases e:i=pos
                · subst e;exact⟨h97,h122⟩
                · exact HL.out i h (by omega)⟩
              case measure=>
               simp
               omega
            · go_wp2
              go_ret
              exact⟨xO (ER hp (fun hh=>h122 hh.2)).symm,(Below.refl _ _).alloc (Nat.le_refl _) _⟩
          · go_wp2
            go_ret
            exact⟨xO (ER hp (fun hh=>h97 hh.1)).symm,(Below.refl _ _).alloc (Nat.le_refl _) _⟩
        · have hnx: ∀ty,(Instr.next (.pointer (some ⟨w.heap.size,0,none⟩)) true ty).run Tryz.prog (w.iter s pos)=_:=fun ty=>run_next_any w s pos ty hp
          have hd:=(decode_high s pos hp (by omega)).1
          go_wp2
          go_ret
          exact⟨xO (ER hp (by omega)).symm,(Below.refl _ _).alloc (Nat.le_refl _) _⟩
      · have hnx: ∀ty,(Instr.next (.pointer (some ⟨w.heap.size,0,none⟩)) true ty).run Tryz.prog (w.iter s pos)=_:=fun ty=>run_next_end w s pos ty hp
        go_wp2
        go_ret
        exact⟨xO (TW h1 h2 (fun i h=>HL.out i h (by omega))).symm,(Below.refl _ _).alloc (Nat.le_refl _) _⟩
   · go_enter Tryz.func115,Tryz.ntmps115
     go_wp2
     go_ret
     exact⟨xO (yj (by omega)).symm,Below.refl _ _⟩
 · go_enter Tryz.func115,Tryz.ntmps115
   go_wp2
   go_ret
   exact⟨xO (yj (by omega)).symm,Below.refl _ _⟩
theorem Oz (s:ByteArray):aH Tryz.prog 115 [.v (.string s)] (.v (.int .i64 (keyE s))) []:=
 zG (xs:=[.string s]) ⟨_,_,Tryz.func115,rfl,rfl⟩ fun w=>aaV s w
theorem Ri (n:Int):aH Tryz.prog 116 [.v (.int .i64 n)] (.v (.int .i64 (l7 n))) []:=by
 refine K1.E 0x105 Tryz.func116 ?_
 repeat' ((conv=>whnf);first|refine K1.w ?_|refine K1.u ?_|refine K1.z ?_|refine K1.y (fun _=>?_) (fun _=>?_)|fail)
 all_goals(refine aJ.int rfl ?_;unfold l7;(first|rw[if_pos (by omega)]|rw[if_neg (by omega)]))
theorem Gy (s:ByteArray):aH Tryz.prog 117 [.v (.string s)] (.v (.int .i64 (fA s))) []:=by
 refine K1.E 0x405 Tryz.func117 ?_
 repeat' ((conv=>whnf);first|refine K1.w ?_|refine K1.u ?_|refine K1.z ?_|refine K1.y (fun _=>?_) (fun _=>?_)|fail)
 all_goals(refine aJ.int rfl ?_;unfold fA;(first|rw[if_pos (by omega)]|rw[if_neg (by omega)]))
theorem JI {s:ByteArray} (h:s=⟨#[]⟩):s.size=0:=by rw[h];rfl
theorem size_pos {s:ByteArray} (h: ¬s=⟨#[]⟩):s.size≠0:=fun e=>h (by
 cases s with
 | mk d=>
   have:d= #[]:=Array.eq_empty_of_size_eq_zero e
   rw[this])
theorem C9 (e:Ed):aH Tryz.prog 84 [e.av] (.v (.int .i64 (jJ e))) []:=by
 refine K1.E 0x212402101f Tryz.func84 ?_
 repeat' ((conv=>whnf);first|refine K1.w ?_|refine K1.u ?_|refine K1.P1 (Oz _) rfl ?_|refine K1.P1 (Ri _) rfl ?_|refine K1.P1 (Gy _) rfl ?_|refine K1.z ?_|refine K1.y (fun _=>?_) (fun _=>?_)|fail)
 all_goals(refine aJ.int rfl ?_;unfold jJ;try have h0:=size_pos ‹_›)
 all_goals grind [JI]
theorem wK (n a b:Int):aH Tryz.prog 139 [.v (.int .i64 n),.v (.int .i64 a),.v (.int .i64 b)] (.v (.bool (decide (a≤n∧n≤b)))) []:=by
 refine K1.E 0x47 Tryz.func139 ?_
 repeat' ((conv=>whnf);first|refine K1.w ?_|refine K1.u ?_|refine K1.z ?_|refine K1.y (fun _=>?_) (fun _=>?_)|fail)
 all_goals(refine aJ.bool rfl ?_;simp[*])
theorem mJ (k:Int):aH Tryz.prog 112 [.v (.int .i64 k)] (.v (.bool (dN k))) []:=by
 refine K1.E 0x5 Tryz.func112 ?_
 repeat' ((conv=>whnf);first|refine K1.w ?_|refine K1.u ?_|refine K1.z ?_|refine K1.y (fun _=>?_) (fun _=>?_)|fail)
 all_goals(refine aJ.bool rfl ?_;simp[dN, *])
theorem lS (e:Ev):aH Tryz.prog 109 [e.av] (.v (.int .i64 (eG e))) []:=by
 obtain⟨r,n,⟨c0,c1,c2,c3,c4⟩,h,k,key,l,v⟩:=e
 dsimp only[Ev.av,Ev.cs]
 by_cases hr:0≤r∧r≤4
 · rcases(show r=0∨r=1∨r=2∨r=3∨r=4 by omega)with rfl|rfl|rfl|rfl|rfl
   all_goals
    refine K1.E 0x4011d00017 Tryz.func109 ?_
    repeat' ((conv=>whnf);first|refine K1.w ?_|refine K1.u ?_|refine K1.P1 (wK _ _ _) rfl ?_|refine K1.P1 (C9 ⟨k,key,l,v⟩) rfl ?_|refine aN.rounds 6 ?_|refine K1.z ?_|refine K1.y (fun _=>?_) (fun _=>?_)|fail)
    all_goals refine aJ.int rfl ?_
    all_goals first|(simp[eG,nV,fQ,aW.get,Ev.ed, *];done)|(simp[eG,nV,fQ,aW.get,Ev.ed, *];omega)
 · refine K1.E 0x4011d00017 Tryz.func109 ?_
   repeat' ((conv=>whnf);first|refine K1.w ?_|refine K1.u ?_|refine K1.P1 (wK _ _ _) rfl ?_|refine K1.P1 (C9 ⟨k,key,l,v⟩) rfl ?_|refine aN.rounds 6 ?_|refine K1.z ?_|refine K1.y (fun _=>?_) (fun _=>?_)|fail)
   all_goals refine aJ.int rfl ?_
   all_goals(simp[eG,fQ];omega)
end
section
open Go.RowKit
end
section
open Go.RowKit
def ig:List UInt8→Nat→Nat→Nat×Nat×Int
  |[],i,_=>if i=10 then(0,0,3)else(0,0,2)
  | c::r,i,acc=>
    if 128≤c.toNat then ig r (i+1) (acc+(c.toNat-128)*128^i)
    else if(0<i∧c.toNat=0)∨(i=9∧1<c.toNat)then(0,0,3)
    else(acc+c.toNat*128^i,i+1,0)
def dG (bs:List UInt8):Nat×Nat×Int:=ig (bs.take 10) 0 0
theorem Gz (j:Nat):2^(7*j)=128^j:=by rw[Nat.pow_mul]
theorem YB {acc v j:Nat} (ha:acc<128^j) (hv:v*128^j<18446744073709551616) (hp:128^j≤9223372036854775808):
  bits .or .u64 (acc:Int) (IntKind.u64.wrap ((v:Int)*2^(7*j)))=((acc+v*128^j:Nat):Int):=by
 have h1:((v:Int)*2^(7*j))=((v*128^j:Nat):Int):=by
  rw[←Gz];simp
 rw[h1,IntKind.wrap_u64]
 have h2:((v*128^j:Nat):Int)%18446744073709551616=((v*128^j:Nat):Int):=by omega
 rw[h2,u64_or_nat _ _ (by omega) hv,Nat.or_comm]
 congr 1
 rw[nat_join (7*j) (v*128^j) acc (by rw[Gz];exact Nat.mul_mod_left _ _) (by rw[Gz];exact ha),Nat.add_comm]
theorem ES {j:Nat} (h:j≤9):128^j≤9223372036854775808:=by
 have:=Nat.pow_le_pow_right (n:=128) (by omega) h
 have h2:128^9=9223372036854775808:=by decide
 omega
theorem ad3 {acc q j:Nat} (hj:j≤8) (ha:acc<128^j) (hq:q<256) (h128:128≤q):
  bits .or .u64 (acc:Int) (IntKind.u64.wrap (((q:Int)-128)*2^(7*j)))=((acc+(q-128)*128^j:Nat):Int)∧acc+(q-128)*128^j<128^(j+1):=by
 have hp:=ES (show j+1≤9 by omega)
 have hp':=ES (show j≤9 by omega)
 rw[Nat.pow_succ]at hp⊢
 have hm:(q-128)*128^j≤127*128^j:=Nat.mul_le_mul_right _ (by omega)
 have hc:(q:Int)-128=((q-128:Nat):Int):=by omega
 rw[hc]
 exact⟨YB ha (by omega) hp',by omega⟩
theorem Vo {acc q j:Nat} (hj:j≤9) (ha:acc<128^j) (hq:q<128) (h9: ¬ (j=9∧1<q)):
  bits .or .u64 (acc:Int) (IntKind.u64.wrap ((q:Int)*2^(7*j)))=((acc+q*128^j:Nat):Int):=by
 have hp':=ES hj
 by_cases h:j=9
 · have hm:q*128^j≤1*128^j:=Nat.mul_le_mul_right _ (by omega)
   exact YB ha (by omega) hp'
 · have hp:=ES (show j+1≤9 by omega)
   rw[Nat.pow_succ]at hp
   have hm:q*128^j≤127*128^j:=Nat.mul_le_mul_right _ (by omega)
   exact YB ha (by omega) hp'
theorem Vp (A:Option Addr) (n c:Nat) (bs:List UInt8) (w:World) (h:Rd w w.heap.size 1 A n (bs.map bV)) (hn:n=bs.length) (hc:n≤c):
  Calls Tryz.prog 80 #[.slice A n c] w fun x w'=>x= .returned (.tuple #[.int .u64 (dG bs).1,.int .i64 (dG bs).2.1,.int .i64 (dG bs).2.2])∧w=w':=by
 generalize hR:dG bs=R
 unfold dG at hR
 by_cases h10:10<n
 · have hrd : Rd w w.heap.size 1 A 10 ((bs.take 10).map bV):=by
    have:=h.first (k:=10) (by omega)
    rwa [Nat.mul_one,←List.map_take]at this
   have hll:(bs.take 10).length=10:=by rw[List.length_take];omega
   generalize bs.take 10=L at hR hrd hll
   go_enter Tryz.func80,Tryz.ntmps80
   go_wp2_with fail
   have hlm:L.length≤10:=by omega
   go_loop [2,14] (fun x i=> ∃ (j acc:Nat) (z:Int),j≤10∧x= .int .u64 z∧i= .int .i64 j∧(j≤9→z=acc∧acc<128^j)∧ig (L.drop j) j acc=R) (fun _ i=>10-(intOf i).toNat)
   case atStart=>exact⟨0,0,0,by omega,rfl,rfl,fun _=>⟨rfl,by decide⟩,hR⟩
   case round =>
    obtain⟨j,acc,z,hj,rfl,rfl,hz,hr⟩:=hrel
    have HZ:=Lib.hid hz
    have HRR:=Lib.hid hr
    clear hz hr
    by_cases hjm:j<10
    · obtain ⟨b,o,hl,hA,hb,hcell⟩:=hrd.at1 hjm
      subst hA
      rw[List.getElem_map]at hcell
      simp only[bV]at hcell
      simp only[List.length_map]at hl
      have hdrop:L.drop j=L[j]::L.drop (j+1):=List.drop_eq_getElem_cons hl
      have HD:=Lib.hid hdrop
      clear hdrop
      generalize L[j]=q at hcell HD
      have hq:=q.toNat_lt
      have ad4:IntKind.i64.wrap (7*(j:Int))=7*j:=IntWalk.i64_in _ (by omega)
      have e_0:(0:Int)≤7*(j:Int):=by omega
      have aeK:7*(j:Int)≤64:=by omega
      have aeL:(j:Int)<10:=by omega
      by_cases h128:128≤q.toNat
      · have h128':(128:Int)≤(q.toNat:Int):=by omega
        have ad5:IntKind.u8.wrap ((q.toNat:Int)-128)=(q.toNat:Int)-128:=by
         rw[IntKind.wrap_u8];omega
        have YC:IntKind.u64.wrap ((q.toNat:Int)-128)=(q.toNat:Int)-128:=by
         rw[IntKind.wrap_u64];omega
        go_wp2_with fail
        go_round
        case rel=>
         have hr:=HRR.out
         rw[HD.out]at hr
         unfold ig at hr
         rw[if_pos h128]at hr
         refine⟨j+1,_,_,by omega,rfl,by go_num,fun h9=>?_,hr⟩
         have h8:j≤8:=by omega
         obtain⟨hz,ha⟩:=HZ.out (by omega)
         rw[hz]
         exact ad3 h8 ha hq h128
        case measure=>simp[intOf];omega
      · have h128':(q.toNat:Int)<128:=by omega
        have YC:IntKind.u64.wrap (q.toNat:Int)=(q.toNat:Int):=by
         rw[IntKind.wrap_u64];omega
        have aeM:IntKind.i64.wrap ((j:Int)+1)=j+1:=IntWalk.i64_in _ (by omega)
        have hr:=HRR.out
        rw[HD.out]at hr
        unfold ig at hr
        rw[if_neg h128]at hr
        have Rj:=Lib.hid h128
        clear h128
        by_cases h0:j=0
        · have hj0: ¬ (0:Int)<(j:Int):=by omega
          have h9':((j:Int)==9)=false:=by rw[beq_eq_false_iff_ne];omega
          rw[if_neg (by omega)]at hr
          have H0:=Lib.hid h0
          clear h0
          go_wp2_with fail
          go_ret3
          have h0:=H0.out
          have hv:=Vo (acc:=acc) (by omega) (HZ.out (by omega)).2 (by have:=Rj.out;omega:q.toNat<128) (by omega)
          rw[←hr,(HZ.out (by omega)).1,hv]
          simp
        · have hj0:(0:Int)<(j:Int):=by omega
          by_cases hq0:q.toNat=0
          · rw[if_pos (Or.inl ⟨by omega,hq0⟩)]at hr
            have YD:(q.toNat:Int)=0:=by omega
            rw[YD]at hcell
            go_wp2_with fail
            go_ret3
            rw[←hr]
            simp
          · have YD:((q.toNat:Int)==0)=false:=by rw[beq_eq_false_iff_ne];omega
            by_cases h9:j=9
            · have h9':((j:Int)==9)=true:=by rw[beq_iff_eq];omega
              have H9:=Lib.hid h9
              by_cases hq1:1<q.toNat
              · have hq1':(1:Int)<(q.toNat:Int):=by omega
                rw[if_pos (Or.inr ⟨h9,hq1⟩)]at hr
                clear h9
                go_wp2_with fail
                go_ret3
                rw[←hr]
                simp
              · have hq1': ¬ (1:Int)<(q.toNat:Int):=by omega
                rw[if_neg (by omega)]at hr
                clear h9
                go_wp2_with fail
                go_ret3
                have h9:=H9.out
                have hv:=Vo (acc:=acc) (by omega) (HZ.out (by omega)).2 (by have:=Rj.out;omega:q.toNat<128) (by omega)
                rw[←hr,(HZ.out (by omega)).1,hv]
                simp
            · have h9':((j:Int)==9)=false:=by rw[beq_eq_false_iff_ne];omega
              rw[if_neg (by omega)]at hr
              go_wp2_with fail
              go_ret3
              have hv:=Vo (acc:=acc) (by omega) (HZ.out (by omega)).2 (by have:=Rj.out;omega:q.toNat<128) (by omega)
              rw[←hr,(HZ.out (by omega)).1,hv]
              simp
    · have hjn:j=10:=by omega
      subst hjn
      have hr:=HRR.out
      rw[List.drop_eq_nil_of_le (by omega)]at hr
      unfold ig at hr
      rw[if_pos rfl]at hr
      go_wp2_with fail
      go_ret3
      rw[←hr]
      simp
 · have hrd : Rd w w.heap.size 1 A n ((bs.take 10).map bV):=by rwa [List.take_of_length_le (by omega)]
   have hll:(bs.take 10).length=n:=by rw[List.length_take];omega
   generalize bs.take 10=L at hR hrd hll
   go_enter Tryz.func80,Tryz.ntmps80
   go_wp2_with fail
   have hlm:L.length≤10:=by omega
   go_loop [2,14] (fun x i=> ∃ (j acc:Nat) (z:Int),j≤n∧x= .int .u64 z∧i= .int .i64 j∧(j≤9→z=acc∧acc<128^j)∧ig (L.drop j) j acc=R) (fun _ i=>n-(intOf i).toNat)
   case atStart=>exact⟨0,0,0,by omega,rfl,rfl,fun _=>⟨rfl,by decide⟩,hR⟩
   case round =>
    obtain⟨j,acc,z,hj,rfl,rfl,hz,hr⟩:=hrel
    have HZ:=Lib.hid hz
    have HRR:=Lib.hid hr
    clear hz hr
    by_cases hjm:j<n
    · obtain ⟨b,o,hl,hA,hb,hcell⟩:=hrd.at1 hjm
      subst hA
      rw[List.getElem_map]at hcell
      simp only[bV]at hcell
      simp only[List.length_map]at hl
      have hdrop:L.drop j=L[j]::L.drop (j+1):=List.drop_eq_getElem_cons hl
      have HD:=Lib.hid hdrop
      clear hdrop
      generalize L[j]=q at hcell HD
      have hq:=q.toNat_lt
      have ad4:IntKind.i64.wrap (7*(j:Int))=7*j:=IntWalk.i64_in _ (by omega)
      have e_0:(0:Int)≤7*(j:Int):=by omega
      have aeK:7*(j:Int)≤64:=by omega
      have aeL:(j:Int)<(n:Int):=by omega
      by_cases h128:128≤q.toNat
      · have h128':(128:Int)≤(q.toNat:Int):=by omega
        have ad5:IntKind.u8.wrap ((q.toNat:Int)-128)=(q.toNat:Int)-128:=by
         rw[IntKind.wrap_u8];omega
        have YC:IntKind.u64.wrap ((q.toNat:Int)-128)=(q.toNat:Int)-128:=by
         rw[IntKind.wrap_u64];omega
        go_wp2_with fail
        go_round
        case rel=>
         have hr:=HRR.out
         rw[HD.out]at hr
         unfold ig at hr
         rw[if_pos h128]at hr
         refine⟨j+1,_,_,by omega,rfl,by go_num,fun h9=>?_,hr⟩
         have h8:j≤8:=by omega
         obtain⟨hz,ha⟩:=HZ.out (by omega)
         rw[hz]
         exact ad3 h8 ha hq h128
        case measure=>simp[intOf];omega
      · have h128':(q.toNat:Int)<128:=by omega
        have YC:IntKind.u64.wrap (q.toNat:Int)=(q.toNat:Int):=by
         rw[IntKind.wrap_u64];omega
        have aeM:IntKind.i64.wrap ((j:Int)+1)=j+1:=IntWalk.i64_in _ (by omega)
        have hr:=HRR.out
        rw[HD.out]at hr
        unfold ig at hr
        rw[if_neg h128]at hr
        have Rj:=Lib.hid h128
        clear h128
        by_cases h0:j=0
        · have hj0: ¬ (0:Int)<(j:Int):=by omega
          have h9':((j:Int)==9)=false:=by rw[beq_eq_false_iff_ne];omega
          rw[if_neg (by omega)]at hr
          have H0:=Lib.hid h0
          clear h0
          go_wp2_with fail
          go_ret3
          have h0:=H0.out
          have hv:=Vo (acc:=acc) (by omega) (HZ.out (by omega)).2 (by have:=Rj.out;omega:q.toNat<128) (by omega)
          rw[←hr,(HZ.out (by omega)).1,hv]
          simp
        · have hj0:(0:Int)<(j:Int):=by omega
          by_cases hq0:q.toNat=0
          · rw[if_pos (Or.inl ⟨by omega,hq0⟩)]at hr
            have YD:(q.toNat:Int)=0:=by omega
            rw[YD]at hcell
            go_wp2_with fail
            go_ret3
            rw[←hr]
            simp
          · have YD:((q.toNat:Int)==0)=false:=by rw[beq_eq_false_iff_ne];omega
            by_cases h9:j=9
            · have h9':((j:Int)==9)=true:=by rw[beq_iff_eq];omega
              have H9:=Lib.hid h9
              by_cases hq1:1<q.toNat
              · have hq1':(1:Int)<(q.toNat:Int):=by omega
                rw[if_pos (Or.inr ⟨h9,hq1⟩)]at hr
                clear h9
                go_wp2_with fail
                go_ret3
                rw[←hr]
                simp
              · have hq1': ¬ (1:Int)<(q.toNat:Int):=by omega
                rw[if_neg (by omega)]at hr
                clear h9
                go_wp2_with fail
                go_ret3
                have h9:=H9.out
                have hv:=Vo (acc:=acc) (by omega) (HZ.out (by omega)).2 (by have:=Rj.out;omega:q.toNat<128) (by omega)
                rw[←hr,(HZ.out (by omega)).1,hv]
                simp
            · have h9':((j:Int)==9)=false:=by rw[beq_eq_false_iff_ne];omega
              rw[if_neg (by omega)]at hr
              go_wp2_with fail
              go_ret3
              have hv:=Vo (acc:=acc) (by omega) (HZ.out (by omega)).2 (by have:=Rj.out;omega:q.toNat<128) (by omega)
              rw[←hr,(HZ.out (by omega)).1,hv]
              simp
    · have hjn:j=n:=by omega
      subst hjn
      have hr:=HRR.out
      rw[List.drop_eq_nil_of_le (by omega)]at hr
      unfold ig at hr
      by_cases h9:j=10
      · have h9':((j:Int)==10)=true:=by rw[beq_iff_eq];omega
        rw[if_pos h9]at hr
        go_wp2_with fail
        go_ret3
        rw[←hr]
        simp
      · have h9':((j:Int)==10)=false:=by rw[beq_eq_false_iff_ne];omega
        rw[if_neg h9]at hr
        go_wp2_with fail
        go_ret3
        rw[←hr]
        simp
theorem JJ: ∀ (l:List UInt8) (i acc:Nat),(ig l i acc).2.1≤i+l.length
  |[],i,acc=>by unfold ig;split<;>simp
  | c ::r,i,acc=>by
    unfold ig
    split
    · have:=JJ r (i+1) (acc+(c.toNat-128)*128^i)
      simp only[List.length_cons]
      omega
    · split<;>simp
theorem wL (l:List UInt8):(dG l).2.1≤l.length:=by
 have:=JJ (l.take 10) 0 0
 rw[List.length_take]at this
 unfold dG
 omega
end
abbrev Sq:=Nat×Int
def fK (bs:List UInt8) (lo hi:Int) (s:Sq):Int×Sq:=
 if s.2≠0 then(0,s)
 else if bs.length≤s.1 then(0,(s.1,2))
 else if lo≤((bs.getD s.1 0).toNat:Int)∧((bs.getD s.1 0).toNat:Int)≤hi then(((bs.getD s.1 0).toNat:Int),(s.1+1,0))
 else(0,(s.1+1,3))
def eY (bs:List UInt8) (lo hi:Int) (s:Sq):Int×Sq:=
 if s.2≠0 then(0,s)
 else if(dG (bs.drop s.1)).2.2≠0 then(0,(s.1,(dG (bs.drop s.1)).2.2))
 else if lo≤((dG (bs.drop s.1)).1:Int)∧((dG (bs.drop s.1)).1:Int)≤hi then(((dG (bs.drop s.1)).1:Int),(s.1+(dG (bs.drop s.1)).2.1,0))
 else(0,(s.1,3))
def I8 (bs:List UInt8) (u n:Nat):ByteArray:=⟨((bs.drop u).take n).toArray⟩
def fU (bs:List UInt8) (size:Int) (may:ByteArray→Int) (s:Sq):ByteArray×Sq:=
 if s.2≠0 then(⟨#[]⟩,s)
 else if((bs.length:Int)-s.1<size)then(⟨#[]⟩,(s.1,2))
 else(I8 bs s.1 size.toNat,(s.1+size.toNat,if may (I8 bs s.1 size.toNat)=0 then 0 else 3))
def kP (bs:List UInt8) (r:Int) (j:Nat) (s:Sq):Int×Sq:=if(j:Int)=r then(0,s)else eY bs 0 1048576 s
def aW.put (c:aW) (r v:Int):aW:=
 if r=0 then{c with c0:=v}else if r=1 then{c with c1:=v}else if r=2 then{c with c2:=v}else if r=3 then{c with c3:=v}else{c with c4:=v}
def aW.sK (c:aW):Nat→Int→aW
  |0,v=>{c with c0:=v}
  |1,v=>{c with c1:=v}
  |2,v=>{c with c2:=v}
  |3,v=>{c with c3:=v}
  |_,v=>{c with c4:=v}
def kF (bs:List UInt8) (r:Int) (s:Sq):Nat→aW×Sq
  |0=>(⟨0,0,0,0,0⟩,s)
  |j+1=>((kF bs r s j).1.sK j (kP bs r j (kF bs r s j).2).1,(kP bs r j (kF bs r s j).2).2)
def jc (bs:List UInt8) (r:Int) (s:Sq):aW×Sq:=kF bs r s 5
def dJ (bs:List UInt8) (s:Sq):Ev×Sq:=
 let k:=fK bs 1 5 s
 let r:=fK bs 0 4 k.2
 let n:=eY bs 1 1048576 r.2
 let c:=jc bs r.1 n.2
 let h:=eY bs 1 16777216 c.2
 let ks:=fK bs 1 8 h.2
 let key:=fU bs ks.1 keyE ks.2
 if dN k.1 then
  let l:=fK bs 0 1 key.2
  let vs:=fK bs 1 12 l.2
  let v:=fU bs vs.1 fA vs.2
  (⟨r.1,n.1,c.1.put r.1 (n.1-1),h.1,k.1,key.1,l.1,v.1⟩,v.2)
 else(⟨r.1,n.1,c.1.put r.1 (n.1-1),h.1,k.1,key.1,0,⟨#[]⟩⟩,key.2)
theorem aaW {bs:List UInt8} {lo hi:Int} {s:Sq} (h:s.1≤bs.length):(fK bs lo hi s).2.1≤bs.length:=by
 unfold fK;split;exact h;split;exact h;split<;>dsimp only<;>omega
theorem GH {bs:List UInt8} {lo hi:Int} {s:Sq}:(fK bs lo hi s).1=0∨(lo≤(fK bs lo hi s).1∧(fK bs lo hi s).1≤hi):=by
 unfold fK
 split
 · exact Or.inl rfl
 · split
   · exact Or.inl rfl
   · split
     · rename_i h
       exact Or.inr h
     · exact Or.inl rfl
section
open Go.RowKit
def sN (l:List UInt8):Nat:=(l.map fun b=>b.toNat).sum
theorem ET: ∀l:List UInt8,sN l≤255*l.length
  |[]=>by simp[sN]
  | b::l=>by
    have:=ET l
    have:=UInt8.toNat_lt b
    simp only[sN,List.map_cons,List.sum_cons,List.length_cons]at*
    omega
theorem JK {l:List UInt8} {j:Nat} (h:j<l.length):sN (l.take (j+1))=sN (l.take j)+(l.getD j 0).toNat:=by
 rw[List.take_add_one,List.getElem?_eq_getElem h,List.getD,List.getElem?_eq_getElem h,sN,List.map_append,List.sum_append]
 simp[sN]
theorem OA {l:List UInt8} {j:Nat} (h:l.length≤j):sN (l.take j)=sN l:=by rw[List.take_of_length_le h]
def ks3 (n:Nat):ByteArray:=if(n:Int)%3=0 then⟨#[97,110,110]⟩else if(n:Int)%3=1 then⟨#[98,111,98]⟩else⟨#[99,121]⟩
def vs4 (n:Nat):ByteArray:=if(n:Int)%4=0 then⟨#[49]⟩else if(n:Int)%4=1 then⟨#[116,119,111]⟩else if(n:Int)%4=2 then⟨#[0,255]⟩else⟨#[116,119,101,108,118,101,32,98,121,116,101,115]⟩
def GI (x m:Int):Int:=IntKind.i64.wrap ((BitVec.ofInt IntKind.i64.bits x&&&BitVec.ofInt IntKind.i64.bits m).toNat:Int)
def m5 (x:Int):Int:=(x.tmod 5+5)%5
def kU (e:Ed):Ed:=
 if 2<1+m5 e.k then⟨1+m5 e.k,ks3 (sN e.key.data.toList),GI e.l 1,vs4 (sN e.v.data.toList)⟩else⟨1+m5 e.k,ks3 (sN e.key.data.toList),0,⟨#[]⟩⟩
theorem acg (k:Int): -5<k.tmod 5∧k.tmod 5<5:=by
 have h1:=Int.tmod_lt_of_pos k (show(0:Int)<5 by decide)
 have h2:=Int.lt_tmod_of_pos k (show(0:Int)<5 by decide)
 omega
theorem OC (x:Int) (m:Nat) (hm:m≤4294967296):0≤GI x (m:Int)∧GI x (m:Int)≤m:=by
 have h:(BitVec.ofInt 64 x&&&BitVec.ofInt 64 (m:Int)).toNat≤m:=by
  rw[BitVec.toNat_and,BitVec.ofInt_natCast,BitVec.toNat_ofNat]
  exact Nat.le_trans Nat.and_le_right (Nat.mod_le _ _)
 show 0≤IntKind.i64.wrap ((BitVec.ofInt 64 x&&&BitVec.ofInt 64 (m:Int)).toNat:Int)∧IntKind.i64.wrap ((BitVec.ofInt 64 x&&&BitVec.ofInt 64 (m:Int)).toNat:Int)≤m
 rw[IntKind.wrap_i64]
 omega
theorem aaX (x:Int):0≤GI x 16777215∧GI x 16777215≤16777215:=OC x 16777215 (by omega)
theorem YE (x:Int):0≤GI x 1∧GI x 1≤1:=OC x 1 (by omega)
theorem Rm.m3 {a:Int} {K:Int→Prop} (h:0≤a) (h0:a%3=0→K 0) (h1:a%3=1→K 1) (h2:a%3=2→K 2):Rm a 3 K:=by
 refine .pos h (by omega) ?_
 rcases(show a%3=0∨a%3=1∨a%3=2 by omega)with e|e|e
 · rw[e];exact h0 e
 · rw[e];exact h1 e
 · rw[e];exact h2 e
theorem Rm.m4 {a:Int} {K:Int→Prop} (h:0≤a) (h0:a%4=0→K 0) (h1:a%4=1→K 1) (h2:a%4=2→K 2) (h3:a%4=3→K 3):Rm a 4 K:=by
 refine .pos h (by omega) ?_
 rcases(show a%4=0∨a%4=1∨a%4=2∨a%4=3 by omega)with e|e|e|e
 · rw[e];exact h0 e
 · rw[e];exact h1 e
 · rw[e];exact h2 e
 · rw[e];exact h3 e
def ach:List AV:=[.v (.string ⟨#[97,110,110]⟩),.v (.string ⟨#[98,111,98]⟩),.v (.string ⟨#[99,121]⟩)]
def aci:List AV:=[.v (.string ⟨#[49]⟩),.v (.string ⟨#[116,119,111]⟩),.v (.string ⟨#[0,255]⟩),.v (.string ⟨#[116,119,101,108,118,101,32,98,121,116,101,115]⟩)]
def edZ:List AV:=[.v (.int .i64 0),.v (.string ⟨#[]⟩),.v (.int .i64 0),.v (.string ⟨#[]⟩)]
theorem Rk (e:Ed) (hk:e.key.size≤140737488355328) (hv:e.v.size≤140737488355328):aH Tryz.prog 32 [e.av] (kU e).av []:=by
 obtain⟨k,key,l,v⟩:=e
 dsimp only at hk hv
 obtain⟨ht1,ht2⟩:=acg k
 refine K1.E 0x200000400103ff Tryz.func32 ?_
 repeat' ((conv=>whnf);first|refine K1.w ?_|refine K1.u ?_|refine K1.o (id:=13) [(0,none),(1,none),(2,none),(3,none),(4,none),(5,none),(6,none),(7,none),(8,none),(9,none),(10,none),(11,some []),(12,some [9,7,5,4,3,2,1])] [(2,[1]),(3,[2,1]),(4,[3,2,1]),(5,[4,3,2,1]),(8,[7]),(9,[7]),(10,[9,7,5,4,3,2,1]),(11,[]),(12,[9,7,5,4,3,2,1])] ?_|refine K1.z ?_|refine K1.y (fun _=>?_) (fun _=>?_)|fail)
 conv=>whnf
 refine aN.mk {j:Nat//j≤key.size} (fun j=>⟨[(1,.box 0 0),(2,.box 1 0),(3,.box 2 0),(4,.box 3 0),(5,.v (.int .i64 (sN (key.data.toList.take j.1):Int))),(6,.v (.int .i64 (j.1:Int)))],
  [(0,.box 64 [.v (.int .i64 k),.v (.string key),.v (.int .i64 l),.v (.string v)]),(1,.box 64 edZ),(2,.box 120 ach),(3,.box 121 aci)],[],4⟩) (fun j=>key.size-j.1) ⟨0,Nat.zero_le _⟩ _
  (dL.mk' [] _ _ _ rfl ⟨aj,aj,aj,aj,aS.int (by simp[sN]),aS.int rfl,trivial⟩ ⟨aF rfl,aF rfl,aF rfl,aF rfl,trivial⟩ rfl) ?_
 rintro⟨j,hj⟩
 dsimp only
 have hb1:=ET (key.data.toList.take j)
 rw[List.length_take]at hb1
 have hb2:=UInt8.toNat_lt (key.data.toList.getD (j:Int).toNat 0)
 repeat' ((conv=>whnf);first|refine K1.w ?_|refine K1.u ?_|refine K1.o (id:=13) [(0,none),(1,none),(2,none),(3,none),(4,none),(5,none),(6,none),(7,none),(8,none),(9,none),(10,none),(11,some []),(12,some [9,7,5,4,3,2,1])] [(2,[1]),(3,[2,1]),(4,[3,2,1]),(5,[4,3,2,1]),(8,[7]),(9,[7]),(10,[9,7,5,4,3,2,1]),(11,[]),(12,[9,7,5,4,3,2,1])] ?_|refine K1.z ?_|refine K1.y (fun _=>?_) (fun _=>?_)|fail)
 · rename_i hlt
   refine⟨⟨j+1,by omega⟩,_,dL.mk' [] _ _ _ rfl ⟨aj,aj,aj,aj,aS.int ?_,aS.int ?_,trivial⟩ ⟨aF rfl,aF rfl,aF rfl,aF rfl,trivial⟩ rfl, ?_⟩
   · rw[JK (by rw[rH];omega)]
     simp
   · simp
   · show key.size-(j+1)<key.size-j
     omega
 rename_i hge
 have hje:sN (key.data.toList.take j)=sN key.data.toList:=OA (by rw[rH];omega)
 rw[hje]at*
 clear hb2 hge hj hb1 hje
 have hb1:=ET key.data.toList
 rw[rH]at hb1
 conv=>whnf
 refine aN.mk {j:Nat//j≤v.size} (fun j=>⟨[(1,.box 0 0),(2,.box 1 0),(3,.box 2 0),(4,.box 3 0),(5,.v (.int .i64 (sN key.data.toList:Int))),(7,.v (.int .i64 (sN (v.data.toList.take j.1):Int))),(8,.v (.int .i64 (j.1:Int)))],
  [(0,.box 64 [.v (.int .i64 k),.v (.string key),.v (.int .i64 l),.v (.string v)]),(1,.box 64 edZ),(2,.box 120 ach),(3,.box 121 aci)],[],4⟩) (fun j=>v.size-j.1) ⟨0,Nat.zero_le _⟩ _
  (dL.mk' [] _ _ _ rfl ⟨aj,aj,aj,aj,aj,aS.int (by simp[sN]),aS.int rfl,trivial⟩ ⟨aF rfl,aF rfl,aF rfl,aF rfl,trivial⟩ rfl) ?_
 rintro⟨j,hj⟩
 dsimp only
 have hb3:=ET (v.data.toList.take j)
 rw[List.length_take]at hb3
 have hb2:=UInt8.toNat_lt (v.data.toList.getD (j:Int).toNat 0)
 repeat' ((conv=>whnf);first|refine K1.w ?_|refine K1.u ?_|refine Rm.m3 (by omega) (fun _=>?_) (fun _=>?_) (fun _=>?_)|refine Rm.m4 (by omega) (fun _=>?_) (fun _=>?_) (fun _=>?_) (fun _=>?_)|refine Rm.pos (by omega) (by omega) ?_|refine Rm.aeH ?_|refine aJ.dO ?_|refine K1.o (id:=13) [(0,none),(1,none),(2,none),(3,none),(4,none),(5,none),(6,none),(7,none),(8,none),(9,none),(10,none),(11,some []),(12,some [9,7,5,4,3,2,1])] [(2,[1]),(3,[2,1]),(4,[3,2,1]),(5,[4,3,2,1]),(8,[7]),(9,[7]),(10,[9,7,5,4,3,2,1]),(11,[]),(12,[9,7,5,4,3,2,1])] ?_|refine K1.z ?_|refine K1.y (fun _=>?_) (fun _=>?_)|fail)
 · rename_i hlt
   refine⟨⟨j+1,by omega⟩,_,dL.mk' [] _ _ _ rfl ⟨aj,aj,aj,aj,aj,aS.int ?_,aS.int ?_,trivial⟩ ⟨aF rfl,aF rfl,aF rfl,aF rfl,trivial⟩ rfl, ?_⟩
   · rw[JK (by rw[rH];omega)]
     simp
   · simp
   · show v.size-(j+1)<v.size-j
     omega
 all_goals(conv=>whnf)
 all_goals refine bF.mk (aS.of ?_)
 all_goals(rw[OA (show v.data.toList.length≤j by rw[rH];omega)]at*)
 all_goals simp only[kU,ks3,vs4,m5,GI,Ed.av, *,if_true,if_false,Int.reduceEq,Int.one_ne_zero]
theorem Wr.a24 {x:Int} {K:Int→Prop} (h:K (1+GI x 16777215)):Wr (1+IntKind.i64.wrap ((BitVec.ofInt IntKind.i64.bits x&&&BitVec.ofInt IntKind.i64.bits 16777215).toNat:Int)) K .i64:=by
 have:=aaX x
 exact .i64 (show-9223372036854775808≤1+GI x 16777215 by omega) (show 1+GI x 16777215≤9223372036854775807 by omega) h
theorem Rm.m5 {a:Int} {K:Int→Prop} (h:0≤a) (h0:a%5=0→K 0) (h1:a%5=1→K 1) (h2:a%5=2→K 2) (h3:a%5=3→K 3) (h4:a%5=4→K 4):Rm a 5 K:=by
 refine .pos h (by omega) ?_
 rcases(show a%5=0∨a%5=1∨a%5=2∨a%5=3∨a%5=4 by omega)with e|e|e|e|e
 · rw[e];exact h0 e
 · rw[e];exact h1 e
 · rw[e];exact h2 e
 · rw[e];exact h3 e
 · rw[e];exact h4 e
end
section
open Go.Lib
abbrev Str:=List UInt8
theorem LY {a b:Str} (h:a<b):a≤b:=List.le_of_lt h
theorem sO (a:Str): ¬a<a:=List.lt_irrefl a
theorem LZ {a b:Str} (h:a≤b) (hn:a≠b):a<b:=by
 rcases List.le_iff_lt_or_eq.1 h with h|h
 · exact h
 · exact absurd h hn
theorem Ez {a b c:Str} (h:a≤b) (k:b<c):a<c:=List.lt_of_le_of_lt h k
theorem L6 {a b c:Str} (h:a<b) (k:b<c):a<c:=List.lt_of_le_of_lt (LY h) k
def uniq (l:List Str):List Str:=Lib.compact (l.mergeSort fun x y=>decide (x≤y))
theorem rM (d:Array Str) (hs: ∀i j,i≤j→j<d.size→d[i]! ≤d[j]!): ∀m,m≤d.size→(compactUpTo d m).Pairwise (· < ·)∧(∀x∈compactUpTo d m,∃j,j<m∧x=d[j]!)∧ ∀j,j<m→d[j]! ∈compactUpTo d m
  | 0,_=>by
    refine⟨?_,fun x hx=>?_,fun j hj=>absurd hj (Nat.not_lt_zero j)⟩
    · show(compactUpTo d 0).Pairwise _
      exact List.Pairwise.nil
    · exact absurd hx (by show x ∉ ([]:List Str);simp)
  | m + 1,hm=>by
    obtain⟨h1,h2,h3⟩:=rM d hs m (by omega)
    rw[compactUpTo_succ]
    by_cases hk:keeps d m=true
    · rw [if_pos hk]
      refine⟨?_,fun x hx=>?_,fun j hj=>?_⟩
      · refine List.pairwise_append.2 ⟨h1,List.pairwise_singleton _ _,fun x hx y hy=>?_⟩
        rw[List.mem_singleton.1 hy]
        obtain⟨j,hj,rfl⟩:=h2 x hx
        have hne:m=0∨d[m]! ≠d[m-1]! :=of_decide_eq_true hk
        have hne:d[m]! ≠d[m-1]! :=by
         rcases hne with h|h
         · omega
         · exact h
        exact Ez (hs j (m-1) (by omega) (by omega)) (LZ (hs (m-1) m (by omega) (by omega)) fun e=>hne e.symm)
      · rcases List.mem_append.1 hx with hx|hx
        · obtain⟨j,hj,e⟩:=h2 x hx
          exact⟨j,by omega,e⟩
        · exact⟨m,by omega,List.mem_singleton.1 hx⟩
      · rcases Nat.lt_or_ge j m with h|h
        · exact List.mem_append.2 (.inl (h3 j h))
        · obtain rfl:j=m:=by omega
          exact List.mem_append.2 (.inr (List.mem_singleton.2 rfl))
    · rw [if_neg hk,List.append_nil]
      refine⟨h1,fun x hx=>?_,fun j hj=>?_⟩
      · obtain⟨j,hj,e⟩:=h2 x hx
        exact⟨j,by omega,e⟩
      · rcases Nat.lt_or_ge j m with h|h
        · exact h3 j h
        · obtain rfl:j=m:=by omega
          have hk: ¬ (j=0∨d[j]! ≠d[j-1]!):=fun h=>hk (decide_eq_true h)
          have e:d[j]! =d[j-1]! :=Classical.byContradiction fun h=>hk (.inr h)
          rw[e]
          exact h3 (j-1) (by have:j≠0:=fun h=>hk (.inl h);omega)
theorem I9 (l:List Str):(l.mergeSort fun x y=>decide (x≤y)).Pairwise (· ≤ ·):=by
 have tr: ∀a b c:Str,decide (a≤b)=true→decide (b≤c)=true→decide (a≤c)=true:=fun a b c h1 h2=>by simp only[decide_eq_true_eq]at*;exact List.le_trans h1 h2
 have to: ∀a b:Str,(decide (a≤b)||decide (b≤a))=true:=fun a b=>by simp only[Bool.or_eq_true,decide_eq_true_eq];exact List.le_total a b
 exact(List.pairwise_mergeSort tr to l).imp fun h=>of_decide_eq_true h
theorem OD (a:Str):a≤a:=List.le_refl a
theorem iM (l:List Str):(uniq l).Pairwise (· < ·)∧ ∀x,x∈uniq l↔x∈l:=by
 have hp:=I9 l
 have hm: ∀x,x∈(l.mergeSort fun x y=>decide (x≤y))↔x∈l:=fun x=>List.mem_mergeSort
 unfold uniq
 generalize(l.mergeSort fun x y=>decide (x≤y))=s at hp hm
 have hg: ∀i (h:i<s.length),s.toArray[i]! =s[i]:=fun i h=>by simp[h]
 obtain⟨h1,h2,h3⟩:=rM s.toArray (fun i j hij hj=>by
  have hj:j<s.length:=hj
  rw[hg j hj,hg i (by omega)]
  rcases Nat.lt_or_ge i j with h|h
  · exact List.pairwise_iff_getElem.1 hp i j (by omega) hj h
  · obtain rfl:i=j:=by omega
    exact OD _) s.length (Nat.le_refl _)
 refine⟨h1,fun x=>?_⟩
 rw[←hm]
 constructor
 · intro hx
   obtain⟨j,hj,rfl⟩:=h2 x hx
   rw[hg j hj]
   exact List.getElem_mem _
 · intro hx
   obtain⟨j,hj,rfl⟩:=List.getElem_of_mem hx
   have:=h3 j hj
   rw[hg j hj]at this
   exact this
theorem yt: ∀ {a b:List Str},a.Pairwise (· < ·)→b.Pairwise (· < ·)→(∀x,x∈a↔x∈b)→a=b
  |[],[],_,_,_=>rfl
  |[],y::_,_,_,h=>absurd ((h y).2 List.mem_cons_self) (by simp)
  |x::_,[],_,_,h=>absurd ((h x).1 List.mem_cons_self) (by simp)
  | x ::a,y::b,ha,hb,h=>by
    obtain⟨ha1,ha2⟩:=List.pairwise_cons.1 ha
    obtain⟨hb1,hb2⟩:=List.pairwise_cons.1 hb
    have e:x=y:=by
     rcases List.mem_cons.1 ((h x).1 List.mem_cons_self)with e|hx
     · exact e
     · rcases List.mem_cons.1 ((h y).2 List.mem_cons_self)with e|hy
       · exact e.symm
       · exact absurd (L6 (hb1 x hx) (ha1 y hy)) (sO _)
    subst e
    rw[yt ha2 hb2 fun z=>⟨fun hz=>?_,fun hz=>?_⟩]
    · rcases List.mem_cons.1 ((h z).1 (List.mem_cons_of_mem _ hz))with e|h'
      · exact absurd (e▸ha1 z hz) (sO _)
      · exact h'
    · rcases List.mem_cons.1 ((h z).2 (List.mem_cons_of_mem _ hz))with e|h'
      · exact absurd (e▸hb1 z hz) (sO _)
      · exact h'
theorem OE {a b:List Str} (h: ∀x,x∈a↔x∈b):uniq a=uniq b:=
 yt (iM a).1 (iM b).1 fun x=>by rw[(iM a).2,(iM b).2,h]
theorem any_congr {α:Type} {p q:α→Bool}: ∀ {l:List α},(∀x∈l,p x=q x)→l.any p=l.any q
  |[],_=>rfl
  |x::l,h=>by rw[List.any_cons,List.any_cons,h x List.mem_cons_self,any_congr fun y hy=>h y (List.mem_cons_of_mem _ hy)]
end
section
open Go.RowKit
end
section
open Go.ChangeShapes Go.WideShapes Go.ChangeAt Go.RowKit
theorem own:ownKnob Tryz.prog.godebug=none:=by kernel_rfl
theorem laidOut:laidOutB Tryz.prog=true:=by kernel_rfl
section
variable {H:Type} {enc:TypeId×Value→H}
theorem yX {W W':World} (hb:Below W.heap.size W W'): ∀ (ts:List TypeId) (vs:List Value) (ds:List (DataW H)) (ps:List MemPlace),
  (∀t∈ts,Tryz.prog.readableRec t=true∧t<Tryz.prog.types.size)→DataW.TrodAll enc Tryz.prog W 0 (fun _=>true) true ts vs ds ps→(∀x∈ps,x.block<W.heap.size)→
  DataW.TrodAll enc Tryz.prog W' 0 (fun b=>decide (b<W.heap.size)) true ts vs ds ps
  | [],vs,ds,ps,_,h,_=>by
    obtain⟨rfl,rfl,rfl⟩:=trodAll_nil h
    exact trodAll_mk0
  | t::ts,vs,ds,ps,ht,h,hlt=>by
    obtain⟨v,vs',d,ds',p,q,rfl,rfl,rfl,h0,h1⟩:=trodAll_cons h
    have hp:=ht t (by simp)
    exact trodAll_cons_mk (Below.trod laidOut hp.1 hp.2 h0 hb (fun x hx=>hlt x (by simp[hx]))) (yX hb ts vs' ds' q (fun u hu=>ht u (by simp[hu])) h1 (fun x hx=>hlt x (by simp[hx])))
theorem law_lifted (os:Os) (started:os.Started) (f:FuncId) (fn:Func) (s:ChangeSpec) (hvars:s.vars=[]) (noInit:Tryz.prog.inits.idxOf? f=none) (hfn:Tryz.prog.funcs[f]? =some fn)
  (hres:fn.resultTypes= #[4]) (aaY: ∀t∈fn.params.toList,Tryz.prog.readableRec t=true∧t<Tryz.prog.types.size)
  (hspec: ∀ds:List (DataW H),ds.length=fn.params.toList.length→s.fn H ds={results:=[.lit (.bool true)],args:=ds})
  (witness: ∃ (w:World) (tape:Tape) (i:Input),w.os=os∧(w.forCall tape i).Shaped Tryz.checked.prog∧i.vars=[]∧Input.okWide Tryz.checked.prog (w.forCall tape i) .any w.heap.size f i∧
   s.pre6 enc Tryz.checked.prog fn [] false (w.forCall tape i).memory i.args∧({}:Assume).holds Tryz.checked.prog (lone (Frame.enter Tryz.checked.prog f i.args .normal) [] (w.forCall tape i)))
  (walk: ∀ (W:World) (base:Nat) (args:Array Value) (ds:List (DataW H)) (p:List MemPlace),
   (∀ (j:Nat) t v,fn.params[j]? =some t→args[j]? =some v→Value.okWide Tryz.prog W .any base t v)→
   DataW.TrodAll enc Tryz.prog W 0 (fun _=>true) true fn.params.toList args.toList ds p→
   (DataW.weightsEach Tryz.prog fn.params.toList ds).all (· ≤reachBytes)=true→
   Calls Tryz.prog f args W fun e W'=>e= .returned (.bool true)∧Below W.heap.size W W'):
  ReturnsInHanded {} Tryz.checked os f .any (s.pre6 enc Tryz.prog fn [] false) (s.post enc Tryz.prog fn false true false false):=by
 refine returnsInHanded_of_change_sized (C:=Tryz.checked) own started noInit hfn witness ?_
 intro W base args ds gs before hval0 hW _ hsz0 _
 have hval: ∀ (j:Nat) t v,fn.params[j]? =some t→args[j]? =some v→Value.okWide Tryz.prog W .any base t v:=hval0
 have hW':=hW
 have hlt: ∀x∈before,x.block<W.heap.size:=fun x hx=>by simpa using hW'.lt x hx
 obtain⟨p,q,hA0,hV,rfl,hfz,hnd⟩:=hW
 have hA:DataW.TrodAll enc Tryz.prog W 0 (fun _=>true) true fn.params.toList args.toList ds p:=hA0
 rw[hvars]at hV
 obtain⟨rfl,rfl⟩:=trodVars_none hV
 simp only[List.append_nil]at hW' hlt
 have hsz:(DataW.weightsEach Tryz.prog fn.params.toList ds).all (· ≤reachBytes)=true:=by
  have h:(DataW.weightsEach Tryz.prog (fn.params.toList++s.plain.varTypes Tryz.prog) (ds++[])).all (· ≤reachBytes)=true:=hsz0
  have hv:s.plain.varTypes Tryz.prog=[]:=by
   show s.vars.filterMap _=[]
   rw[hvars];rfl
  simpa[hv]using h
 refine(walk W base args ds p hval hA hsz).mono fun e W' ⟨he,bel⟩=>?_
 subst he
 have hlen:ds.length=fn.params.toList.length:=D6 fn.params.toList args.toList ds p hA
 have hsp:=hspec ds hlen
 refine⟨_,rfl,ds,[],p,[],p,[],hW', ?_, ?_, ?_,bel.frame _,fun h=>by cases h⟩
 · rw[List.append_nil,hsp,hres]
   exact trodAll_mk1 (shut_bool Tryz.underlying4 _)
 · rw[List.append_nil,hsp]
   exact yX bel _ _ _ _ aaY hA hlt
 · rw[hvars]
   rw[List.append_nil,hsp]
   rfl
where
 D6 {W:World}: ∀ (ts:List TypeId) (vs:List Value) (ds:List (DataW H)) (ps:List MemPlace),DataW.TrodAll enc Tryz.prog W 0 (fun _=>true) true ts vs ds ps→ds.length=ts.length
   | [],vs,ds,ps,h=>by
     obtain⟨rfl,rfl,rfl⟩:=trodAll_nil h
     rfl
   | t::ts,vs,ds,ps,h=>by
     obtain⟨v,vs',d,ds',p,q,rfl,rfl,rfl,h0,h1⟩:=trodAll_cons h
     simp[D6 ts vs' ds' q h1]
end
abbrev allOf (w:World):Nat→Prop:=fun b=>b<w.heap.size
structure Sh (t:TypeId) (S:List AV→Prop):Prop where
 mk::
 h: ∀ (H:Type) (enc:TypeId×Value→H) (w:World) (spare:Nat→Bool) (held:Bool) (fuel:Nat) (cs:List Value) (x:DataW H×List MemPlace),
  DataW.trod enc Tryz.prog w 0 spare held fuel t cs=some x→(∀n∈x.1.weights Tryz.prog t,n≤reachBytes)→ ∃dn,aI (PC w (allOf w)) dn cs∧S dn
theorem Sh.imp {t:TypeId} {S T:List AV→Prop} (h:Sh t S) (hi: ∀dn,S dn→T dn):Sh t T:=⟨fun _ _ _ _ _ _ _ _ h1 h2=>by
 obtain⟨dn,h3,h4⟩:=h.h _ _ _ _ _ _ _ _ h1 h2
 exact⟨dn,h3,hi dn h4⟩⟩
theorem Rl {t:TypeId} {k:IntKind} (ht:Tryz.prog.underlying t=some (.int k)):Sh t (fun dn=> ∃n:Int,dn=[.v (.int k n)]∧(Lit.int k n).wf=true):=⟨fun _ _ _ _ _ _ _ _ h _=>by
 obtain⟨n,rfl,rfl,hw⟩:=DataW.trod_int ht h
 exact⟨_,aI.cons (PC.v _ rfl) aI.nil,n,rfl,hw⟩⟩
theorem JL {t:TypeId} (ht:Tryz.prog.underlying t=some .string):Sh t (fun dn=> ∃s:ByteArray,dn=[.v (.string s)]∧s.size≤140737488355328):=⟨fun _ _ _ _ _ _ _ _ h hw=>by
 obtain⟨s,rfl,rfl,_⟩:=DataW.trod_string ht h
 refine⟨_,aI.cons (PC.v _ rfl) aI.nil,s,rfl, ?_⟩
 have:=hw s.size (by simp[DataW.weights])
 have hr:reachBytes≤140737488355328:=by decide
 omega⟩
def Cat:List (List AV→Prop)→List AV→Prop
  |[],dn=>dn=[]
  |S::Ss,dn=> ∃a b,dn=a++b∧S a∧Cat Ss b
def L8:Nat→List Field→Nat→Prop
  |o,[],m=>o=m
  |o,f::fs,m=>f.offset=o∧L8 (o+Tryz.prog.cellsOf f.type) fs m
def EU (c:TypeId→Nat):Nat→List Field→Nat→Bool
  |o,[],m=>Nat.beq o m
  |o,f::fs,m=>Nat.beq f.offset o&&EU c (o+c f.type) fs m
theorem JM: ∀ {o:Nat} {fs:List Field} {m:Nat},EU Tryz.prog.cellsOf o fs m=true→L8 o fs m
  |_,[],_,h=>Nat.eq_of_beq_eq_true h
  | _,_::_,_,h=>by
    simp only[EU,Bool.and_eq_true]at h
    exact⟨Nat.eq_of_beq_eq_true h.1,JM h.2⟩
inductive ShL:List TypeId→List (List AV→Prop)→Prop where
  |nil:ShL [] []
  |cons {t:TypeId} {S:List AV→Prop} {ts:List TypeId} {Ss:List (List AV→Prop)} (h:Sh t S) (hs:ShL ts Ss):ShL (t::ts) (S::Ss)
theorem JO {H:Type} {enc:TypeId×Value→H} {w:World} {spare:Nat→Bool} {held:Bool} {fuel:Nat} {cs:List Value}: ∀ (fs:List Field) (xs:List (DataW H×List MemPlace)) (Ss:List (List AV→Prop)) (o:Nat),L8 o fs cs.length→xs.length=fs.length→
  (∀ (i:Nat) (f:Field),fs[i]? =some f→DataW.trod enc Tryz.prog w 0 spare held fuel f.type ((cs.drop f.offset).take (Tryz.prog.cellsOf f.type))=xs[i]?)→ShL (fs.map (·.type)) Ss→(∀n∈DataW.weightsEach Tryz.prog (fs.map (·.type)) (xs.map (·.1)),n≤reachBytes)→
  ∃dn,aI (PC w (allOf w)) dn (cs.drop o)∧Cat Ss dn
  | [],xs,Ss,o,hc,hl,_,hs,_=>by
    cases hs
    refine⟨[], ?_,rfl⟩
    rw[List.drop_eq_nil_of_le (by simp only[L8]at hc;omega)]
    exact aI.nil
  | f :: fs,xs,_,o,hc,hl,hg,hs,hw=>by
    cases hs with
    | cons hS hs'=>
      cases xs with
      |nil=>simp at hl
      | cons x xs=>
        obtain⟨ho,hc'⟩:=hc
        have g0:=hg 0 f rfl
        rw[ho]at g0
        simp only[List.map_cons,DataW.weightsEach,List.mem_append]at hw
        obtain⟨a,ha,hSa⟩:=hS.h _ _ _ _ _ _ _ _ g0 (fun n hn=>hw n (.inl hn))
        obtain⟨b,hb,hSb⟩:=JO fs xs _ (o+Tryz.prog.cellsOf f.type) hc' (by simpa using hl) (fun i g hi=>hg (i+1) g (by simpa using hi)) hs' (fun n hn=>hw n (.inr hn))
        refine⟨a++b, ?_,a,b,rfl,hSa,hSb⟩
        have e:cs.drop o=(cs.drop o).take (Tryz.prog.cellsOf f.type)++cs.drop (o+Tryz.prog.cellsOf f.type):=by
         rw[←List.drop_drop,List.take_append_drop]
        rw[e]
        exact aI.app ha hb
theorem Vq {t:TypeId} {fs:Array Field} {Ss:List (List AV→Prop)} (ht:Tryz.prog.underlying t=some (.struct fs)) (hc0:EU Tryz.prog.cellsOf 0 fs.toList (Tryz.prog.cellsOf t)=true) {ts:List TypeId} (hts:fs.toList.map (·.type)=ts) (hs:ShL ts Ss):Sh t (Cat Ss):=⟨fun _ _ _ _ _ _ _ _ h hw=>by
 subst hts
 have hc:=JM hc0
 obtain⟨xs,m,_,rfl,hlen,hxl,hg⟩:=DataW.trod_struct ht h
 rw[←hlen]at hc
 obtain⟨dn,h1,h2⟩:=JO fs.toList xs Ss 0 hc (by simpa using hxl) (fun i f hf=>hg i f (by simpa using hf)) hs (by simpa[DataW.weights,ht]using hw)
 exact⟨dn,by simpa using h1,h2⟩⟩
theorem YF {w:World} {a:Addr} {s:Nat} {cs:List Value} (h:w.cells? 0 a s=some cs):cs.length=s∧ ∀i,i<s→w.cell? (a.add i)=cs[i]? :=by
 unfold World.cells? at h
 rw[if_pos (Nat.zero_le _)]at h
 refine⟨by simpa using mapM_some_length h,fun i hi=>mapM_some_get h i i (by simp[hi])⟩
theorem add_add (a:Addr) (i j:Nat):(a.add i).add j=a.add (i+j):=by
 unfold Addr.add
 by_cases hi:i=0
 · subst hi;simp
 · by_cases hj:j=0
   · subst hj;simp[hi]
   · simp[hi,hj,Nat.add_assoc]
theorem add_lit {b o j:Nat}:(⟨b,o,none⟩:Addr).add j=⟨b,o+j,none⟩:=by
 unfold Addr.add
 split
 · rename_i h;subst h;rfl
 · rfl
theorem OG {α:Type} [Inhabited α] (c:α→List AV): ∀l:List α,flat l.length (qX c l)=l.flatMap c
  |[]=>rfl
  | a::l=>by
    show qX c (a::l) 0++flat l.length (fun i=>qX c (a::l) (i+1))=_
    rw[List.flatMap_cons,←OG c l]
    rfl
theorem YG {t e:TypeId} {s:Nat} {α:Type} [Inhabited α] {c:α→List AV} {good:α→Prop} (sc:Bool) (ht:Tryz.prog.underlying t=some (.slice e)) (he:Tryz.prog.cellsOf e=s) (hs0:0<s) (hb:0<Tryz.prog.bytesOf e) (hlen: ∀a,(c a).length=s) (hsc:sc=true→ ∀a,∀x∈c a,∃y,x= .v y)
  (hs:Sh e (fun dn=> ∃a,dn=c a∧good a)):Sh t (fun dn=> ∃l:List α,dn=[.sl s l.length sc (qX c l)]∧(∀a∈l,good a)∧l.length≤140737488355328):=by
 refine⟨fun H enc w spare held fuel cs x h hw=>?_⟩
 rcases DataW.trod_slice ht h with⟨rfl,rfl⟩|⟨a,len,cap,elems,rest,n,_,rfl,rfl,_,hlc,hcm,hel,hg,_,_⟩
 · refine⟨[.sl s 0 sc (qX c [])],aI.cons (.sl s 0 sc _ none 0 [] hs0 (Nat.le_refl _) (Nat.zero_le _) (by simp) (fun i hi=>absurd hi (Nat.not_lt_zero _)) (fun _ x hx=>by simp[flat]at hx) (fun i x u hx=>by simp[flat]at hx) (.inl rfl)) aI.nil,[],rfl,(fun a ha=>by cases ha),Nat.zero_le _⟩
 · rw [he] at hg
   simp only[DataW.weights,ht]at hw
   have hwb:=hw ((elems.length+rest.length)*Tryz.prog.bytesOf e) (by simp)
   have hr:reachBytes≤140737488355328:=by decide
   have hlm:elems.length≤140737488355328:=by
    have:elems.length*1≤(elems.length+rest.length)*Tryz.prog.bytesOf e:=Nat.mul_le_mul (Nat.le_add_right _ _) hb
    omega
   have hwe: ∀n∈DataW.weightsAll Tryz.prog e (elems.map (·.1)),n≤reachBytes:=fun n hn=>hw n (by simp only[List.mem_cons,List.mem_append]at hn⊢;simp[hn])
   have main: ∀ (k o:Nat) (elems:List (DataW H×List MemPlace)),elems.length=k→(∀i,i<k→(w.cells? 0 (a.add ((o+i)*s)) s).bind (DataW.trod enc Tryz.prog w 0 spare held n e)=elems[i]?)→(∀n∈DataW.weightsAll Tryz.prog e (elems.map (·.1)),n≤reachBytes)→
     ∃ (l:List α) (us:List Value),l.length=k∧us.length=k*s∧(∀a∈l,good a)∧aI (PC w (allOf w)) (l.flatMap c) us∧ ∀ (j:Nat) (u:Value),us[j]? =some u→w.cell? (a.add (o*s+j))=some u:=by
    intro k
    induction k with
    |zero=>intro o elems _ _ _;exact⟨[],[],rfl,by simp,(fun a ha=>by cases ha),aI.nil,fun j u hj=>by simp at hj⟩
    | succ k ih=>
      intro o elems hl hg hw
      cases elems with
      |nil=>simp at hl
      | cons x xs=>
        simp only[List.map_cons,DataW.weightsAll,List.mem_append]at hw
        obtain⟨l,us,h1,h2,h3,h4,h5⟩:=ih (o+1) xs (by simpa using hl) (fun i hi=>by have:=hg (i+1) (by omega);rw[show o+1+i=o+(i+1) by omega];simpa using this) (fun n hn=>hw n (.inr hn))
        have g0:=hg 0 (by omega)
        simp only[Nat.add_zero,List.getElem?_cons_zero,Option.bind_eq_some_iff]at g0
        obtain⟨ds,hd1,hd2⟩:=g0
        obtain⟨dn,ha,a0,rfl,hg0⟩:=hs.h _ _ _ _ _ _ _ _ hd2 (fun n hn=>hw n (.inl hn))
        obtain⟨hdl,hdc⟩:=YF hd1
        refine⟨a0::l,ds++us,by simp[h1],by simp[hdl,h2,Nat.add_mul,Nat.add_comm], ?_,by simpa using aI.app ha h4,fun j u hj=>?_⟩
        · intro a ha
          rcases List.mem_cons.1 ha with rfl|ha
          · exact hg0
          · exact h3 a ha
        · by_cases hjs:j<s
          · rw[List.getElem?_append_left (by omega)]at hj
            have:=hdc j hjs
            rw[hj]at this
            rw[←this,←add_add a]
          · rw[List.getElem?_append_right (by omega),hdl]at hj
            have:=h5 _ _ hj
            rw[←this,show(o+1)*s+(j-s)=o*s+j by rw[Nat.add_mul];omega]
   obtain⟨l,us,h1,h2,h3,h4,h5⟩:=main elems.length 0 elems rfl (fun i hi=>by simpa using hg i (by omega)) hwe
   have hfl:flat len (qX c l)=l.flatMap c:=by
    rw[←hel,←h1]
    exact OG c l
   refine⟨[.sl s len sc (qX c l)],aI.cons (.sl s len sc _ (some a) cap us hs0 hlc hcm (by rw[h2,hel]) (fun i _=>hlen _) (fun aeN x hx=>?_) (fun i x u hx hu=>?_) ?_) aI.nil,l,by rw[h1,hel],h3,by omega⟩
   · rw[hfl]at hx
     obtain⟨a0,_,hx⟩:=List.mem_flatMap.1 hx
     exact hsc aeN a0 x hx
   · rw[hfl]at hx
     exact h4.2 i x u hx hu
   · by_cases h0:len=0
     · exact .inl h0
     · obtain⟨b,o,sp⟩:=a
       have hpos:0<us.length:=by rw[h2,hel];exact Nat.mul_pos (by omega) hs0
       have c0:=h5 0 _ (List.getElem?_eq_getElem hpos)
       have hsp:sp=none:=by simpa[Addr.add]using World.cell?_spot c0
       subst hsp
       refine .inr ⟨b,o,rfl, ?_,fun j u hj=>?_⟩
       · rcases Nat.lt_or_ge b w.heap.size with h|h
         · exact h
         · exfalso
           unfold World.cell? at c0
           rw[Array.getElem?_eq_none (by simpa[Addr.add]using h)]at c0
           cases c0
       · have:=h5 j u hj
         rw[Nat.zero_mul,Nat.zero_add]at this
         rw[←this,add_lit]
section
variable {H:Type} {enc:TypeId×Value→H} {w:World} {spare:Nat→Bool} {held:Bool} {v:Value} {d:DataW H} {p:List MemPlace} {r:Reach} {b0:Nat}
theorem TY {t:TypeId} {S:List AV→Prop} (hs:Sh t S) (h1: ∀dn,S dn→dn.length=1) (h:DataW.Trod enc Tryz.prog w 0 spare held t v d p) (hw: ∀n∈d.weights Tryz.prog t,n≤reachBytes) (hv:v.cells.toList=[v]): ∃x,S [x]∧C1 ⟨w,allOf w,fun _=>undef⟩ x v:=by
 obtain⟨fuel,hf⟩:=h
 obtain⟨dn,ha,hS⟩:=hs.h _ _ _ _ _ _ _ _ hf hw
 match dn,h1 dn hS with
 | [x],_=>
   rw[hv]at ha
   exact⟨x,hS,C1.sZ (C0.Qq (X:=⟨w,allOf w,fun _=>undef⟩) (ha.2 0 x v rfl rfl))⟩
end
theorem zH {H:Type} {ts:List TypeId} {ds:List (DataW H)} (h:(DataW.weightsEach Tryz.prog ts ds).all (· ≤reachBytes)=true) {j:Nat} {t:TypeId} {d:DataW H} (ht:ts[j]? =some t) (hd:ds[j]? =some d):
  ∀n∈d.weights Tryz.prog t,n≤reachBytes:=fun n hn=>by
 simpa using List.all_eq_true.1 h _ (DataW.weights_mem_each ht hd n hn)
theorem aaZ {f:FuncId} {dn:List AV} (h:aH Tryz.prog f dn (.v (.bool true)) []) {W:World} {args:List Value} (ha:aI (C1 ⟨W,allOf W,fun _=>undef⟩) dn args):
  Calls Tryz.prog f args.toArray W fun e W'=>e= .returned (.bool true)∧Below W.heap.size W W':=
 (h.2 W (allOf W) args (fun _ hb=>hb) ha).mono fun e W' ⟨u,ρ,h1,h2,h3,_⟩=>⟨by rw[h1,show u= .bool true from h3],h2⟩
end
section
open Go.ChangeShapes Go.WideShapes Go.ChangeAt Go.RowKit
def Ev.rng (e:Ev):Prop:=e.key.size≤140737488355328∧e.v.size≤140737488355328
section
variable {H:Type} {enc:TypeId×Value→H} {w:World} {spare:Nat→Bool} {held:Bool} {v:Value} {d:DataW H} {p:List MemPlace} {r:Reach} {b0:Nat}
end
end
end Go.Proofs.YtimhagicagdkfaaGreat
