/-
  Contracts of the walk:BkS,BkL,BkF,BkG,EvM.
-/
import Derived.Test.YtimhagicagdkfaaGreatNh6
import Derived.Test.YtimhagicagdkfaaGreatNh7
import Derived.Lib.RowBridge
import Derived.Laws.StructEq
import Derived.Laws.Cover2
set_option maxHeartbeats 16000000
set_option maxRecDepth 100000
set_option linter.unusedVariables false
set_option linter.unusedSimpArgs false
namespace Go.Proofs.YtimhagicagdkfaaGreat
section
open Go.RowKit Go.Sort
def iC (l:List (List UInt8)):Nat→List AV:=fun i=>[.v (encStr (l.getD i []))]
def sortL (l:List (List UInt8)):List (List UInt8):=l.mergeSort fun x y=>decide (x≤y)
theorem wJ: ∀l:List (List UInt8),flat l.length (iC l)=l.map fun x=>AV.v (encStr x)
  |[]=>rfl
  | x::l=>by
    show [AV.v (encStr x)]++flat l.length (iC l)=_
    rw[wJ l]
    rfl
theorem aeI {w:World} {keep:Nat→Prop} {x u:Value} (h:PC w keep (.v x) u):u=x:=by cases h;rfl
theorem Yv {w:World} {keep:Nat→Prop} {l:List (List UInt8)} {us:List Value} (h:aI (PC w keep) (flat l.length (iC l)) us):us=l.map encStr:=by
 rw[wJ]at h
 apply List.ext_getElem?
 intro i
 rcases Nat.lt_or_ge i us.length with hi|hi
 · have hl:i<l.length:=by have:=h.1;rw[List.length_map]at this;omega
   have h2:=h.2 i (.v (encStr l[i])) us[i] (by rw[List.getElem?_map,List.getElem?_eq_getElem hl];rfl) (List.getElem?_eq_getElem hi)
   rw[List.getElem?_eq_getElem hi,List.getElem?_map,List.getElem?_eq_getElem hl,aeI h2]
   rfl
 · have hl:l.length≤i:=by have:=h.1;rw[List.length_map]at this;omega
   rw[List.getElem?_eq_none hi,List.getElem?_eq_none (by rw[List.length_map];exact hl)]
theorem Yw {w:World} {keep:Nat→Prop} (l:List (List UInt8)):aI (PC w keep) (flat l.length (iC l)) (l.map encStr):=by
 rw[wJ]
 refine⟨by simp,fun i x u hx hu=>?_⟩
 rw[List.getElem?_map]at hx hu
 cases hl:l[i]? with
 |none=>rw[hl]at hx;cases hx
 | some y=>
   rw[hl]at hx hu
   simp only[Option.map_some,Option.some.injEq]at hx hu
   subst hx hu
   exact .v _ rfl
theorem TS {w:World} {keep:Nat→Prop} {ρ:Nat→Value} {id g cap:Nat} {cur:Array Value} (l:List (List UInt8)) (hv:ρ id= .slice (some ⟨g,0,none⟩) l.length cap) (hg:w.heap[g]? =some (.cells cur 9 (0,0))) (h1:l.length≤cap) (h2:cap≤maxLen) (h3:cur.size=cap) (h4:cur.toList.take l.length=l.map encStr):
  bn ⟨w,keep,ρ⟩ id (.row 9 1 l.length true (iC l)):=by
 refine⟨l.map encStr,⟨by simp,.inr ⟨g,cap,cur,hv,Nat.zero_le _,hg,h1,h2,by omega,by rw[Nat.mul_one];exact h4⟩⟩,by omega,fun _ _=>rfl,fun _ x hx=>?_,Yw l⟩
 rw[wJ]at hx
 obtain⟨y,_,rfl⟩:=List.mem_map.1 hx
 exact⟨_,rfl⟩
theorem Ox {α:Type} [Inhabited α] (enc:α→Value) (w:World) (n g:Nat) (d:Array α) (os:Array Obj) {cur:Array Value} {e:TypeId} (h:w.heap[g]? =some (.cells cur e (0,0))):
  w.heap.size≤(grow (putRow enc (Go.Sort.ahead w n) g 0 d) os).heap.size∧(∀k,k<w.heap.size→k≠g→(grow (putRow enc (Go.Sort.ahead w n) g 0 d) os).heap[k]? =w.heap[k]?)∧(grow (putRow enc (Go.Sort.ahead w n) g 0 d) os).heap[g]? =some (.cells (putCells enc 0 d cur) e (0,0)):=by
 have hlt:g<w.heap.size:=by
  rcases Nat.lt_or_ge g w.heap.size with h'|h'
  · exact h'
  · rw[Array.getElem?_eq_none h']at h;cases h
 refine⟨by simp[grow,putRow,mapBlock,Go.Sort.ahead],fun k hk hne=>?_, ?_⟩
 · simp only[grow,putRow,mapBlock,Go.Sort.ahead]
   rw[Array.getElem?_append_left (by rw[Array.size_modify];exact hk),Array.getElem?_modify,if_neg (fun e=>hne e.symm)]
 · simp only[grow,putRow,mapBlock,Go.Sort.ahead]
   rw[Array.getElem?_append_left (by rw[Array.size_modify];exact hlt),Array.getElem?_modify,if_pos rfl,h]
   rfl
theorem Oy (d:List (List UInt8)) (cur:Array Value) (n:Nat) (h:d.length≤cur.size) (hn:n≤d.length):(putCells encStr 0 d.toArray cur).toList.take n=(d.take n).map encStr:=by
 apply List.ext_getElem?
 intro i
 rw[List.getElem?_take,List.getElem?_map,List.getElem?_take]
 by_cases hi:i<n
 · rw[if_pos hi,if_pos hi]
   have hc:i<cur.size:=by omega
   have hd:i<d.length:=by omega
   rw[Array.getElem?_toList]
   simp only[putCells,Array.getElem?_mapIdx,Array.getElem?_eq_getElem hc,Option.map_some]
   rw[if_pos (by simp;omega),List.getElem?_eq_getElem hd]
   simp[hd]
 · rw[if_neg hi,if_neg hi]
   rfl
theorem JH {w:World} {g:Nat} {cur:Array Value} {e:TypeId} (l:List (List UInt8)) (hg:w.heap[g]? =some (.cells cur e (0,0))) (h:cur.toList.take l.length=l.map encStr):Holds encStr w g 0 l.toArray:=by
 intro j hj
 have hj:j<l.length:=hj
 have hc:cur[j]? =some (encStr l[j]):=by
  have:=congrArg (·[j]?) h
  simp only[List.getElem?_take,List.getElem?_map,List.getElem?_eq_getElem hj,if_pos hj,Option.map_some,Array.getElem?_toList]at this
  exact this
 constructor
 · simp[World.cell?,hg,hc,hj]
 · simp[World.frozen?,hg]
theorem uM (l:List (List UInt8)) (hl:l.length≤1000000000):
  aV Tryz.prog 120 [(0,.row 9 1 l.length true (iC l))] [.own 0] (.dF []) [(0,.row 9 1 l.length true (iC (sortL l)))]:=by
 refine⟨⟨_,_,Tryz.func120,rfl,rfl⟩,fun w keep ρ args hk lK hnd hbl hargs=>?_⟩
 have hso:(sortL l).length=l.length:=List.length_mergeSort ..
 obtain⟨us,hown,_,_,_,ha⟩:=lK _ (List.mem_singleton.2 rfl)
 have hus:=Yv ha
 subst hus
 obtain⟨u,rfl,hu⟩:=rF hargs
 have hu:u=ρ 0:=Eq.trans (show u=eP (ρ 0)from hu) (gu hown)
 subst hu
 rcases hown.2 with⟨hv,hn⟩|⟨g,cap,cur,hv,_,hg,hncap,hcm,hcs,htk⟩
 · have hnil:l=[]:=List.eq_nil_of_length_eq_zero hn
   subst hnil
   have hc:=Tryz.slices_Sort_string_none none 0 w
   rw[show(ρ 0)= .slice none 0 0 from hv]
   refine hc.mono ?_
   rintro e w' ⟨rfl,rfl⟩
   refine⟨_,ρ,rfl,fM.refl _ _ _,fun _ _ _ _ _=> .refl _,⟨[],rfl,aI.nil⟩,fun p hp=>?_,hnd,fun b hb=> .inr hb⟩
   obtain rfl:=List.mem_singleton.1 hp
   exact⟨[],⟨rfl,.inl ⟨hv,rfl⟩⟩,by omega,fun i hi=>absurd hi (Nat.not_lt_zero i),fun _ x hx=>absurd hx (by simp[flat]),aI.nil⟩
 · have hlt:g<w.heap.size:=by
    rcases Nat.lt_or_ge g w.heap.size with h'|h'
    · exact h'
    · rw[Array.getElem?_eq_none h']at hg;cases hg
   rw[Nat.mul_one]at htk hcs
   have hc:=Tryz.slices_Sort_string g 0 cap l w (JH l hg htk) hlt (by omega)
   rw[show(ρ 0)= .slice (some ⟨g,0,none⟩) l.length cap from hv]
   refine hc.mono ?_
   rintro e w' ⟨rfl,n,os,rfl⟩
   obtain⟨h1,h2,h3⟩:=Ox encStr w n g (sortL l).toArray os hg
   have hb:g∈ah ρ [(0,AO.row 9 1 l.length true (iC l))]:=aQ.2 ⟨_,List.mem_singleton.2 rfl,by rw[show ρ 0= .slice (some ⟨g,0,none⟩) l.length cap from hv];exact List.mem_cons_self⟩
   refine⟨_,ρ,rfl,⟨rfl,rfl,rfl,h1,fun k hk hM=>h2 k hk (by rintro rfl;exact hM hb)⟩,fun _ _ _ _ _=> .refl _,⟨[],rfl,aI.nil⟩,fun p hp=>?_,hnd,fun b hb=> .inr hb⟩
   obtain rfl:=List.mem_singleton.1 hp
   have:=TS (w:=grow (putRow encStr (Go.Sort.ahead w n) g 0 (sortL l).toArray) os) (keep:=(aC (gU w keep (fun b=>b∈ah ρ [(0,AO.row 9 1 l.length true (iC l))])) (grow (putRow encStr (Go.Sort.ahead w n) g 0 (sortL l).toArray) os) ρ [(0,AO.row 9 1 l.length true (iC (sortL l)))]).keep) (ρ:=ρ) (id:=0) (sortL l) (by rw[hso];exact hv) h3 (by omega) hcm (by simp[putCells];exact hcs) (by rw[Oy _ _ _ (by omega) (Nat.le_refl _),List.take_length])
   rw[hso]at this
   exact this
theorem uN (l:List (List UInt8)):(Lib.compact l).length≤l.length:=Lib.compact_length_le l
theorem oL (l:List (List UInt8)) (hl:l.length≤1000000000):
  aV Tryz.prog 124 [(0,.row 9 1 l.length true (iC l))] [.own 0] (.own 1) [(1,.row 9 1 (Lib.compact l).length true (iC (Lib.compact l)))]:=by
 refine⟨⟨_,_,Tryz.func124,rfl,rfl⟩,fun w keep ρ args hk lK hnd hbl hargs=>?_⟩
 have hle:=uN l
 obtain⟨us,hown,_,_,_,ha⟩:=lK _ (List.mem_singleton.2 rfl)
 have hus:=Yv ha
 subst hus
 obtain⟨u,rfl,hu⟩:=rF hargs
 have hu:u=ρ 0:=Eq.trans (show u=eP (ρ 0)from hu) (gu hown)
 subst hu
 rcases hown.2 with⟨hv,hn⟩|⟨g,cap,cur,hv,_,hg,hncap,hcm,hcs,htk⟩
 · have hnil:l=[]:=List.eq_nil_of_length_eq_zero hn
   subst hnil
   have hc:=Tryz.slices_Compact_string_empty none 0 w
   rw[show(ρ 0)= .slice none 0 0 from hv]
   refine hc.mono ?_
   rintro e w' ⟨rfl,rfl⟩
   let ρ':Nat→Value:=fun _=> .slice none 0 0
   refine⟨_,ρ',rfl,fM.refl _ _ _,fun p hp q hq h=>?_,rfl,fun p hp=>?_, ?_, ?_⟩
   · obtain rfl:=List.mem_singleton.1 hp
     obtain rfl:=List.mem_singleton.1 hq
     cases h
   · obtain rfl:=List.mem_singleton.1 hp
     exact⟨[],⟨rfl,.inl ⟨rfl,rfl⟩⟩,by omega,fun i hi=>absurd hi (Nat.not_lt_zero i),fun _ x hx=>absurd hx (by rw[show Lib.compact ([]:List (List UInt8))=[]from rfl];simp[flat]),aI.nil⟩
   · simp[ah,ρ',blks,jm]
   · intro b hb
     simp[ah,ρ',blks,jm]at hb
 · have hlt:g<w.heap.size:=by
    rcases Nat.lt_or_ge g w.heap.size with h'|h'
    · exact h'
    · rw[Array.getElem?_eq_none h']at hg;cases hg
   rw[Nat.mul_one]at htk hcs
   have hc:=Tryz.slices_Compact_string g 0 cap l w (JH l hg htk) (by omega) hncap
   rw[show(ρ 0)= .slice (some ⟨g,0,none⟩) l.length cap from hv]
   refine hc.mono ?_
   rintro e w' ⟨rfl,n,rfl⟩
   obtain⟨d,hd⟩: ∃d,d=Lib.compact l++List.replicate (l.length-(Lib.compact l).length) []:=⟨_,rfl⟩
   have hdl:d.length=l.length:=by rw[hd,List.length_append,List.length_replicate];omega
   rw[←hd]
   obtain⟨h1,h2,h3⟩:=Ox encStr w n g d.toArray #[] hg
   rw[grow_empty]at h1 h2 h3
   have hb:g∈ah ρ [(0,AO.row 9 1 l.length true (iC l))]:=aQ.2 ⟨_,List.mem_singleton.2 rfl,by rw[show ρ 0= .slice (some ⟨g,0,none⟩) l.length cap from hv];exact List.mem_cons_self⟩
   let ρ':Nat→Value:=fun _=> .slice (some ⟨g,0,none⟩) (Lib.compact l).length cap
   refine⟨_,ρ',rfl,⟨rfl,rfl,rfl,h1,fun k hk hM=>h2 k hk (by rintro rfl;exact hM hb)⟩,fun p hp q hq h=>?_,rfl,fun p hp=>?_, ?_, ?_⟩
   · obtain rfl:=List.mem_singleton.1 hp
     obtain rfl:=List.mem_singleton.1 hq
     cases h
   · obtain rfl:=List.mem_singleton.1 hp
     exact TS (Lib.compact l) rfl h3 (by omega) hcm (by simp[putCells];exact hcs) (by rw[Oy _ _ _ (by omega) (by omega),hd,List.take_left])
   · simp[ah,ρ',blks,jm]
   · intro b hbm
     have:b=g:=by simpa[ah,ρ',blks,jm]using hbm
     subst this
     exact .inr hb
end
section
open Go.RowKit
abbrev St:=Int×Int
def stV (a:St):List Value:=[.int .i64 a.1,.int .i64 a.2]
def TT (a:St):List AV:=[.v (.int .i64 a.1),.v (.int .i64 a.2)]
abbrev LV (l:List St):Nat→List AV:=qX TT l
def jR (a b:St):Bool:=if a.1=b.1 then decide (a.2<b.2)else decide (a.1<b.1)
def pY (m:St) (l:List St):St:=l.foldl (fun m s=>if jR m s=true then s else m) m
def Ba (l:List St):Nat:=l.findIdx fun s=>decide (s=pY (l.getD 0 default) l)
theorem TU: ∀ (l:List St) (m:St),pY m l=m∨pY m l∈l
  |[],_=> .inl rfl
  | x ::l,m=>by
    show pY (if jR m x=true then x else m) l=m∨_
    rcases TU l (if jR m x=true then x else m)with h|h
    · split at h
      · rename_i hx
        exact .inr (by show pY (if jR m x=true then x else m) l∈_;rw[if_pos hx,h];exact List.mem_cons_self)
      · rename_i hx
        exact .inl (by rw[if_neg hx];exact h)
    · exact .inr (List.mem_cons_of_mem _ h)
theorem Bc {l:List St} (h:l≠[]):Ba l<l.length:=by
 have hm:pY (l.getD 0 default) l∈l:=by
  rcases TU l (l.getD 0 default)with h'|h'
  · rw[h']
    cases l with
    |nil=>exact absurd rfl h
    |cons x l=>exact List.mem_cons_self
  · exact h'
 exact List.findIdx_lt_length_of_exists ⟨_,hm,by simp⟩
theorem Yx {m:St} {l:List St} {j:Nat} (hj:j<l.length):pY m (l.take (j+1))=if jR (pY m (l.take j)) (l.getD j default)=true then l.getD j default else pY m (l.take j):=by
 unfold pY
 rw[List.take_add_one,List.getElem?_eq_getElem hj,List.foldl_append,List.getD,List.getElem?_eq_getElem hj]
 rfl
theorem Yy:Tryz.prog.eqGuardType Tryz.prog.depth 219=false:=by kernel_rfl
theorem aaU (a b:St) (w:World):(Op.equalIn 10000 219 (.agg (stV a).toArray) (.agg (stV b).toArray)).run Tryz.prog w= .ok (decide (a.1=b.1∧a.2=b.2)) w:=by
 have hS:Tryz.prog.underlying 219=some (.struct (Tryz.prog.fieldsOf 219)):=by kernel_rfl
 have u3:=Tryz.underlying3
 have a3:=Tryz.isAgg3
 have z3:=Tryz.sizeOf3
 rw[show(10000:Nat)=9999+1 from rfl,run_equalIn_agg w 9999 219 _ _ hS (by kernel_rfl)]
 simp only[Program.fieldsOf,Tryz.underlying219]
 unfold stV
 go_simp
 repeat' split
 all_goals simp_all
theorem ad1 (a b:St):KO Tryz.prog 219 (stV a) (stV b) (a=b):=
 ⟨Yy,fun w=>⟨_,by rw[decide_eq_true_eq];exact⟨fun h=>Prod.ext h.1 h.2,fun h=>by rw[h];exact⟨rfl,rfl⟩⟩,aaU a b w⟩⟩
theorem Vm (a b:St):aH Tryz.prog 183 [.agg (TT a),.agg (TT b)] (.v (.bool (jR a b))) []:=by
 dsimp only[TT]
 refine K1.E 0x21f Tryz.func183 ?_
 repeat' ((conv=>whnf);first|refine K1.w ?_|refine K1.a ?_|refine K1.b ?_|refine K1.d ?_|refine aJ.dO ?_|refine K1.z ?_|refine K1.q ?_|refine K1.bt ?_|refine K1.bf ?_|refine K1.y (fun _=>?_) (fun _=>?_)|refine iH.dec (fun _=>?_) (fun _=>?_)|refine iH.mk (fun _=>?_) (fun _=>?_))
 all_goals(conv=>whnf)
 all_goals(refine bF.mk (aS.of ?_))
 all_goals simp[jR, *]
theorem CZ (l:List St) (hne:l≠[]) (hl:l.length≤1000000000):aH Tryz.prog 152 [.sl 2 l.length true (LV l)] (.v (.int .i64 (Ba l:Int))) []:=by
 have hpos:0<l.length:=List.length_pos_iff.2 hne
 refine K1.E 0x41e43c4ed Tryz.func152 ?_
 repeat' ((conv=>whnf);first|refine K1.w ?_|refine K1.u ?_|refine aJ.dO ?_|refine K1.z ?_|refine K1.y (fun _=>?_) (fun _=>?_)|fail)
 conv=>whnf
 refine aN.mk {j:Nat//j≤l.length} (fun j=>⟨[(0,.sl 2 l.length true (LV l)),(3,.box 0 0),(14,.sl 2 l.length true (LV l)),(15,.v (.int .i64 (l.length:Int))),(16,.v (.int .i64 (j.1:Int)))],
   [(0,.box 219 (TT (pY (l.getD 0 default) (l.take j.1))))],[],1⟩) (fun j=>l.length-j.1) ⟨0,Nat.zero_le _⟩ _
  (dL.mk' [] _ _ _ rfl ⟨aj,aj,aj,aS.int rfl,aS.int rfl,trivial⟩ ⟨aF rfl,trivial⟩ rfl) ?_
 rintro⟨j,hj⟩
 dsimp only
 by_cases hjl:j<l.length
 · have hst:=Yx (m:=l.getD 0 default) hjl
   have hls:=Vm (pY (l.getD 0 default) (l.take j)) (l.getD (j:Int).toNat default)
   generalize pY (l.getD 0 default) (l.take j)=t at hst hls⊢
   rw[show l.getD j default=l.getD (j:Int).toNat default from rfl]at hst
   generalize jR t (l.getD (j:Int).toNat default)=q at hst hls
   dsimp only[TT]at hls⊢
   repeat' ((conv=>whnf);first|refine K1.w ?_|refine K1.u ?_|refine K1.P1 hls rfl ?_|refine aJ.dO ?_|refine K1.z ?_|refine K1.y (fun _=>?_) (fun _=>?_)|fail)
   all_goals(conv=>whnf)
   all_goals first
     | (refine⟨⟨j+1,hjl⟩,_,dL.mk' [] _ _ _ rfl ⟨aj,aj,aj,aS.int rfl,aS.int rfl,trivial⟩ ⟨⟨_,rfl, ?_⟩,trivial⟩ rfl,by show l.length-(j+1)<l.length-j;omega⟩
        show bW _ (.box _ (TT (pY (l.getD 0 default) (l.take (j+1)))))
        rw[hst,if_pos (by assumption)]
        exact bW.refl _)
     | (refine⟨⟨j+1,hjl⟩,_,dL.mk' [] _ _ _ rfl ⟨aj,aj,aj,aS.int rfl,aS.int rfl,trivial⟩ ⟨⟨_,rfl, ?_⟩,trivial⟩ rfl,by show l.length-(j+1)<l.length-j;omega⟩
        show bW _ (.box _ (TT (pY (l.getD 0 default) (l.take (j+1)))))
        rw[hst,if_neg (by rw[show q=false by assumption];simp)]
        exact bW.refl _)
 · have hW:l.take j=l:=List.take_of_length_le (by omega)
   rw[hW]
   have hlast:Ba l=l.findIdx fun s=>decide (s=pY (l.getD 0 default) l):=rfl
   have hlt:=Bc hne
   generalize pY (l.getD 0 default) l=t at hlast⊢
   dsimp only[TT]
   repeat' ((conv=>whnf);first|refine K1.w ?_|refine K1.u ?_|refine aJ.dO ?_|refine K1.z ?_|refine K1.y (fun _=>?_) (fun _=>?_)|fail)
   all_goals(conv=>whnf)
   refine aN.mk {j:Nat//j≤l.length∧ ∀i,i<j→ ¬l.getD i default=t} (fun j=>⟨[(3,.box 0 0),(25,.sl 2 l.length true (LV l)),(26,.v (.int .i64 (l.length:Int))),(27,.v (.int .i64 (j.1:Int)))],
    [(0,.box 219 (TT t))],[],1⟩) (fun j=>l.length-j.1) ⟨0,Nat.zero_le _,fun i h=>absurd h (Nat.not_lt_zero i)⟩ _
    (dL.mk' [] _ _ _ rfl ⟨aj,aj,aS.int rfl,aS.int rfl,trivial⟩ ⟨aF rfl,trivial⟩ rfl) ?_
   rintro⟨j,hj,hall⟩
   dsimp only
   by_cases hjl:j<l.length
   · have hret:l.getD (j:Int).toNat default=t→Ba l=j:=by
      intro h
      have h:l.getD j default=t:=h
      rw[hlast]
      refine(List.findIdx_eq hjl).2 ⟨?_,fun i hi=>?_⟩
      · rw[List.getD,List.getElem?_eq_getElem hjl]at h
        exact decide_eq_true h
      · have:=hall i hi
        rw[List.getD,List.getElem?_eq_getElem (by omega)]at this
        exact decide_eq_false this
     have hno: ¬l.getD (j:Int).toNat default=t→ ∀i,i<j+1→ ¬l.getD i default=t:=by
      intro h i hi
      rcases Nat.lt_or_ge i j with h'|h'
      · exact hall i h'
      · obtain rfl:i=j:=by omega
        exact h
     dsimp only[TT]
     repeat' ((conv=>whnf);first|refine K1.w ?_|refine K1.u ?_|refine vg.mk (stV (l.getD (j:Int).toNat default)) (stV t) (l.getD (j:Int).toNat default=t) rfl rfl (ad1 _ _) ?_|refine aJ.dO ?_|refine K1.z ?_|refine K1.y (fun _=>?_) (fun _=>?_)|fail)
     all_goals(conv=>whnf)
     all_goals first
       |(rw[hret (by assumption)];exact bF.mk (aj))
       |exact⟨⟨j+1,hjl,hno (by assumption)⟩,_,dL.mk' [] _ _ _ rfl ⟨aj,aj,aS.int rfl,aS.int rfl,trivial⟩ ⟨aF rfl,trivial⟩ rfl,by show l.length-(j+1)<l.length-j;omega⟩
   · exfalso
     have h1:=hall (Ba l) (by omega)
     rw[List.getD,List.getElem?_eq_getElem hlt]at h1
     have h2:decide (l[l.findIdx fun s=>decide (s=t)]'(hlast▸hlt)=t)=true:=List.findIdx_getElem (p:=fun s=>decide (s=t))
     have h3:=of_decide_eq_true h2
     simp only[←hlast]at h3
     exact h1 h3
end
section
open Go.RowKit
def yV (key:ByteArray) (n:Int) (e:Ev):Bool:=decide (e.key=key)&&decide (e.l=n)
def dA (key:ByteArray) (n:Int) (ws:List Ev):List Ev:=ws.filter fun e=>yV key n e&&decide (e.k=3)
def eF (key:ByteArray) (n:Int) (ws:List Ev):List Ev:=ws.filter fun e=>yV key n e&& !decide (e.k=3)
def dI (b:ByteArray):List UInt8:=b.data.toList
def dh (e:Ev):St:=(e.h,e.r)
theorem qF (b:ByteArray):encStr (dI b)= .string b:=by
 obtain⟨a⟩:=b
 simp[dI]
theorem qG {l:List (List UInt8)} {x:List UInt8} {g:Nat→List AV} {n:Nat} (hn:n=l.length) (hg:g 0=[.v (encStr x)]): ∀i,i<n+1→pR n (iC l) g i=iC (l++[x]) i:=
 bJ (c:=fun x=>[.v (encStr x)]) hn hg
structure Cont where
 (key:ByteArray) (h0 h1:Bool) (f0 f1:ByteArray) (s0 s1:List (List UInt8))
def Cont.cs (c:Cont):List AV:=[.v (.string c.key),.v (.bool c.h0),.v (.bool c.h1),.v (.string c.f0),.v (.string c.f1),.sl 1 c.s0.length true (iC c.s0),.sl 1 c.s1.length true (iC c.s1)]
def LW (A:List Ev):Bool:= !decide (A.length=0)
def qH (A:List Ev):ByteArray:=if A.length=0 then⟨#[]⟩else⟨((A.map fun e=>dI e.v).getD (Ba (A.map dh)) []).toArray⟩
def valsF (B:List Ev):List (List UInt8):=Lib.compact (sortL (B.map fun e=>dI e.v))
def fJ (key:ByteArray) (ws:List Ev):Cont:=⟨key,LW (dA key 0 ws),LW (dA key 1 ws),qH (dA key 0 ws),qH (dA key 1 ws),valsF (eF key 0 ws),valsF (eF key 1 ws)⟩
theorem LX (key:ByteArray) (ws:List Ev) (hl:ws.length≤1000000000):
  aH Tryz.prog 125 [.v (.string key),.sl 12 ws.length true (dX ws)] (.agg (fJ key ws).cs) []:=by
 dsimp only[fJ,Cont.cs]
 refine K1.E 0x2000009001ecbf3 Tryz.func125 ?_
 repeat' ((conv=>whnf);first|refine K1.w ?_|refine K1.a ?_|refine K1.b ?_|refine K1.d ?_|refine aJ.dO ?_|refine K1.z ?_|refine K1.q ?_|refine K1.bt ?_|refine K1.bf ?_|refine K1.y (fun _=>?_) (fun _=>?_)|refine iH.dec (fun _=>?_) (fun _=>?_)|refine iH.mk (fun _=>?_) (fun _=>?_))
 conv=>whnf
 refine aN.qY 14 3 rfl ?_
 repeat' ((conv=>whnf);first|refine K1.w ?_|refine K1.a ?_|refine K1.b ?_|refine K1.d ?_|refine aJ.dO ?_|refine K1.z ?_|refine K1.q ?_|refine K1.bt ?_|refine K1.bf ?_|refine K1.y (fun _=>?_) (fun _=>?_)|refine iH.dec (fun _=>?_) (fun _=>?_)|refine iH.mk (fun _=>?_) (fun _=>?_))
 conv=>whnf
 refine aN.nil 7 90 219 2 (LV []) rfl (by omega) ?_
 refine aN.nil 8 91 9 1 (iC []) rfl (by omega) ?_
 refine aN.nil 9 92 9 1 (iC []) rfl (by omega) ?_
 conv=>whnf
 refine aN.mk {j:Nat//j≤ws.length} (fun j=>⟨[(0,.v (.string key)),(1,.sl 12 ws.length true (dX ws)),(4,.box 0 0),(5,.box 1 0),(6,.v (.int .i64 0)),(14,.v (.int .i64 0)),(7,.own 90),(8,.own 91),(9,.own 92),(17,.sl 12 ws.length true (dX ws)),(18,.v (.int .i64 (ws.length:Int))),(19,.v (.int .i64 (j.1:Int)))],
   [(0,_),(1,_),(90,.row 219 2 ((dA key 0 (ws.take j.1)).map dh).length true (LV ((dA key 0 (ws.take j.1)).map dh))),
    (91,.row 9 1 ((dA key 0 (ws.take j.1)).map fun e=>dI e.v).length true (iC ((dA key 0 (ws.take j.1)).map fun e=>dI e.v))),
    (92,.row 9 1 ((eF key 0 (ws.take j.1)).map fun e=>dI e.v).length true (iC ((eF key 0 (ws.take j.1)).map fun e=>dI e.v)))],[],93⟩) (fun j=>ws.length-j.1) ⟨0,Nat.zero_le _⟩ _
  (dL.mk' [] _ _ _ rfl ⟨aj,aj,aj,aj,aj,aj,aj,aj,aj,aj,aj,aS.int rfl,trivial⟩ ⟨aF rfl,aF rfl,aF rfl,aF rfl,aF rfl,trivial⟩ rfl) ?_
 rintro⟨j,hj⟩
 dsimp only
 by_cases hjl:j<ws.length
 · have hA:(dA key 0 (ws.take j)).length≤j:=by
    have:=List.length_filter_le (fun e=>yV key 0 e&&decide (e.k=3)) (ws.take j)
    rw[List.length_take]at this
    unfold dA
    omega
   have hB:(eF key 0 (ws.take j)).length≤j:=by
    have:=List.length_filter_le (fun e=>yV key 0 e&& !decide (e.k=3)) (ws.take j)
    rw[List.length_take]at this
    unfold eF
    omega
   have sA:dA key 0 (ws.take (j+1))=dA key 0 (ws.take j)++(if(yV key 0 (ws.getD (j:Int).toNat default)&&decide ((ws.getD (j:Int).toNat default).k=3))=true then [ws.getD (j:Int).toNat default]else []):=dw hjl
   have sB:eF key 0 (ws.take (j+1))=eF key 0 (ws.take j)++(if(yV key 0 (ws.getD (j:Int).toNat default)&& !decide ((ws.getD (j:Int).toNat default).k=3))=true then [ws.getD (j:Int).toNat default]else []):=dw hjl
   generalize dA key 0 (ws.take j)=A at hA sA⊢
   generalize eF key 0 (ws.take j)=B at hB sB⊢
   have lA:(A.map dh).length=A.length:=List.length_map ..
   have lA2:(A.map fun e=>dI e.v).length=A.length:=List.length_map ..
   have lB:(B.map fun e=>dI e.v).length=B.length:=List.length_map ..
   have eqS {X Y:List St} (h:X=Y):bW (.row 219 2 X.length true (LV X)) (.row 219 2 Y.length true (LV Y)):=by rw[h];exact bW.refl _
   have TV {X Y:List (List UInt8)} (h:X=Y):bW (.row 9 1 X.length true (iC X)) (.row 9 1 Y.length true (iC Y)):=by rw[h];exact bW.refl _
   have Yz:ws.length-(j+1)<ws.length-j:=by omega
   repeat' ((conv=>whnf);first|refine K1.w ?_|refine K1.a ?_|refine K1.b ?_|refine K1.d ?_|refine aJ.dO ?_|refine K1.z ?_|refine K1.q ?_|refine K1.bt ?_|refine K1.bf ?_|refine K1.y (fun _=>?_) (fun _=>?_)|refine iH.dec (fun _=>?_) (fun _=>?_)|refine iH.mk (fun _=>?_) (fun _=>?_))
   all_goals(conv=>whnf)
   · have kA:dA key 0 (ws.take (j+1))=A++[ws.getD (j:Int).toNat default]:=by rw[sA,if_pos (by simp only[yV];rw[decide_eq_true (by assumption),decide_eq_true (by assumption),decide_eq_true (by assumption)];rfl)]
     have kB:eF key 0 (ws.take (j+1))=B:=by rw[sB,if_neg (by rw[decide_eq_true (show(ws.getD (j:Int).toNat default).k=3 by assumption)];simp),List.append_nil]
     refine⟨⟨j+1,hjl⟩,_,dL.mk' [(95,90),(97,91)] _ _ _ rfl ⟨aj,aj,aj,aj,aj,aj,aj,aj,aj,aj,aj,aS.int rfl,trivial⟩ ⟨aF rfl,aF rfl,⟨_,rfl,bW.row ?_ (fun m hm=>?_)⟩,⟨_,rfl,bW.row ?_ (fun m hm=>?_)⟩,⟨_,rfl,TV (by rw[kB])⟩,trivial⟩ rfl,Yz⟩
     · show _=((dA key 0 (ws.take (j+1))).map dh).length
       rw[kA,List.map_append,List.length_append]
       rfl
     · show _=LV ((dA key 0 (ws.take (j+1))).map dh) m
       rw[kA,List.map_append]
       exact bJ (c:=TT) (x:=dh (ws.getD (j:Int).toNat default)) rfl rfl m hm
     · show _=((dA key 0 (ws.take (j+1))).map fun e=>dI e.v).length
       rw[kA,List.map_append,List.length_append]
       rfl
     · show _=iC ((dA key 0 (ws.take (j+1))).map fun e=>dI e.v) m
       rw[kA,List.map_append]
       exact qG (x:=dI (ws.getD (j:Int).toNat default).v) rfl (by rw[qF];rfl) m hm
   · have kA:dA key 0 (ws.take (j+1))=A:=by rw[sA,if_neg (by rw[decide_eq_false (show¬ (ws.getD (j:Int).toNat default).k=3 by assumption)];simp),List.append_nil]
     have kB:eF key 0 (ws.take (j+1))=B++[ws.getD (j:Int).toNat default]:=by rw[sB,if_pos (by simp only[yV];rw[decide_eq_true (by assumption),decide_eq_true (by assumption),decide_eq_false (by assumption)];rfl)]
     refine⟨⟨j+1,hjl⟩,_,dL.mk' [(95,92)] _ _ _ rfl ⟨aj,aj,aj,aj,aj,aj,aj,aj,aj,aj,aj,aS.int rfl,trivial⟩ ⟨aF rfl,aF rfl,⟨_,rfl,eqS (by rw[kA])⟩,⟨_,rfl,TV (by rw[kA])⟩,⟨_,rfl,bW.row ?_ (fun m hm=>?_)⟩,trivial⟩ rfl,Yz⟩
     · show _=((eF key 0 (ws.take (j+1))).map fun e=>dI e.v).length
       rw[kB,List.map_append,List.length_append]
       rfl
     · show _=iC ((eF key 0 (ws.take (j+1))).map fun e=>dI e.v) m
       rw[kB,List.map_append]
       exact qG (x:=dI (ws.getD (j:Int).toNat default).v) rfl (by rw[qF];rfl) m hm
   all_goals
    have hof:yV key 0 (ws.getD (j:Int).toNat default)=false:=by
     unfold yV
     first
       |(rw[decide_eq_false (show¬ (ws.getD (j:Int).toNat default).key=key by assumption)];rfl)
       |(rw[decide_eq_false (show¬ (ws.getD (j:Int).toNat default).l=0 by assumption)];simp)
    have kA:dA key 0 (ws.take (j+1))=A:=by rw[sA,hof];simp
    have kB:eF key 0 (ws.take (j+1))=B:=by rw[sB,hof];simp
    exact⟨⟨j+1,hjl⟩,_,dL.mk' [] _ _ _ rfl ⟨aj,aj,aj,aj,aj,aj,aj,aj,aj,aj,aj,aS.int rfl,trivial⟩ ⟨aF rfl,aF rfl,⟨_,rfl,eqS (by rw[kA])⟩,⟨_,rfl,TV (by rw[kA])⟩,⟨_,rfl,TV (by rw[kB])⟩,trivial⟩ rfl,Yz⟩
 · rw [List.take_of_length_le (show ws.length≤j by omega)]
   have hA:(dA key 0 ws).length≤ws.length:=List.length_filter_le ..
   have hB:(eF key 0 ws).length≤ws.length:=List.length_filter_le ..
   generalize dA key 0 ws=A at hA⊢
   generalize eF key 0 ws=B at hB⊢
   have lA:(A.map dh).length=A.length:=List.length_map ..
   have lA2:(A.map fun e=>dI e.v).length=A.length:=List.length_map ..
   have lB:(B.map fun e=>dI e.v).length=B.length:=List.length_map ..
   have hso:=uM (B.map fun e=>dI e.v) (by omega)
   have hsl:(sortL (B.map fun e=>dI e.v)).length=(B.map fun e=>dI e.v).length:=List.length_mergeSort ..
   have hco:=oL (sortL (B.map fun e=>dI e.v)) (by omega)
   rw[hsl]at hco
   by_cases hz:A.length=0
   · repeat' ((conv=>whnf);first|refine K1.w ?_|refine K1.a ?_|refine K1.b ?_|refine K1.d ?_|refine K1.C 1 [(0,_)] (hso) rfl ?_|refine K1.C 1 [(0,_)] (hco) rfl ?_|refine aJ.dO ?_|refine K1.z ?_|refine K1.q ?_|refine K1.bt ?_|refine K1.bf ?_|refine K1.y (fun _=>?_) (fun _=>?_)|refine iH.dec (fun _=>?_) (fun _=>?_)|refine iH.mk (fun _=>?_) (fun _=>?_))
     conv=>whnf
     refine aN.nil 7 190 219 2 (LV []) rfl (by omega) ?_
     refine aN.nil 8 191 9 1 (iC []) rfl (by omega) ?_
     refine aN.nil 9 192 9 1 (iC []) rfl (by omega) ?_
     conv=>whnf
     refine aN.mk {j:Nat//j≤ws.length} (fun j=>⟨[(0,.v (.string key)),(1,.sl 12 ws.length true (dX ws)),(4,.box 0 0),(5,.box 1 0),(6,.v (.int .i64 1)),(14,.v (.int .i64 1)),(7,.own 190),(8,.own 191),(9,.own 192),(17,.sl 12 ws.length true (dX ws)),(18,.v (.int .i64 (ws.length:Int))),(19,.v (.int .i64 (j.1:Int)))],
       [(0,_),(1,_),(94,_),(190,.row 219 2 ((dA key 1 (ws.take j.1)).map dh).length true (LV ((dA key 1 (ws.take j.1)).map dh))),
        (191,.row 9 1 ((dA key 1 (ws.take j.1)).map fun e=>dI e.v).length true (iC ((dA key 1 (ws.take j.1)).map fun e=>dI e.v))),
        (192,.row 9 1 ((eF key 1 (ws.take j.1)).map fun e=>dI e.v).length true (iC ((eF key 1 (ws.take j.1)).map fun e=>dI e.v)))],[],193⟩) (fun j=>ws.length-j.1) ⟨0,Nat.zero_le _⟩ _
      (dL.mk' [] _ _ _ rfl ⟨aj,aj,aj,aj,aj,aj,aj,aj,aj,aj,aj,aS.int rfl,trivial⟩ ⟨aF rfl,aF rfl,aF rfl,aF rfl,aF rfl,aF rfl,trivial⟩ rfl) ?_
     rintro⟨j,hj⟩
     dsimp only
     by_cases hjl:j<ws.length
     · have hA:(dA key 1 (ws.take j)).length≤j:=by
        have:=List.length_filter_le (fun e=>yV key 1 e&&decide (e.k=3)) (ws.take j)
        rw[List.length_take]at this
        unfold dA
        omega
       have hB:(eF key 1 (ws.take j)).length≤j:=by
        have:=List.length_filter_le (fun e=>yV key 1 e&& !decide (e.k=3)) (ws.take j)
        rw[List.length_take]at this
        unfold eF
        omega
       have sA:dA key 1 (ws.take (j+1))=dA key 1 (ws.take j)++(if(yV key 1 (ws.getD (j:Int).toNat default)&&decide ((ws.getD (j:Int).toNat default).k=3))=true then [ws.getD (j:Int).toNat default]else []):=dw hjl
       have sB:eF key 1 (ws.take (j+1))=eF key 1 (ws.take j)++(if(yV key 1 (ws.getD (j:Int).toNat default)&& !decide ((ws.getD (j:Int).toNat default).k=3))=true then [ws.getD (j:Int).toNat default]else []):=dw hjl
       generalize dA key 1 (ws.take j)=A at hA sA⊢
       generalize eF key 1 (ws.take j)=B at hB sB⊢
       have lA:(A.map dh).length=A.length:=List.length_map ..
       have lA2:(A.map fun e=>dI e.v).length=A.length:=List.length_map ..
       have lB:(B.map fun e=>dI e.v).length=B.length:=List.length_map ..
       have eqS {X Y:List St} (h:X=Y):bW (.row 219 2 X.length true (LV X)) (.row 219 2 Y.length true (LV Y)):=by rw[h];exact bW.refl _
       have TV {X Y:List (List UInt8)} (h:X=Y):bW (.row 9 1 X.length true (iC X)) (.row 9 1 Y.length true (iC Y)):=by rw[h];exact bW.refl _
       have Yz:ws.length-(j+1)<ws.length-j:=by omega
       repeat' ((conv=>whnf);first|refine K1.w ?_|refine K1.a ?_|refine K1.b ?_|refine K1.d ?_|refine aJ.dO ?_|refine K1.z ?_|refine K1.q ?_|refine K1.bt ?_|refine K1.bf ?_|refine K1.y (fun _=>?_) (fun _=>?_)|refine iH.dec (fun _=>?_) (fun _=>?_)|refine iH.mk (fun _=>?_) (fun _=>?_))
       all_goals(conv=>whnf)
       · have kA:dA key 1 (ws.take (j+1))=A++[ws.getD (j:Int).toNat default]:=by rw[sA,if_pos (by simp only[yV];rw[decide_eq_true (by assumption),decide_eq_true (by assumption),decide_eq_true (by assumption)];rfl)]
         have kB:eF key 1 (ws.take (j+1))=B:=by rw[sB,if_neg (by rw[decide_eq_true (show(ws.getD (j:Int).toNat default).k=3 by assumption)];simp),List.append_nil]
         refine⟨⟨j+1,hjl⟩,_,dL.mk' [(195,190),(197,191)] _ _ _ rfl ⟨aj,aj,aj,aj,aj,aj,aj,aj,aj,aj,aj,aS.int rfl,trivial⟩ ⟨aF rfl,aF rfl,aF rfl,⟨_,rfl,bW.row ?_ (fun m hm=>?_)⟩,⟨_,rfl,bW.row ?_ (fun m hm=>?_)⟩,⟨_,rfl,TV (by rw[kB])⟩,trivial⟩ rfl,Yz⟩
         · show _=((dA key 1 (ws.take (j+1))).map dh).length
           rw[kA,List.map_append,List.length_append]
           rfl
         · show _=LV ((dA key 1 (ws.take (j+1))).map dh) m
           rw[kA,List.map_append]
           exact bJ (c:=TT) (x:=dh (ws.getD (j:Int).toNat default)) rfl rfl m hm
         · show _=((dA key 1 (ws.take (j+1))).map fun e=>dI e.v).length
           rw[kA,List.map_append,List.length_append]
           rfl
         · show _=iC ((dA key 1 (ws.take (j+1))).map fun e=>dI e.v) m
           rw[kA,List.map_append]
           exact qG (x:=dI (ws.getD (j:Int).toNat default).v) rfl (by rw[qF];rfl) m hm
       · have kA:dA key 1 (ws.take (j+1))=A:=by rw[sA,if_neg (by rw[decide_eq_false (show¬ (ws.getD (j:Int).toNat default).k=3 by assumption)];simp),List.append_nil]
         have kB:eF key 1 (ws.take (j+1))=B++[ws.getD (j:Int).toNat default]:=by rw[sB,if_pos (by simp only[yV];rw[decide_eq_true (by assumption),decide_eq_true (by assumption),decide_eq_false (by assumption)];rfl)]
         refine⟨⟨j+1,hjl⟩,_,dL.mk' [(195,192)] _ _ _ rfl ⟨aj,aj,aj,aj,aj,aj,aj,aj,aj,aj,aj,aS.int rfl,trivial⟩ ⟨aF rfl,aF rfl,aF rfl,⟨_,rfl,eqS (by rw[kA])⟩,⟨_,rfl,TV (by rw[kA])⟩,⟨_,rfl,bW.row ?_ (fun m hm=>?_)⟩,trivial⟩ rfl,Yz⟩
         · show _=((eF key 1 (ws.take (j+1))).map fun e=>dI e.v).length
           rw[kB,List.map_append,List.length_append]
           rfl
         · show _=iC ((eF key 1 (ws.take (j+1))).map fun e=>dI e.v) m
           rw[kB,List.map_append]
           exact qG (x:=dI (ws.getD (j:Int).toNat default).v) rfl (by rw[qF];rfl) m hm
       all_goals
        have hof:yV key 1 (ws.getD (j:Int).toNat default)=false:=by
         unfold yV
         first
           |(rw[decide_eq_false (show¬ (ws.getD (j:Int).toNat default).key=key by assumption)];rfl)
           |(rw[decide_eq_false (show¬ (ws.getD (j:Int).toNat default).l=1 by assumption)];simp)
        have kA:dA key 1 (ws.take (j+1))=A:=by rw[sA,hof];simp
        have kB:eF key 1 (ws.take (j+1))=B:=by rw[sB,hof];simp
        exact⟨⟨j+1,hjl⟩,_,dL.mk' [] _ _ _ rfl ⟨aj,aj,aj,aj,aj,aj,aj,aj,aj,aj,aj,aS.int rfl,trivial⟩ ⟨aF rfl,aF rfl,aF rfl,⟨_,rfl,eqS (by rw[kA])⟩,⟨_,rfl,TV (by rw[kA])⟩,⟨_,rfl,TV (by rw[kB])⟩,trivial⟩ rfl,Yz⟩
     · rw[List.take_of_length_le (show ws.length≤j by omega)]
       have hA1:(dA key 1 ws).length≤ws.length:=List.length_filter_le ..
       have hB1:(eF key 1 ws).length≤ws.length:=List.length_filter_le ..
       generalize dA key 1 ws=A1 at hA1⊢
       generalize eF key 1 ws=B1 at hB1⊢
       have lA1:(A1.map dh).length=A1.length:=List.length_map ..
       have aeJ:(A1.map fun e=>dI e.v).length=A1.length:=List.length_map ..
       have lB1:(B1.map fun e=>dI e.v).length=B1.length:=List.length_map ..
       have YA:=uM (B1.map fun e=>dI e.v) (by omega)
       have hsl1:(sortL (B1.map fun e=>dI e.v)).length=(B1.map fun e=>dI e.v).length:=List.length_mergeSort ..
       have Rf:=oL (sortL (B1.map fun e=>dI e.v)) (by omega)
       rw[hsl1]at Rf
       by_cases hz1:A1.length=0
       · repeat' ((conv=>whnf);first|refine K1.w ?_|refine K1.a ?_|refine K1.b ?_|refine K1.d ?_|refine K1.C 1 [(0,_)] (YA) rfl ?_|refine K1.C 1 [(0,_)] (Rf) rfl ?_|refine aJ.dO ?_|refine K1.z ?_|refine K1.q ?_|refine K1.bt ?_|refine K1.bf ?_|refine K1.y (fun _=>?_) (fun _=>?_)|refine iH.dec (fun _=>?_) (fun _=>?_)|refine iH.mk (fun _=>?_) (fun _=>?_))
         conv=>whnf
         simp only[LW,qH,valsF,if_pos hz,decide_eq_true hz,Bool.not_true,if_pos hz1,decide_eq_true hz1,Bool.not_true]
         exact bF.mk (aj)
       · have ac1:=CZ (A1.map dh) (fun h=>hz1 (by rw[←lA1,h];rfl)) (by omega)
         have hlt1:=Bc (l:=A1.map dh) (fun h=>hz1 (by rw[←lA1,h];rfl))
         repeat' ((conv=>whnf);first|refine K1.w ?_|refine K1.a ?_|refine K1.b ?_|refine K1.d ?_|refine K1.C 1 [(0,_)] (YA) rfl ?_|refine K1.C 1 [(0,_)] (Rf) rfl ?_|refine K1.P1 ac1 rfl ?_|refine aJ.dO ?_|refine K1.z ?_|refine K1.q ?_|refine K1.bt ?_|refine K1.bf ?_|refine K1.y (fun _=>?_) (fun _=>?_)|refine iH.dec (fun _=>?_) (fun _=>?_)|refine iH.mk (fun _=>?_) (fun _=>?_))
         rotate_left
         · exact absurd (show Nat.ble _ _=false by assumption) (by rw[Bool.not_eq_false,Nat.ble_eq];omega)
         conv=>whnf
         simp only[LW,qH,valsF,if_pos hz,decide_eq_true hz,Bool.not_true,if_neg hz1,decide_eq_false hz1,Bool.not_false]
         exact bF.mk (aj)
   · have hla:=CZ (A.map dh) (fun h=>hz (by rw[←lA,h];rfl)) (by omega)
     have hlt:=Bc (l:=A.map dh) (fun h=>hz (by rw[←lA,h];rfl))
     repeat' ((conv=>whnf);first|refine K1.w ?_|refine K1.a ?_|refine K1.b ?_|refine K1.d ?_|refine K1.C 1 [(0,_)] (hso) rfl ?_|refine K1.C 1 [(0,_)] (hco) rfl ?_|refine K1.P1 hla rfl ?_|refine aJ.dO ?_|refine K1.z ?_|refine K1.q ?_|refine K1.bt ?_|refine K1.bf ?_|refine K1.y (fun _=>?_) (fun _=>?_)|refine iH.dec (fun _=>?_) (fun _=>?_)|refine iH.mk (fun _=>?_) (fun _=>?_))
     rotate_left
     · exact absurd (show Nat.ble _ _=false by assumption) (by rw[Bool.not_eq_false,Nat.ble_eq];omega)
     conv=>whnf
     refine aN.nil 7 190 219 2 (LV []) rfl (by omega) ?_
     refine aN.nil 8 191 9 1 (iC []) rfl (by omega) ?_
     refine aN.nil 9 192 9 1 (iC []) rfl (by omega) ?_
     conv=>whnf
     refine aN.mk {j:Nat//j≤ws.length} (fun j=>⟨[(0,.v (.string key)),(1,.sl 12 ws.length true (dX ws)),(4,.box 0 0),(5,.box 1 0),(6,.v (.int .i64 1)),(14,.v (.int .i64 1)),(7,.own 190),(8,.own 191),(9,.own 192),(17,.sl 12 ws.length true (dX ws)),(18,.v (.int .i64 (ws.length:Int))),(19,.v (.int .i64 (j.1:Int)))],
       [(0,_),(1,_),(94,_),(190,.row 219 2 ((dA key 1 (ws.take j.1)).map dh).length true (LV ((dA key 1 (ws.take j.1)).map dh))),
        (191,.row 9 1 ((dA key 1 (ws.take j.1)).map fun e=>dI e.v).length true (iC ((dA key 1 (ws.take j.1)).map fun e=>dI e.v))),
        (192,.row 9 1 ((eF key 1 (ws.take j.1)).map fun e=>dI e.v).length true (iC ((eF key 1 (ws.take j.1)).map fun e=>dI e.v)))],[],193⟩) (fun j=>ws.length-j.1) ⟨0,Nat.zero_le _⟩ _
      (dL.mk' [] _ _ _ rfl ⟨aj,aj,aj,aj,aj,aj,aj,aj,aj,aj,aj,aS.int rfl,trivial⟩ ⟨aF rfl,aF rfl,aF rfl,aF rfl,aF rfl,aF rfl,trivial⟩ rfl) ?_
     rintro⟨j,hj⟩
     dsimp only
     by_cases hjl:j<ws.length
     · have hA:(dA key 1 (ws.take j)).length≤j:=by
        have:=List.length_filter_le (fun e=>yV key 1 e&&decide (e.k=3)) (ws.take j)
        rw[List.length_take]at this
        unfold dA
        omega
       have hB:(eF key 1 (ws.take j)).length≤j:=by
        have:=List.length_filter_le (fun e=>yV key 1 e&& !decide (e.k=3)) (ws.take j)
        rw[List.length_take]at this
        unfold eF
        omega
       have sA:dA key 1 (ws.take (j+1))=dA key 1 (ws.take j)++(if(yV key 1 (ws.getD (j:Int).toNat default)&&decide ((ws.getD (j:Int).toNat default).k=3))=true then [ws.getD (j:Int).toNat default]else []):=dw hjl
       have sB:eF key 1 (ws.take (j+1))=eF key 1 (ws.take j)++(if(yV key 1 (ws.getD (j:Int).toNat default)&& !decide ((ws.getD (j:Int).toNat default).k=3))=true then [ws.getD (j:Int).toNat default]else []):=dw hjl
       generalize dA key 1 (ws.take j)=A at hA sA⊢
       generalize eF key 1 (ws.take j)=B at hB sB⊢
       have lA:(A.map dh).length=A.length:=List.length_map ..
       have lA2:(A.map fun e=>dI e.v).length=A.length:=List.length_map ..
       have lB:(B.map fun e=>dI e.v).length=B.length:=List.length_map ..
       have eqS {X Y:List St} (h:X=Y):bW (.row 219 2 X.length true (LV X)) (.row 219 2 Y.length true (LV Y)):=by rw[h];exact bW.refl _
       have TV {X Y:List (List UInt8)} (h:X=Y):bW (.row 9 1 X.length true (iC X)) (.row 9 1 Y.length true (iC Y)):=by rw[h];exact bW.refl _
       have Yz:ws.length-(j+1)<ws.length-j:=by omega
       repeat' ((conv=>whnf);first|refine K1.w ?_|refine K1.a ?_|refine K1.b ?_|refine K1.d ?_|refine aJ.dO ?_|refine K1.z ?_|refine K1.q ?_|refine K1.bt ?_|refine K1.bf ?_|refine K1.y (fun _=>?_) (fun _=>?_)|refine iH.dec (fun _=>?_) (fun _=>?_)|refine iH.mk (fun _=>?_) (fun _=>?_))
       all_goals(conv=>whnf)
       · have kA:dA key 1 (ws.take (j+1))=A++[ws.getD (j:Int).toNat default]:=by rw[sA,if_pos (by simp only[yV];rw[decide_eq_true (by assumption),decide_eq_true (by assumption),decide_eq_true (by assumption)];rfl)]
         have kB:eF key 1 (ws.take (j+1))=B:=by rw[sB,if_neg (by rw[decide_eq_true (show(ws.getD (j:Int).toNat default).k=3 by assumption)];simp),List.append_nil]
         refine⟨⟨j+1,hjl⟩,_,dL.mk' [(195,190),(197,191)] _ _ _ rfl ⟨aj,aj,aj,aj,aj,aj,aj,aj,aj,aj,aj,aS.int rfl,trivial⟩ ⟨aF rfl,aF rfl,aF rfl,⟨_,rfl,bW.row ?_ (fun m hm=>?_)⟩,⟨_,rfl,bW.row ?_ (fun m hm=>?_)⟩,⟨_,rfl,TV (by rw[kB])⟩,trivial⟩ rfl,Yz⟩
         · show _=((dA key 1 (ws.take (j+1))).map dh).length
           rw[kA,List.map_append,List.length_append]
           rfl
         · show _=LV ((dA key 1 (ws.take (j+1))).map dh) m
           rw[kA,List.map_append]
           exact bJ (c:=TT) (x:=dh (ws.getD (j:Int).toNat default)) rfl rfl m hm
         · show _=((dA key 1 (ws.take (j+1))).map fun e=>dI e.v).length
           rw[kA,List.map_append,List.length_append]
           rfl
         · show _=iC ((dA key 1 (ws.take (j+1))).map fun e=>dI e.v) m
           rw[kA,List.map_append]
           exact qG (x:=dI (ws.getD (j:Int).toNat default).v) rfl (by rw[qF];rfl) m hm
       · have kA:dA key 1 (ws.take (j+1))=A:=by rw[sA,if_neg (by rw[decide_eq_false (show¬ (ws.getD (j:Int).toNat default).k=3 by assumption)];simp),List.append_nil]
         have kB:eF key 1 (ws.take (j+1))=B++[ws.getD (j:Int).toNat default]:=by rw[sB,if_pos (by simp only[yV];rw[decide_eq_true (by assumption),decide_eq_true (by assumption),decide_eq_false (by assumption)];rfl)]
         refine⟨⟨j+1,hjl⟩,_,dL.mk' [(195,192)] _ _ _ rfl ⟨aj,aj,aj,aj,aj,aj,aj,aj,aj,aj,aj,aS.int rfl,trivial⟩ ⟨aF rfl,aF rfl,aF rfl,⟨_,rfl,eqS (by rw[kA])⟩,⟨_,rfl,TV (by rw[kA])⟩,⟨_,rfl,bW.row ?_ (fun m hm=>?_)⟩,trivial⟩ rfl,Yz⟩
         · show _=((eF key 1 (ws.take (j+1))).map fun e=>dI e.v).length
           rw[kB,List.map_append,List.length_append]
           rfl
         · show _=iC ((eF key 1 (ws.take (j+1))).map fun e=>dI e.v) m
           rw[kB,List.map_append]
           exact qG (x:=dI (ws.getD (j:Int).toNat default).v) rfl (by rw[qF];rfl) m hm
       all_goals
        have hof:yV key 1 (ws.getD (j:Int).toNat default)=false:=by
         unfold yV
         first
           |(rw[decide_eq_false (show¬ (ws.getD (j:Int).toNat default).key=key by assumption)];rfl)
           |(rw[decide_eq_false (show¬ (ws.getD (j:Int).toNat default).l=1 by assumption)];simp)
        have kA:dA key 1 (ws.take (j+1))=A:=by rw[sA,hof];simp
        have kB:eF key 1 (ws.take (j+1))=B:=by rw[sB,hof];simp
        exact⟨⟨j+1,hjl⟩,_,dL.mk' [] _ _ _ rfl ⟨aj,aj,aj,aj,aj,aj,aj,aj,aj,aj,aj,aS.int rfl,trivial⟩ ⟨aF rfl,aF rfl,aF rfl,⟨_,rfl,eqS (by rw[kA])⟩,⟨_,rfl,TV (by rw[kA])⟩,⟨_,rfl,TV (by rw[kB])⟩,trivial⟩ rfl,Yz⟩
     · rw[List.take_of_length_le (show ws.length≤j by omega)]
       have hA1:(dA key 1 ws).length≤ws.length:=List.length_filter_le ..
       have hB1:(eF key 1 ws).length≤ws.length:=List.length_filter_le ..
       generalize dA key 1 ws=A1 at hA1⊢
       generalize eF key 1 ws=B1 at hB1⊢
       have lA1:(A1.map dh).length=A1.length:=List.length_map ..
       have aeJ:(A1.map fun e=>dI e.v).length=A1.length:=List.length_map ..
       have lB1:(B1.map fun e=>dI e.v).length=B1.length:=List.length_map ..
       have YA:=uM (B1.map fun e=>dI e.v) (by omega)
       have hsl1:(sortL (B1.map fun e=>dI e.v)).length=(B1.map fun e=>dI e.v).length:=List.length_mergeSort ..
       have Rf:=oL (sortL (B1.map fun e=>dI e.v)) (by omega)
       rw[hsl1]at Rf
       by_cases hz1:A1.length=0
       · repeat' ((conv=>whnf);first|refine K1.w ?_|refine K1.a ?_|refine K1.b ?_|refine K1.d ?_|refine K1.C 1 [(0,_)] (YA) rfl ?_|refine K1.C 1 [(0,_)] (Rf) rfl ?_|refine aJ.dO ?_|refine K1.z ?_|refine K1.q ?_|refine K1.bt ?_|refine K1.bf ?_|refine K1.y (fun _=>?_) (fun _=>?_)|refine iH.dec (fun _=>?_) (fun _=>?_)|refine iH.mk (fun _=>?_) (fun _=>?_))
         conv=>whnf
         simp only[LW,qH,valsF,if_neg hz,decide_eq_false hz,Bool.not_false,if_pos hz1,decide_eq_true hz1,Bool.not_true]
         exact bF.mk (aj)
       · have ac1:=CZ (A1.map dh) (fun h=>hz1 (by rw[←lA1,h];rfl)) (by omega)
         have hlt1:=Bc (l:=A1.map dh) (fun h=>hz1 (by rw[←lA1,h];rfl))
         repeat' ((conv=>whnf);first|refine K1.w ?_|refine K1.a ?_|refine K1.b ?_|refine K1.d ?_|refine K1.C 1 [(0,_)] (YA) rfl ?_|refine K1.C 1 [(0,_)] (Rf) rfl ?_|refine K1.P1 ac1 rfl ?_|refine aJ.dO ?_|refine K1.z ?_|refine K1.q ?_|refine K1.bt ?_|refine K1.bf ?_|refine K1.y (fun _=>?_) (fun _=>?_)|refine iH.dec (fun _=>?_) (fun _=>?_)|refine iH.mk (fun _=>?_) (fun _=>?_))
         rotate_left
         · exact absurd (show Nat.ble _ _=false by assumption) (by rw[Bool.not_eq_false,Nat.ble_eq];omega)
         conv=>whnf
         simp only[LW,qH,valsF,if_neg hz,decide_eq_false hz,Bool.not_false,if_neg hz1,decide_eq_false hz1,Bool.not_false]
         exact bF.mk (aj)
end
section
open Go.RowKit
instance:Inhabited Cont:=⟨⟨⟨#[]⟩,false,false,⟨#[]⟩,⟨#[]⟩,[],[]⟩⟩
abbrev Rh (l:List Cont):Nat→List AV:=qX Cont.cs l
def keysB (l:List Ev):List (List UInt8):=Lib.compact (sortL ((aG l).map fun e=>dI e.key))
def nU (l:List Ev):List Cont:=(keysB l).map fun k=>fJ ⟨k.toArray⟩ (bI l (aG l))
theorem bW.ac2 {e:TypeId} {s n n':Nat} {sc:Bool} {f f':Nat→List AV} (hn:n=n') (hf: ∀i,i<n→f i=f' i):bW (.row e s n sc f) (.row e s n' false f'):=by
 subst hn
 rintro X id ⟨us,hown,hs,hfl,_,ha⟩
 rw[oh hf]at ha
 exact⟨us,hown,hs,fun i hi=>by rw[←hf i hi];exact hfl i hi,(fun h=>by cases h),ha⟩
end
theorem gy {n a b:Int} (h:fQ n a b=true):a≤n∧n≤b:=by simpa[fQ]using h
theorem kT {n a b:Int} (h:a≤n∧n≤b):fQ n a b=true:=by simp[fQ,h.1,h.2]
structure ad2 (e:Ev):Prop where
 r0:0≤e.r
 r4:e.r≤4
 n1:1≤e.n
 n2:e.n≤1048576
 h1:1≤e.h
 h2:e.h≤16777216
 a0:0≤e.c.c0∧e.c.c0≤1048576
 a1:0≤e.c.c1∧e.c.c1≤1048576
 a2:0≤e.c.c2∧e.c.c2≤1048576
 a3:0≤e.c.c3∧e.c.c3≤1048576
 a4:0≤e.c.c4∧e.c.c4≤1048576
 own:e.c.get e.r=e.n-1
 ed:jJ e.ed=0
theorem yh {e:Ev} (h:eG e=0):ad2 e:=by
 unfold eG at h
 split at h
 · cases h
 · rename_i g1
   split at h
   · cases h
   · rename_i g2
     split at h
     · cases h
     · rename_i g3
       simp only[Bool.not_eq_true,Bool.not_eq_false',Bool.and_eq_true,nV]at g1 g2
       simp only[bne_iff_ne,ne_eq,Decidable.not_not]at g3
       obtain⟨⟨hr,hn⟩,hh⟩:=g1
       obtain⟨⟨⟨⟨h0,h1⟩,h2⟩,h3⟩,h4⟩:=g2
       exact⟨(gy hr).1,(gy hr).2,(gy hn).1,(gy hn).2,(gy hh).1,(gy hh).2,gy h0,gy h1,gy h2,gy h3,gy h4,g3,h⟩
theorem qI {e:Ed} (h:jJ e=0):1≤e.k∧e.k≤5∧1≤e.key.size∧e.key.size≤8∧wI e.key=true∧(dN e.k=true→0≤e.l∧e.l≤1∧1≤e.v.size∧e.v.size≤12)∧(dN e.k=false→e.l=0∧e.v.size=0):=by
 unfold jJ at h
 by_cases h1:e.k<1∨5<e.k
 · rw[if_pos h1]at h;cases h
 · rw [if_neg h1]at h
   by_cases h2:keyE e.key≠0
   · rw[if_pos h2]at h;exact absurd h h2
   · rw [if_neg h2]at h
     have hk:keyE e.key=0:=by simpa using h2
     unfold keyE at hk
     split at hk
     · rename_i hk'
       refine⟨by omega,by omega,hk'.1,hk'.2.1,hk'.2.2, ?_, ?_⟩
       · intro hl
         simp only[dN,Bool.and_eq_true,bne_iff_ne,ne_eq]at hl
         rw[if_neg (by omega)]at h
         by_cases h3:l7 e.l≠0
         · rw[if_pos h3]at h;exact absurd h h3
         · rw[if_neg h3]at h
           have h4:l7 e.l=0:=by simpa using h3
           unfold l7 at h4
           unfold fA at h
           split at h4
           · split at h
             · rename_i a b;exact⟨by omega,by omega,b.1,b.2⟩
             · cases h
           · cases h4
       · intro hl
         simp only[dN,Bool.and_eq_false_iff,bne_eq_false_iff_eq]at hl
         rw[if_pos hl]at h
         by_cases h3:e.l≠0
         · rw[if_pos h3]at h;cases h
         · rw[if_neg h3]at h
           by_cases h4:e.v.size≠0
           · rw[if_pos h4]at h;cases h
           · exact⟨by simpa using h3,by simpa using h4⟩
     · cases hk
theorem oM {e:Ev} (m:ad2 e):eG e=0:=by
 unfold eG nV
 rw[kT ⟨m.r0,m.r4⟩,kT ⟨m.n1,m.n2⟩,kT ⟨m.h1,m.h2⟩,kT m.a0,kT m.a1,kT m.a2,kT m.a3,kT m.a4]
 have:=m.own
 simp[this,m.ed]
end Go.Proofs.YtimhagicagdkfaaGreat
