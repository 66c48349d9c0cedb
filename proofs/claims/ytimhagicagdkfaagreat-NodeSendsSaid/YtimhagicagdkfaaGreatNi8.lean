/-
  Contracts of the walk:BkS,BkL,BkF,BkG,EvM.
-/
import Derived.Test.YtimhagicagdkfaaGreatNi6
import Derived.Test.YtimhagicagdkfaaGreatNi7
import Derived.Lib.RowBridge
import Derived.Laws.StructEq
import Derived.Laws.Cover2
set_option maxHeartbeats 16000000
set_option maxRecDepth 100000
set_option linter.unusedVariables false
set_option linter.unusedSimpArgs false
namespace Go.Proofs.YtimhagicagdkfaaGreat
section
open Go.RowKit Go.Sort
def iy (l:List (List UInt8)):Nat→List AV:=fun i=>[.v (encStr (l.getD i []))]
def sortL (l:List (List UInt8)):List (List UInt8):=l.mergeSort fun x y=>decide (x≤y)
theorem vX: ∀l:List (List UInt8),flat l.length (iy l)=l.map fun x=>AV.v (encStr x)
  |[]=>rfl
  | x::l=>by
    show [AV.v (encStr x)]++flat l.length (iy l)=_
    rw[vX l]
    rfl
theorem aek {w:World} {keep:Nat→Prop} {x u:Value} (h:PC w keep (.v x) u):u=x:=by cases h;rfl
theorem XR {w:World} {keep:Nat→Prop} {l:List (List UInt8)} {us:List Value} (h:aF (PC w keep) (flat l.length (iy l)) us):us=l.map encStr:=by
 rw[vX]at h
 apply List.ext_getElem?
 intro i
 rcases Nat.lt_or_ge i us.length with hi|hi
 · have hl:i<l.length:=by have:=h.1;rw[List.length_map]at this;omega
   have h2:=h.2 i (.v (encStr l[i])) us[i] (by rw[List.getElem?_map,List.getElem?_eq_getElem hl];rfl) (List.getElem?_eq_getElem hi)
   rw[List.getElem?_eq_getElem hi,List.getElem?_map,List.getElem?_eq_getElem hl,aek h2]
   rfl
 · have hl:l.length≤i:=by have:=h.1;rw[List.length_map]at this;omega
   rw[List.getElem?_eq_none hi,List.getElem?_eq_none (by rw[List.length_map];exact hl)]
theorem XT {w:World} {keep:Nat→Prop} (l:List (List UInt8)):aF (PC w keep) (flat l.length (iy l)) (l.map encStr):=by
 rw[vX]
 refine⟨by simp,fun i x u hx hu=>?_⟩
 rw[List.getElem?_map]at hx hu
 cases hl:l[i]? with
 |none=>rw[hl]at hx;cases hx
 | some y=>
   rw[hl]at hx hu
   simp only[Option.map_some,Option.some.injEq]at hx hu
   subst hx hu
   exact .v _ rfl
theorem SE {w:World} {keep:Nat→Prop} {ρ:Nat→Value} {id g cap:Nat} {cur:Array Value} (l:List (List UInt8)) (hv:ρ id= .slice (some ⟨g,0,none⟩) l.length cap) (hg:w.heap[g]? =some (.cells cur 9 (0,0))) (h1:l.length≤cap) (h2:cap≤maxLen) (h3:cur.size=cap) (h4:cur.toList.take l.length=l.map encStr):
  aZ ⟨w,keep,ρ⟩ id (.row 9 1 l.length true (iy l)):=by
 refine⟨l.map encStr,⟨by simp,.inr ⟨g,cap,cur,hv,Nat.zero_le _,hg,h1,h2,by omega,by rw[Nat.mul_one];exact h4⟩⟩,by omega,fun _ _=>rfl,fun _ x hx=>?_,XT l⟩
 rw[vX]at hx
 obtain⟨y,_,rfl⟩:=List.mem_map.1 hx
 exact⟨_,rfl⟩
theorem NQ {α:Type} [Inhabited α] (enc:α→Value) (w:World) (n g:Nat) (d:Array α) (os:Array Obj) {cur:Array Value} {e:TypeId} (h:w.heap[g]? =some (.cells cur e (0,0))):
  w.heap.size≤(grow (putRow enc (Go.Sort.ahead w n) g 0 d) os).heap.size∧(∀k,k<w.heap.size→k≠g→(grow (putRow enc (Go.Sort.ahead w n) g 0 d) os).heap[k]? =w.heap[k]?)∧(grow (putRow enc (Go.Sort.ahead w n) g 0 d) os).heap[g]? =some (.cells (putCells enc 0 d cur) e (0,0)):=by
 have hlt:g<w.heap.size:=by
  rcases Nat.lt_or_ge g w.heap.size with h'|h'
  · exact h'
  · rw[Array.getElem?_eq_none h']at h;cases h
 refine⟨by simp[grow,putRow,mapBlock,Go.Sort.ahead],fun k hk hne=>?_, ?_⟩
 · simp only[grow,putRow,mapBlock,Go.Sort.ahead]
   rw[Array.getElem?_append_left (by rw[Array.size_modify];exact hk),Array.getElem?_modify,if_neg (fun e=>hne e.symm)]
 · simp only[grow,putRow,mapBlock,Go.Sort.ahead]
   rw[Array.getElem?_append_left (by rw[Array.size_modify];exact hlt),Array.getElem?_modify,if_pos rfl,h]
   rfl
theorem NR (d:List (List UInt8)) (cur:Array Value) (n:Nat) (h:d.length≤cur.size) (hn:n≤d.length):(putCells encStr 0 d.toArray cur).toList.take n=(d.take n).map encStr:=by
 apply List.ext_getElem?
 intro i
 rw[List.getElem?_take,List.getElem?_map,List.getElem?_take]
 by_cases hi:i<n
 · rw[if_pos hi,if_pos hi]
   have hc:i<cur.size:=by omega
   have hd:i<d.length:=by omega
   rw[Array.getElem?_toList]
   simp only[putCells,Array.getElem?_mapIdx,Array.getElem?_eq_getElem hc,Option.map_some]
   rw[if_pos (by simp;omega),List.getElem?_eq_getElem hd]
   simp[hd]
 · rw[if_neg hi,if_neg hi]
   rfl
theorem IZ {w:World} {g:Nat} {cur:Array Value} {e:TypeId} (l:List (List UInt8)) (hg:w.heap[g]? =some (.cells cur e (0,0))) (h:cur.toList.take l.length=l.map encStr):Holds encStr w g 0 l.toArray:=by
 intro j hj
 have hj:j<l.length:=hj
 have hc:cur[j]? =some (encStr l[j]):=by
  have:=congrArg (·[j]?) h
  simp only[List.getElem?_take,List.getElem?_map,List.getElem?_eq_getElem hj,if_pos hj,Option.map_some,Array.getElem?_toList]at this
  exact this
 constructor
 · simp[World.cell?,hg,hc,hj]
 · simp[World.frozen?,hg]
theorem um (l:List (List UInt8)) (hl:l.length≤1000000000):
  aW Tryz.prog 120 [(0,.row 9 1 l.length true (iy l))] [.own 0] (.dL []) [(0,.row 9 1 l.length true (iy (sortL l)))]:=by
 refine⟨⟨_,_,Tryz.func120,rfl,rfl⟩,fun w keep ρ args hk kL hnd hbl hargs=>?_⟩
 have hso:(sortL l).length=l.length:=List.length_mergeSort ..
 obtain⟨us,hown,_,_,_,ha⟩:=kL _ (List.mem_singleton.2 rfl)
 have hus:=XR ha
 subst hus
 obtain⟨u,rfl,hu⟩:=qR hargs
 have hu:u=ρ 0:=Eq.trans (show u=dZ (ρ 0)from hu) (fQ hown)
 subst hu
 rcases hown.2 with⟨hv,hn⟩|⟨g,cap,cur,hv,_,hg,hncap,hcm,hcs,htk⟩
 · have hnil:l=[]:=List.eq_nil_of_length_eq_zero hn
   subst hnil
   have hc:=Tryz.slices_Sort_string_none none 0 w
   rw[show(ρ 0)= .slice none 0 0 from hv]
   refine hc.mono ?_
   rintro e w' ⟨rfl,rfl⟩
   refine⟨_,ρ,rfl,eF.refl _ _ _,fun _ _ _ _ _=> .refl _,⟨[],rfl,aF.nil⟩,fun p hp=>?_,hnd,fun b hb=> .inr hb⟩
   obtain rfl:=List.mem_singleton.1 hp
   exact⟨[],⟨rfl,.inl ⟨hv,rfl⟩⟩,by omega,fun i hi=>absurd hi (Nat.not_lt_zero i),fun _ x hx=>absurd hx (by simp[flat]),aF.nil⟩
 · have hlt:g<w.heap.size:=by
    rcases Nat.lt_or_ge g w.heap.size with h'|h'
    · exact h'
    · rw[Array.getElem?_eq_none h']at hg;cases hg
   rw[Nat.mul_one]at htk hcs
   have hc:=Tryz.slices_Sort_string g 0 cap l w (IZ l hg htk) hlt (by omega)
   rw[show(ρ 0)= .slice (some ⟨g,0,none⟩) l.length cap from hv]
   refine hc.mono ?_
   rintro e w' ⟨rfl,n,os,rfl⟩
   obtain⟨h1,h2,h3⟩:=NQ encStr w n g (sortL l).toArray os hg
   have hb:g∈ah ρ [(0,AO.row 9 1 l.length true (iy l))]:=aO.2 ⟨_,List.mem_singleton.2 rfl,by rw[show ρ 0= .slice (some ⟨g,0,none⟩) l.length cap from hv];exact List.mem_cons_self⟩
   refine⟨_,ρ,rfl,⟨rfl,rfl,rfl,h1,fun k hk hM=>h2 k hk (by rintro rfl;exact hM hb)⟩,fun _ _ _ _ _=> .refl _,⟨[],rfl,aF.nil⟩,fun p hp=>?_,hnd,fun b hb=> .inr hb⟩
   obtain rfl:=List.mem_singleton.1 hp
   have:=SE (w:=grow (putRow encStr (Go.Sort.ahead w n) g 0 (sortL l).toArray) os) (keep:=(aB (gU w keep (fun b=>b∈ah ρ [(0,AO.row 9 1 l.length true (iy l))])) (grow (putRow encStr (Go.Sort.ahead w n) g 0 (sortL l).toArray) os) ρ [(0,AO.row 9 1 l.length true (iy (sortL l)))]).keep) (ρ:=ρ) (id:=0) (sortL l) (by rw[hso];exact hv) h3 (by omega) hcm (by simp[putCells];exact hcs) (by rw[NR _ _ _ (by omega) (Nat.le_refl _),List.take_length])
   rw[hso]at this
   exact this
theorem uo (l:List (List UInt8)):(Lib.compact l).length≤l.length:=Lib.compact_length_le l
theorem nZ (l:List (List UInt8)) (hl:l.length≤1000000000):
  aW Tryz.prog 124 [(0,.row 9 1 l.length true (iy l))] [.own 0] (.own 1) [(1,.row 9 1 (Lib.compact l).length true (iy (Lib.compact l)))]:=by
 refine⟨⟨_,_,Tryz.func124,rfl,rfl⟩,fun w keep ρ args hk kL hnd hbl hargs=>?_⟩
 have hle:=uo l
 obtain⟨us,hown,_,_,_,ha⟩:=kL _ (List.mem_singleton.2 rfl)
 have hus:=XR ha
 subst hus
 obtain⟨u,rfl,hu⟩:=qR hargs
 have hu:u=ρ 0:=Eq.trans (show u=dZ (ρ 0)from hu) (fQ hown)
 subst hu
 rcases hown.2 with⟨hv,hn⟩|⟨g,cap,cur,hv,_,hg,hncap,hcm,hcs,htk⟩
 · have hnil:l=[]:=List.eq_nil_of_length_eq_zero hn
   subst hnil
   have hc:=Tryz.slices_Compact_string_empty none 0 w
   rw[show(ρ 0)= .slice none 0 0 from hv]
   refine hc.mono ?_
   rintro e w' ⟨rfl,rfl⟩
   let ρ':Nat→Value:=fun _=> .slice none 0 0
   refine⟨_,ρ',rfl,eF.refl _ _ _,fun p hp q hq h=>?_,rfl,fun p hp=>?_, ?_, ?_⟩
   · obtain rfl:=List.mem_singleton.1 hp
     obtain rfl:=List.mem_singleton.1 hq
     cases h
   · obtain rfl:=List.mem_singleton.1 hp
     exact⟨[],⟨rfl,.inl ⟨rfl,rfl⟩⟩,by omega,fun i hi=>absurd hi (Nat.not_lt_zero i),fun _ x hx=>absurd hx (by rw[show Lib.compact ([]:List (List UInt8))=[]from rfl];simp[flat]),aF.nil⟩
   · simp[ah,ρ',blks,jg]
   · intro b hb
     simp[ah,ρ',blks,jg]at hb
 · have hlt:g<w.heap.size:=by
    rcases Nat.lt_or_ge g w.heap.size with h'|h'
    · exact h'
    · rw[Array.getElem?_eq_none h']at hg;cases hg
   rw[Nat.mul_one]at htk hcs
   have hc:=Tryz.slices_Compact_string g 0 cap l w (IZ l hg htk) (by omega) hncap
   rw[show(ρ 0)= .slice (some ⟨g,0,none⟩) l.length cap from hv]
   refine hc.mono ?_
   rintro e w' ⟨rfl,n,rfl⟩
   obtain⟨d,hd⟩: ∃d,d=Lib.compact l++List.replicate (l.length-(Lib.compact l).length) []:=⟨_,rfl⟩
   have hdl:d.length=l.length:=by rw[hd,List.length_append,List.length_replicate];omega
   rw[←hd]
   obtain⟨h1,h2,h3⟩:=NQ encStr w n g d.toArray #[] hg
   rw[grow_empty]at h1 h2 h3
   have hb:g∈ah ρ [(0,AO.row 9 1 l.length true (iy l))]:=aO.2 ⟨_,List.mem_singleton.2 rfl,by rw[show ρ 0= .slice (some ⟨g,0,none⟩) l.length cap from hv];exact List.mem_cons_self⟩
   let ρ':Nat→Value:=fun _=> .slice (some ⟨g,0,none⟩) (Lib.compact l).length cap
   refine⟨_,ρ',rfl,⟨rfl,rfl,rfl,h1,fun k hk hM=>h2 k hk (by rintro rfl;exact hM hb)⟩,fun p hp q hq h=>?_,rfl,fun p hp=>?_, ?_, ?_⟩
   · obtain rfl:=List.mem_singleton.1 hp
     obtain rfl:=List.mem_singleton.1 hq
     cases h
   · obtain rfl:=List.mem_singleton.1 hp
     exact SE (Lib.compact l) rfl h3 (by omega) hcm (by simp[putCells];exact hcs) (by rw[NR _ _ _ (by omega) (by omega),hd,List.take_left])
   · simp[ah,ρ',blks,jg]
   · intro b hbm
     have:b=g:=by simpa[ah,ρ',blks,jg]using hbm
     subst this
     exact .inr hb
end
section
open Go.RowKit
abbrev St:=Int×Int
def stV (a:St):List Value:=[.int .i64 a.1,.int .i64 a.2]
def SG (a:St):List AV:=[.v (.int .i64 a.1),.v (.int .i64 a.2)]
abbrev KR (l:List St):Nat→List AV:=qL SG l
def jO (a b:St):Bool:=if a.1=b.1 then decide (a.2<b.2)else decide (a.1<b.1)
def pG (m:St) (l:List St):St:=l.foldl (fun m s=>if jO m s=true then s else m) m
def Ak (l:List St):Nat:=l.findIdx fun s=>decide (s=pG (l.getD 0 default) l)
theorem SH: ∀ (l:List St) (m:St),pG m l=m∨pG m l∈l
  |[],_=> .inl rfl
  | x ::l,m=>by
    show pG (if jO m x=true then x else m) l=m∨_
    rcases SH l (if jO m x=true then x else m)with h|h
    · split at h
      · rename_i hx
        exact .inr (by show pG (if jO m x=true then x else m) l∈_;rw[if_pos hx,h];exact List.mem_cons_self)
      · rename_i hx
        exact .inl (by rw[if_neg hx];exact h)
    · exact .inr (List.mem_cons_of_mem _ h)
theorem Am {l:List St} (h:l≠[]):Ak l<l.length:=by
 have hm:pG (l.getD 0 default) l∈l:=by
  rcases SH l (l.getD 0 default)with h'|h'
  · rw[h']
    cases l with
    |nil=>exact absurd rfl h
    |cons x l=>exact List.mem_cons_self
  · exact h'
 exact List.findIdx_lt_length_of_exists ⟨_,hm,by simp⟩
theorem XU {m:St} {l:List St} {j:Nat} (hj:j<l.length):pG m (l.take (j+1))=if jO (pG m (l.take j)) (l.getD j default)=true then l.getD j default else pG m (l.take j):=by
 unfold pG
 rw[List.take_add_one,List.getElem?_eq_getElem hj,List.foldl_append,List.getD,List.getElem?_eq_getElem hj]
 rfl
theorem XV:Tryz.prog.eqGuardType Tryz.prog.depth 219=false:=by kernel_rfl
theorem aao (a b:St) (w:World):(Op.equalIn 10000 219 (.agg (stV a).toArray) (.agg (stV b).toArray)).run Tryz.prog w= .ok (decide (a.1=b.1∧a.2=b.2)) w:=by
 have hS:Tryz.prog.underlying 219=some (.struct (Tryz.prog.fieldsOf 219)):=by kernel_rfl
 have u3:=Tryz.underlying3
 have a3:=Tryz.isAgg3
 have z3:=Tryz.sizeOf3
 rw[show(10000:Nat)=9999+1 from rfl,run_equalIn_agg w 9999 219 _ _ hS (by kernel_rfl)]
 simp only[Program.fieldsOf,Tryz.underlying219]
 unfold stV
 go_simp
 repeat' split
 all_goals simp_all
theorem adC (a b:St):Ep Tryz.prog 219 (stV a) (stV b) (a=b):=
 ⟨XV,fun w=>⟨_,by rw[decide_eq_true_eq];exact⟨fun h=>Prod.ext h.1 h.2,fun h=>by rw[h];exact⟨rfl,rfl⟩⟩,aao a b w⟩⟩
theorem UJ (a b:St):aG Tryz.prog 183 [.agg (SG a),.agg (SG b)] (.v (.bool (jO a b))) []:=by
 dsimp only[SG]
 refine K1.E 0x21f Tryz.func183 ?_
 repeat' ((conv=>whnf);first|refine K1.w ?_|refine K1.a ?_|refine K1.b ?_|refine K1.d ?_|refine aJ.dR ?_|refine K1.z ?_|refine K1.q ?_|refine K1.bt ?_|refine K1.bf ?_|refine K1.y (fun _=>?_) (fun _=>?_)|refine iD.dec (fun _=>?_) (fun _=>?_)|refine iD.mk (fun _=>?_) (fun _=>?_))
 all_goals(conv=>whnf)
 all_goals(refine bG.mk (aT.of ?_))
 all_goals simp[jO, *]
theorem BN (l:List St) (hne:l≠[]) (hl:l.length≤1000000000):aG Tryz.prog 152 [.sl 2 l.length true (KR l)] (.v (.int .i64 (Ak l:Int))) []:=by
 have hpos:0<l.length:=List.length_pos_iff.2 hne
 refine K1.E 0x41e43c4ed Tryz.func152 ?_
 repeat' ((conv=>whnf);first|refine K1.w ?_|refine K1.u ?_|refine aJ.dR ?_|refine K1.z ?_|refine K1.y (fun _=>?_) (fun _=>?_)|fail)
 conv=>whnf
 refine aN.mk {j:Nat//j≤l.length} (fun j=>⟨[(0,.sl 2 l.length true (KR l)),(3,.box 0 0),(14,.sl 2 l.length true (KR l)),(15,.v (.int .i64 (l.length:Int))),(16,.v (.int .i64 (j.1:Int)))],
   [(0,.box 219 (SG (pG (l.getD 0 default) (l.take j.1))))],[],1⟩) (fun j=>l.length-j.1) ⟨0,Nat.zero_le _⟩ _
  (dO.mk' [] _ _ _ rfl ⟨aj,aj,aj,aT.int rfl,aT.int rfl,trivial⟩ ⟨aH rfl,trivial⟩ rfl) ?_
 rintro⟨j,hj⟩
 dsimp only
 by_cases hjl:j<l.length
 · have hst:=XU (m:=l.getD 0 default) hjl
   have hls:=UJ (pG (l.getD 0 default) (l.take j)) (l.getD (j:Int).toNat default)
   generalize pG (l.getD 0 default) (l.take j)=t at hst hls⊢
   rw[show l.getD j default=l.getD (j:Int).toNat default from rfl]at hst
   generalize jO t (l.getD (j:Int).toNat default)=q at hst hls
   dsimp only[SG]at hls⊢
   repeat' ((conv=>whnf);first|refine K1.w ?_|refine K1.u ?_|refine K1.P1 hls rfl ?_|refine aJ.dR ?_|refine K1.z ?_|refine K1.y (fun _=>?_) (fun _=>?_)|fail)
   all_goals(conv=>whnf)
   all_goals first
     | (refine⟨⟨j+1,hjl⟩,_,dO.mk' [] _ _ _ rfl ⟨aj,aj,aj,aT.int rfl,aT.int rfl,trivial⟩ ⟨⟨_,rfl, ?_⟩,trivial⟩ rfl,by show l.length-(j+1)<l.length-j;omega⟩
        show cO _ (.box _ (SG (pG (l.getD 0 default) (l.take (j+1)))))
        rw[hst,if_pos (by assumption)]
        exact cO.refl _)
     | (refine⟨⟨j+1,hjl⟩,_,dO.mk' [] _ _ _ rfl ⟨aj,aj,aj,aT.int rfl,aT.int rfl,trivial⟩ ⟨⟨_,rfl, ?_⟩,trivial⟩ rfl,by show l.length-(j+1)<l.length-j;omega⟩
        show cO _ (.box _ (SG (pG (l.getD 0 default) (l.take (j+1)))))
        rw[hst,if_neg (by rw[show q=false by assumption];simp)]
        exact cO.refl _)
 · have hW:l.take j=l:=List.take_of_length_le (by omega)
   rw[hW]
   have hlast:Ak l=l.findIdx fun s=>decide (s=pG (l.getD 0 default) l):=rfl
   have hlt:=Am hne
   generalize pG (l.getD 0 default) l=t at hlast⊢
   dsimp only[SG]
   repeat' ((conv=>whnf);first|refine K1.w ?_|refine K1.u ?_|refine aJ.dR ?_|refine K1.z ?_|refine K1.y (fun _=>?_) (fun _=>?_)|fail)
   all_goals(conv=>whnf)
   refine aN.mk {j:Nat//j≤l.length∧ ∀i,i<j→ ¬l.getD i default=t} (fun j=>⟨[(3,.box 0 0),(25,.sl 2 l.length true (KR l)),(26,.v (.int .i64 (l.length:Int))),(27,.v (.int .i64 (j.1:Int)))],
    [(0,.box 219 (SG t))],[],1⟩) (fun j=>l.length-j.1) ⟨0,Nat.zero_le _,fun i h=>absurd h (Nat.not_lt_zero i)⟩ _
    (dO.mk' [] _ _ _ rfl ⟨aj,aj,aT.int rfl,aT.int rfl,trivial⟩ ⟨aH rfl,trivial⟩ rfl) ?_
   rintro⟨j,hj,hall⟩
   dsimp only
   by_cases hjl:j<l.length
   · have hret:l.getD (j:Int).toNat default=t→Ak l=j:=by
      intro h
      have h:l.getD j default=t:=h
      rw[hlast]
      refine(List.findIdx_eq hjl).2 ⟨?_,fun i hi=>?_⟩
      · rw[List.getD,List.getElem?_eq_getElem hjl]at h
        exact decide_eq_true h
      · have:=hall i hi
        rw[List.getD,List.getElem?_eq_getElem (by omega)]at this
        exact decide_eq_false this
     have hno: ¬l.getD (j:Int).toNat default=t→ ∀i,i<j+1→ ¬l.getD i default=t:=by
      intro h i hi
      rcases Nat.lt_or_ge i j with h'|h'
      · exact hall i h'
      · obtain rfl:i=j:=by omega
        exact h
     dsimp only[SG]
     repeat' ((conv=>whnf);first|refine K1.w ?_|refine K1.u ?_|refine PD.mk (stV (l.getD (j:Int).toNat default)) (stV t) (l.getD (j:Int).toNat default=t) rfl rfl (adC _ _) ?_|refine aJ.dR ?_|refine K1.z ?_|refine K1.y (fun _=>?_) (fun _=>?_)|fail)
     all_goals(conv=>whnf)
     all_goals first
       |(rw[hret (by assumption)];exact bG.mk (aj))
       |exact⟨⟨j+1,hjl,hno (by assumption)⟩,_,dO.mk' [] _ _ _ rfl ⟨aj,aj,aT.int rfl,aT.int rfl,trivial⟩ ⟨aH rfl,trivial⟩ rfl,by show l.length-(j+1)<l.length-j;omega⟩
   · exfalso
     have h1:=hall (Ak l) (by omega)
     rw[List.getD,List.getElem?_eq_getElem hlt]at h1
     have h2:decide (l[l.findIdx fun s=>decide (s=t)]'(hlast▸hlt)=t)=true:=List.findIdx_getElem (p:=fun s=>decide (s=t))
     have h3:=of_decide_eq_true h2
     simp only[←hlast]at h3
     exact h1 h3
end
section
open Go.RowKit
def yG (key:ByteArray) (n:Int) (e:Ev):Bool:=decide (e.key=key)&&decide (e.l=n)
def dD (key:ByteArray) (n:Int) (ws:List Ev):List Ev:=ws.filter fun e=>yG key n e&&decide (e.k=3)
def dY (key:ByteArray) (n:Int) (ws:List Ev):List Ev:=ws.filter fun e=>yG key n e&& !decide (e.k=3)
def dN (b:ByteArray):List UInt8:=b.data.toList
def dA (e:Ev):St:=(e.h,e.r)
theorem qp (b:ByteArray):encStr (dN b)= .string b:=by
 obtain⟨a⟩:=b
 simp[dN]
theorem qw {l:List (List UInt8)} {x:List UInt8} {g:Nat→List AV} {n:Nat} (hn:n=l.length) (hg:g 0=[.v (encStr x)]): ∀i,i<n+1→qh n (iy l) g i=iy (l++[x]) i:=
 bJ (c:=fun x=>[.v (encStr x)]) hn hg
structure Cont where
 (key:ByteArray) (h0 h1:Bool) (f0 f1:ByteArray) (s0 s1:List (List UInt8))
def Cont.cs (c:Cont):List AV:=[.v (.string c.key),.v (.bool c.h0),.v (.bool c.h1),.v (.string c.f0),.v (.string c.f1),.sl 1 c.s0.length true (iy c.s0),.sl 1 c.s1.length true (iy c.s1)]
def KT (A:List Ev):Bool:= !decide (A.length=0)
def qx (A:List Ev):ByteArray:=if A.length=0 then⟨#[]⟩else⟨((A.map fun e=>dN e.v).getD (Ak (A.map dA)) []).toArray⟩
def valsF (B:List Ev):List (List UInt8):=Lib.compact (sortL (B.map fun e=>dN e.v))
def fH (key:ByteArray) (ws:List Ev):Cont:=⟨key,KT (dD key 0 ws),KT (dD key 1 ws),qx (dD key 0 ws),qx (dD key 1 ws),valsF (dY key 0 ws),valsF (dY key 1 ws)⟩
theorem KU (key:ByteArray) (ws:List Ev) (hl:ws.length≤1000000000):
  aG Tryz.prog 125 [.v (.string key),.sl 12 ws.length true (eG ws)] (.agg (fH key ws).cs) []:=by
 dsimp only[fH,Cont.cs]
 refine K1.E 0x2000009001ecbf3 Tryz.func125 ?_
 repeat' ((conv=>whnf);first|refine K1.w ?_|refine K1.a ?_|refine K1.b ?_|refine K1.d ?_|refine aJ.dR ?_|refine K1.z ?_|refine K1.q ?_|refine K1.bt ?_|refine K1.bf ?_|refine K1.y (fun _=>?_) (fun _=>?_)|refine iD.dec (fun _=>?_) (fun _=>?_)|refine iD.mk (fun _=>?_) (fun _=>?_))
 conv=>whnf
 refine aN.sO 14 3 rfl ?_
 repeat' ((conv=>whnf);first|refine K1.w ?_|refine K1.a ?_|refine K1.b ?_|refine K1.d ?_|refine aJ.dR ?_|refine K1.z ?_|refine K1.q ?_|refine K1.bt ?_|refine K1.bf ?_|refine K1.y (fun _=>?_) (fun _=>?_)|refine iD.dec (fun _=>?_) (fun _=>?_)|refine iD.mk (fun _=>?_) (fun _=>?_))
 conv=>whnf
 refine aN.nil 7 90 219 2 (KR []) rfl (by omega) ?_
 refine aN.nil 8 91 9 1 (iy []) rfl (by omega) ?_
 refine aN.nil 9 92 9 1 (iy []) rfl (by omega) ?_
 conv=>whnf
 refine aN.mk {j:Nat//j≤ws.length} (fun j=>⟨[(0,.v (.string key)),(1,.sl 12 ws.length true (eG ws)),(4,.box 0 0),(5,.box 1 0),(6,.v (.int .i64 0)),(14,.v (.int .i64 0)),(7,.own 90),(8,.own 91),(9,.own 92),(17,.sl 12 ws.length true (eG ws)),(18,.v (.int .i64 (ws.length:Int))),(19,.v (.int .i64 (j.1:Int)))],
   [(0,_),(1,_),(90,.row 219 2 ((dD key 0 (ws.take j.1)).map dA).length true (KR ((dD key 0 (ws.take j.1)).map dA))),
    (91,.row 9 1 ((dD key 0 (ws.take j.1)).map fun e=>dN e.v).length true (iy ((dD key 0 (ws.take j.1)).map fun e=>dN e.v))),
    (92,.row 9 1 ((dY key 0 (ws.take j.1)).map fun e=>dN e.v).length true (iy ((dY key 0 (ws.take j.1)).map fun e=>dN e.v)))],[],93⟩) (fun j=>ws.length-j.1) ⟨0,Nat.zero_le _⟩ _
  (dO.mk' [] _ _ _ rfl ⟨aj,aj,aj,aj,aj,aj,aj,aj,aj,aj,aj,aT.int rfl,trivial⟩ ⟨aH rfl,aH rfl,aH rfl,aH rfl,aH rfl,trivial⟩ rfl) ?_
 rintro⟨j,hj⟩
 dsimp only
 by_cases hjl:j<ws.length
 · have hA:(dD key 0 (ws.take j)).length≤j:=by
    have:=List.length_filter_le (fun e=>yG key 0 e&&decide (e.k=3)) (ws.take j)
    rw[List.length_take]at this
    unfold dD
    omega
   have hB:(dY key 0 (ws.take j)).length≤j:=by
    have:=List.length_filter_le (fun e=>yG key 0 e&& !decide (e.k=3)) (ws.take j)
    rw[List.length_take]at this
    unfold dY
    omega
   have sA:dD key 0 (ws.take (j+1))=dD key 0 (ws.take j)++(if(yG key 0 (ws.getD (j:Int).toNat default)&&decide ((ws.getD (j:Int).toNat default).k=3))=true then [ws.getD (j:Int).toNat default]else []):=dB hjl
   have sB:dY key 0 (ws.take (j+1))=dY key 0 (ws.take j)++(if(yG key 0 (ws.getD (j:Int).toNat default)&& !decide ((ws.getD (j:Int).toNat default).k=3))=true then [ws.getD (j:Int).toNat default]else []):=dB hjl
   generalize dD key 0 (ws.take j)=A at hA sA⊢
   generalize dY key 0 (ws.take j)=B at hB sB⊢
   have lA:(A.map dA).length=A.length:=List.length_map ..
   have lA2:(A.map fun e=>dN e.v).length=A.length:=List.length_map ..
   have lB:(B.map fun e=>dN e.v).length=B.length:=List.length_map ..
   have eqS {X Y:List St} (h:X=Y):cO (.row 219 2 X.length true (KR X)) (.row 219 2 Y.length true (KR Y)):=by rw[h];exact cO.refl _
   have SI {X Y:List (List UInt8)} (h:X=Y):cO (.row 9 1 X.length true (iy X)) (.row 9 1 Y.length true (iy Y)):=by rw[h];exact cO.refl _
   have XW:ws.length-(j+1)<ws.length-j:=by omega
   repeat' ((conv=>whnf);first|refine K1.w ?_|refine K1.a ?_|refine K1.b ?_|refine K1.d ?_|refine aJ.dR ?_|refine K1.z ?_|refine K1.q ?_|refine K1.bt ?_|refine K1.bf ?_|refine K1.y (fun _=>?_) (fun _=>?_)|refine iD.dec (fun _=>?_) (fun _=>?_)|refine iD.mk (fun _=>?_) (fun _=>?_))
   all_goals(conv=>whnf)
   · have kA:dD key 0 (ws.take (j+1))=A++[ws.getD (j:Int).toNat default]:=by rw[sA,if_pos (by simp only[yG];rw[decide_eq_true (by assumption),decide_eq_true (by assumption),decide_eq_true (by assumption)];rfl)]
     have kB:dY key 0 (ws.take (j+1))=B:=by rw[sB,if_neg (by rw[decide_eq_true (show(ws.getD (j:Int).toNat default).k=3 by assumption)];simp),List.append_nil]
     refine⟨⟨j+1,hjl⟩,_,dO.mk' [(95,90),(97,91)] _ _ _ rfl ⟨aj,aj,aj,aj,aj,aj,aj,aj,aj,aj,aj,aT.int rfl,trivial⟩ ⟨aH rfl,aH rfl,⟨_,rfl,cO.row ?_ (fun m hm=>?_)⟩,⟨_,rfl,cO.row ?_ (fun m hm=>?_)⟩,⟨_,rfl,SI (by rw[kB])⟩,trivial⟩ rfl,XW⟩
     · show _=((dD key 0 (ws.take (j+1))).map dA).length
       rw[kA,List.map_append,List.length_append]
       rfl
     · show _=KR ((dD key 0 (ws.take (j+1))).map dA) m
       rw[kA,List.map_append]
       exact bJ (c:=SG) (x:=dA (ws.getD (j:Int).toNat default)) rfl rfl m hm
     · show _=((dD key 0 (ws.take (j+1))).map fun e=>dN e.v).length
       rw[kA,List.map_append,List.length_append]
       rfl
     · show _=iy ((dD key 0 (ws.take (j+1))).map fun e=>dN e.v) m
       rw[kA,List.map_append]
       exact qw (x:=dN (ws.getD (j:Int).toNat default).v) rfl (by rw[qp];rfl) m hm
   · have kA:dD key 0 (ws.take (j+1))=A:=by rw[sA,if_neg (by rw[decide_eq_false (show¬ (ws.getD (j:Int).toNat default).k=3 by assumption)];simp),List.append_nil]
     have kB:dY key 0 (ws.take (j+1))=B++[ws.getD (j:Int).toNat default]:=by rw[sB,if_pos (by simp only[yG];rw[decide_eq_true (by assumption),decide_eq_true (by assumption),decide_eq_false (by assumption)];rfl)]
     refine⟨⟨j+1,hjl⟩,_,dO.mk' [(95,92)] _ _ _ rfl ⟨aj,aj,aj,aj,aj,aj,aj,aj,aj,aj,aj,aT.int rfl,trivial⟩ ⟨aH rfl,aH rfl,⟨_,rfl,eqS (by rw[kA])⟩,⟨_,rfl,SI (by rw[kA])⟩,⟨_,rfl,cO.row ?_ (fun m hm=>?_)⟩,trivial⟩ rfl,XW⟩
     · show _=((dY key 0 (ws.take (j+1))).map fun e=>dN e.v).length
       rw[kB,List.map_append,List.length_append]
       rfl
     · show _=iy ((dY key 0 (ws.take (j+1))).map fun e=>dN e.v) m
       rw[kB,List.map_append]
       exact qw (x:=dN (ws.getD (j:Int).toNat default).v) rfl (by rw[qp];rfl) m hm
   all_goals
    have hof:yG key 0 (ws.getD (j:Int).toNat default)=false:=by
     unfold yG
     first
       |(rw[decide_eq_false (show¬ (ws.getD (j:Int).toNat default).key=key by assumption)];rfl)
       |(rw[decide_eq_false (show¬ (ws.getD (j:Int).toNat default).l=0 by assumption)];simp)
    have kA:dD key 0 (ws.take (j+1))=A:=by rw[sA,hof];simp
    have kB:dY key 0 (ws.take (j+1))=B:=by rw[sB,hof];simp
    exact⟨⟨j+1,hjl⟩,_,dO.mk' [] _ _ _ rfl ⟨aj,aj,aj,aj,aj,aj,aj,aj,aj,aj,aj,aT.int rfl,trivial⟩ ⟨aH rfl,aH rfl,⟨_,rfl,eqS (by rw[kA])⟩,⟨_,rfl,SI (by rw[kA])⟩,⟨_,rfl,SI (by rw[kB])⟩,trivial⟩ rfl,XW⟩
 · rw [List.take_of_length_le (show ws.length≤j by omega)]
   have hA:(dD key 0 ws).length≤ws.length:=List.length_filter_le ..
   have hB:(dY key 0 ws).length≤ws.length:=List.length_filter_le ..
   generalize dD key 0 ws=A at hA⊢
   generalize dY key 0 ws=B at hB⊢
   have lA:(A.map dA).length=A.length:=List.length_map ..
   have lA2:(A.map fun e=>dN e.v).length=A.length:=List.length_map ..
   have lB:(B.map fun e=>dN e.v).length=B.length:=List.length_map ..
   have hso:=um (B.map fun e=>dN e.v) (by omega)
   have hsl:(sortL (B.map fun e=>dN e.v)).length=(B.map fun e=>dN e.v).length:=List.length_mergeSort ..
   have hco:=nZ (sortL (B.map fun e=>dN e.v)) (by omega)
   rw[hsl]at hco
   by_cases hz:A.length=0
   · repeat' ((conv=>whnf);first|refine K1.w ?_|refine K1.a ?_|refine K1.b ?_|refine K1.d ?_|refine K1.C 1 [(0,_)] (hso) rfl ?_|refine K1.C 1 [(0,_)] (hco) rfl ?_|refine aJ.dR ?_|refine K1.z ?_|refine K1.q ?_|refine K1.bt ?_|refine K1.bf ?_|refine K1.y (fun _=>?_) (fun _=>?_)|refine iD.dec (fun _=>?_) (fun _=>?_)|refine iD.mk (fun _=>?_) (fun _=>?_))
     conv=>whnf
     refine aN.nil 7 190 219 2 (KR []) rfl (by omega) ?_
     refine aN.nil 8 191 9 1 (iy []) rfl (by omega) ?_
     refine aN.nil 9 192 9 1 (iy []) rfl (by omega) ?_
     conv=>whnf
     refine aN.mk {j:Nat//j≤ws.length} (fun j=>⟨[(0,.v (.string key)),(1,.sl 12 ws.length true (eG ws)),(4,.box 0 0),(5,.box 1 0),(6,.v (.int .i64 1)),(14,.v (.int .i64 1)),(7,.own 190),(8,.own 191),(9,.own 192),(17,.sl 12 ws.length true (eG ws)),(18,.v (.int .i64 (ws.length:Int))),(19,.v (.int .i64 (j.1:Int)))],
       [(0,_),(1,_),(94,_),(190,.row 219 2 ((dD key 1 (ws.take j.1)).map dA).length true (KR ((dD key 1 (ws.take j.1)).map dA))),
        (191,.row 9 1 ((dD key 1 (ws.take j.1)).map fun e=>dN e.v).length true (iy ((dD key 1 (ws.take j.1)).map fun e=>dN e.v))),
        (192,.row 9 1 ((dY key 1 (ws.take j.1)).map fun e=>dN e.v).length true (iy ((dY key 1 (ws.take j.1)).map fun e=>dN e.v)))],[],193⟩) (fun j=>ws.length-j.1) ⟨0,Nat.zero_le _⟩ _
      (dO.mk' [] _ _ _ rfl ⟨aj,aj,aj,aj,aj,aj,aj,aj,aj,aj,aj,aT.int rfl,trivial⟩ ⟨aH rfl,aH rfl,aH rfl,aH rfl,aH rfl,aH rfl,trivial⟩ rfl) ?_
     rintro⟨j,hj⟩
     dsimp only
     by_cases hjl:j<ws.length
     · have hA:(dD key 1 (ws.take j)).length≤j:=by
        have:=List.length_filter_le (fun e=>yG key 1 e&&decide (e.k=3)) (ws.take j)
        rw[List.length_take]at this
        unfold dD
        omega
       have hB:(dY key 1 (ws.take j)).length≤j:=by
        have:=List.length_filter_le (fun e=>yG key 1 e&& !decide (e.k=3)) (ws.take j)
        rw[List.length_take]at this
        unfold dY
        omega
       have sA:dD key 1 (ws.take (j+1))=dD key 1 (ws.take j)++(if(yG key 1 (ws.getD (j:Int).toNat default)&&decide ((ws.getD (j:Int).toNat default).k=3))=true then [ws.getD (j:Int).toNat default]else []):=dB hjl
       have sB:dY key 1 (ws.take (j+1))=dY key 1 (ws.take j)++(if(yG key 1 (ws.getD (j:Int).toNat default)&& !decide ((ws.getD (j:Int).toNat default).k=3))=true then [ws.getD (j:Int).toNat default]else []):=dB hjl
       generalize dD key 1 (ws.take j)=A at hA sA⊢
       generalize dY key 1 (ws.take j)=B at hB sB⊢
       have lA:(A.map dA).length=A.length:=List.length_map ..
       have lA2:(A.map fun e=>dN e.v).length=A.length:=List.length_map ..
       have lB:(B.map fun e=>dN e.v).length=B.length:=List.length_map ..
       have eqS {X Y:List St} (h:X=Y):cO (.row 219 2 X.length true (KR X)) (.row 219 2 Y.length true (KR Y)):=by rw[h];exact cO.refl _
       have SI {X Y:List (List UInt8)} (h:X=Y):cO (.row 9 1 X.length true (iy X)) (.row 9 1 Y.length true (iy Y)):=by rw[h];exact cO.refl _
       have XW:ws.length-(j+1)<ws.length-j:=by omega
       repeat' ((conv=>whnf);first|refine K1.w ?_|refine K1.a ?_|refine K1.b ?_|refine K1.d ?_|refine aJ.dR ?_|refine K1.z ?_|refine K1.q ?_|refine K1.bt ?_|refine K1.bf ?_|refine K1.y (fun _=>?_) (fun _=>?_)|refine iD.dec (fun _=>?_) (fun _=>?_)|refine iD.mk (fun _=>?_) (fun _=>?_))
       all_goals(conv=>whnf)
       · have kA:dD key 1 (ws.take (j+1))=A++[ws.getD (j:Int).toNat default]:=by rw[sA,if_pos (by simp only[yG];rw[decide_eq_true (by assumption),decide_eq_true (by assumption),decide_eq_true (by assumption)];rfl)]
         have kB:dY key 1 (ws.take (j+1))=B:=by rw[sB,if_neg (by rw[decide_eq_true (show(ws.getD (j:Int).toNat default).k=3 by assumption)];simp),List.append_nil]
         refine⟨⟨j+1,hjl⟩,_,dO.mk' [(195,190),(197,191)] _ _ _ rfl ⟨aj,aj,aj,aj,aj,aj,aj,aj,aj,aj,aj,aT.int rfl,trivial⟩ ⟨aH rfl,aH rfl,aH rfl,⟨_,rfl,cO.row ?_ (fun m hm=>?_)⟩,⟨_,rfl,cO.row ?_ (fun m hm=>?_)⟩,⟨_,rfl,SI (by rw[kB])⟩,trivial⟩ rfl,XW⟩
         · show _=((dD key 1 (ws.take (j+1))).map dA).length
           rw[kA,List.map_append,List.length_append]
           rfl
         · show _=KR ((dD key 1 (ws.take (j+1))).map dA) m
           rw[kA,List.map_append]
           exact bJ (c:=SG) (x:=dA (ws.getD (j:Int).toNat default)) rfl rfl m hm
         · show _=((dD key 1 (ws.take (j+1))).map fun e=>dN e.v).length
           rw[kA,List.map_append,List.length_append]
           rfl
         · show _=iy ((dD key 1 (ws.take (j+1))).map fun e=>dN e.v) m
           rw[kA,List.map_append]
           exact qw (x:=dN (ws.getD (j:Int).toNat default).v) rfl (by rw[qp];rfl) m hm
       · have kA:dD key 1 (ws.take (j+1))=A:=by rw[sA,if_neg (by rw[decide_eq_false (show¬ (ws.getD (j:Int).toNat default).k=3 by assumption)];simp),List.append_nil]
         have kB:dY key 1 (ws.take (j+1))=B++[ws.getD (j:Int).toNat default]:=by rw[sB,if_pos (by simp only[yG];rw[decide_eq_true (by assumption),decide_eq_true (by assumption),decide_eq_false (by assumption)];rfl)]
         refine⟨⟨j+1,hjl⟩,_,dO.mk' [(195,192)] _ _ _ rfl ⟨aj,aj,aj,aj,aj,aj,aj,aj,aj,aj,aj,aT.int rfl,trivial⟩ ⟨aH rfl,aH rfl,aH rfl,⟨_,rfl,eqS (by rw[kA])⟩,⟨_,rfl,SI (by rw[kA])⟩,⟨_,rfl,cO.row ?_ (fun m hm=>?_)⟩,trivial⟩ rfl,XW⟩
         · show _=((dY key 1 (ws.take (j+1))).map fun e=>dN e.v).length
           rw[kB,List.map_append,List.length_append]
           rfl
         · show _=iy ((dY key 1 (ws.take (j+1))).map fun e=>dN e.v) m
           rw[kB,List.map_append]
           exact qw (x:=dN (ws.getD (j:Int).toNat default).v) rfl (by rw[qp];rfl) m hm
       all_goals
        have hof:yG key 1 (ws.getD (j:Int).toNat default)=false:=by
         unfold yG
         first
           |(rw[decide_eq_false (show¬ (ws.getD (j:Int).toNat default).key=key by assumption)];rfl)
           |(rw[decide_eq_false (show¬ (ws.getD (j:Int).toNat default).l=1 by assumption)];simp)
        have kA:dD key 1 (ws.take (j+1))=A:=by rw[sA,hof];simp
        have kB:dY key 1 (ws.take (j+1))=B:=by rw[sB,hof];simp
        exact⟨⟨j+1,hjl⟩,_,dO.mk' [] _ _ _ rfl ⟨aj,aj,aj,aj,aj,aj,aj,aj,aj,aj,aj,aT.int rfl,trivial⟩ ⟨aH rfl,aH rfl,aH rfl,⟨_,rfl,eqS (by rw[kA])⟩,⟨_,rfl,SI (by rw[kA])⟩,⟨_,rfl,SI (by rw[kB])⟩,trivial⟩ rfl,XW⟩
     · rw[List.take_of_length_le (show ws.length≤j by omega)]
       have hA1:(dD key 1 ws).length≤ws.length:=List.length_filter_le ..
       have hB1:(dY key 1 ws).length≤ws.length:=List.length_filter_le ..
       generalize dD key 1 ws=A1 at hA1⊢
       generalize dY key 1 ws=B1 at hB1⊢
       have lA1:(A1.map dA).length=A1.length:=List.length_map ..
       have ael:(A1.map fun e=>dN e.v).length=A1.length:=List.length_map ..
       have lB1:(B1.map fun e=>dN e.v).length=B1.length:=List.length_map ..
       have XY:=um (B1.map fun e=>dN e.v) (by omega)
       have hsl1:(sortL (B1.map fun e=>dN e.v)).length=(B1.map fun e=>dN e.v).length:=List.length_mergeSort ..
       have Qw:=nZ (sortL (B1.map fun e=>dN e.v)) (by omega)
       rw[hsl1]at Qw
       by_cases hz1:A1.length=0
       · repeat' ((conv=>whnf);first|refine K1.w ?_|refine K1.a ?_|refine K1.b ?_|refine K1.d ?_|refine K1.C 1 [(0,_)] (XY) rfl ?_|refine K1.C 1 [(0,_)] (Qw) rfl ?_|refine aJ.dR ?_|refine K1.z ?_|refine K1.q ?_|refine K1.bt ?_|refine K1.bf ?_|refine K1.y (fun _=>?_) (fun _=>?_)|refine iD.dec (fun _=>?_) (fun _=>?_)|refine iD.mk (fun _=>?_) (fun _=>?_))
         conv=>whnf
         simp only[KT,qx,valsF,if_pos hz,decide_eq_true hz,Bool.not_true,if_pos hz1,decide_eq_true hz1,Bool.not_true]
         exact bG.mk (aj)
       · have acw:=BN (A1.map dA) (fun h=>hz1 (by rw[←lA1,h];rfl)) (by omega)
         have hlt1:=Am (l:=A1.map dA) (fun h=>hz1 (by rw[←lA1,h];rfl))
         repeat' ((conv=>whnf);first|refine K1.w ?_|refine K1.a ?_|refine K1.b ?_|refine K1.d ?_|refine K1.C 1 [(0,_)] (XY) rfl ?_|refine K1.C 1 [(0,_)] (Qw) rfl ?_|refine K1.P1 acw rfl ?_|refine aJ.dR ?_|refine K1.z ?_|refine K1.q ?_|refine K1.bt ?_|refine K1.bf ?_|refine K1.y (fun _=>?_) (fun _=>?_)|refine iD.dec (fun _=>?_) (fun _=>?_)|refine iD.mk (fun _=>?_) (fun _=>?_))
         rotate_left
         · exact absurd (show Nat.ble _ _=false by assumption) (by rw[Bool.not_eq_false,Nat.ble_eq];omega)
         conv=>whnf
         simp only[KT,qx,valsF,if_pos hz,decide_eq_true hz,Bool.not_true,if_neg hz1,decide_eq_false hz1,Bool.not_false]
         exact bG.mk (aj)
   · have hla:=BN (A.map dA) (fun h=>hz (by rw[←lA,h];rfl)) (by omega)
     have hlt:=Am (l:=A.map dA) (fun h=>hz (by rw[←lA,h];rfl))
     repeat' ((conv=>whnf);first|refine K1.w ?_|refine K1.a ?_|refine K1.b ?_|refine K1.d ?_|refine K1.C 1 [(0,_)] (hso) rfl ?_|refine K1.C 1 [(0,_)] (hco) rfl ?_|refine K1.P1 hla rfl ?_|refine aJ.dR ?_|refine K1.z ?_|refine K1.q ?_|refine K1.bt ?_|refine K1.bf ?_|refine K1.y (fun _=>?_) (fun _=>?_)|refine iD.dec (fun _=>?_) (fun _=>?_)|refine iD.mk (fun _=>?_) (fun _=>?_))
     rotate_left
     · exact absurd (show Nat.ble _ _=false by assumption) (by rw[Bool.not_eq_false,Nat.ble_eq];omega)
     conv=>whnf
     refine aN.nil 7 190 219 2 (KR []) rfl (by omega) ?_
     refine aN.nil 8 191 9 1 (iy []) rfl (by omega) ?_
     refine aN.nil 9 192 9 1 (iy []) rfl (by omega) ?_
     conv=>whnf
     refine aN.mk {j:Nat//j≤ws.length} (fun j=>⟨[(0,.v (.string key)),(1,.sl 12 ws.length true (eG ws)),(4,.box 0 0),(5,.box 1 0),(6,.v (.int .i64 1)),(14,.v (.int .i64 1)),(7,.own 190),(8,.own 191),(9,.own 192),(17,.sl 12 ws.length true (eG ws)),(18,.v (.int .i64 (ws.length:Int))),(19,.v (.int .i64 (j.1:Int)))],
       [(0,_),(1,_),(94,_),(190,.row 219 2 ((dD key 1 (ws.take j.1)).map dA).length true (KR ((dD key 1 (ws.take j.1)).map dA))),
        (191,.row 9 1 ((dD key 1 (ws.take j.1)).map fun e=>dN e.v).length true (iy ((dD key 1 (ws.take j.1)).map fun e=>dN e.v))),
        (192,.row 9 1 ((dY key 1 (ws.take j.1)).map fun e=>dN e.v).length true (iy ((dY key 1 (ws.take j.1)).map fun e=>dN e.v)))],[],193⟩) (fun j=>ws.length-j.1) ⟨0,Nat.zero_le _⟩ _
      (dO.mk' [] _ _ _ rfl ⟨aj,aj,aj,aj,aj,aj,aj,aj,aj,aj,aj,aT.int rfl,trivial⟩ ⟨aH rfl,aH rfl,aH rfl,aH rfl,aH rfl,aH rfl,trivial⟩ rfl) ?_
     rintro⟨j,hj⟩
     dsimp only
     by_cases hjl:j<ws.length
     · have hA:(dD key 1 (ws.take j)).length≤j:=by
        have:=List.length_filter_le (fun e=>yG key 1 e&&decide (e.k=3)) (ws.take j)
        rw[List.length_take]at this
        unfold dD
        omega
       have hB:(dY key 1 (ws.take j)).length≤j:=by
        have:=List.length_filter_le (fun e=>yG key 1 e&& !decide (e.k=3)) (ws.take j)
        rw[List.length_take]at this
        unfold dY
        omega
       have sA:dD key 1 (ws.take (j+1))=dD key 1 (ws.take j)++(if(yG key 1 (ws.getD (j:Int).toNat default)&&decide ((ws.getD (j:Int).toNat default).k=3))=true then [ws.getD (j:Int).toNat default]else []):=dB hjl
       have sB:dY key 1 (ws.take (j+1))=dY key 1 (ws.take j)++(if(yG key 1 (ws.getD (j:Int).toNat default)&& !decide ((ws.getD (j:Int).toNat default).k=3))=true then [ws.getD (j:Int).toNat default]else []):=dB hjl
       generalize dD key 1 (ws.take j)=A at hA sA⊢
       generalize dY key 1 (ws.take j)=B at hB sB⊢
       have lA:(A.map dA).length=A.length:=List.length_map ..
       have lA2:(A.map fun e=>dN e.v).length=A.length:=List.length_map ..
       have lB:(B.map fun e=>dN e.v).length=B.length:=List.length_map ..
       have eqS {X Y:List St} (h:X=Y):cO (.row 219 2 X.length true (KR X)) (.row 219 2 Y.length true (KR Y)):=by rw[h];exact cO.refl _
       have SI {X Y:List (List UInt8)} (h:X=Y):cO (.row 9 1 X.length true (iy X)) (.row 9 1 Y.length true (iy Y)):=by rw[h];exact cO.refl _
       have XW:ws.length-(j+1)<ws.length-j:=by omega
       repeat' ((conv=>whnf);first|refine K1.w ?_|refine K1.a ?_|refine K1.b ?_|refine K1.d ?_|refine aJ.dR ?_|refine K1.z ?_|refine K1.q ?_|refine K1.bt ?_|refine K1.bf ?_|refine K1.y (fun _=>?_) (fun _=>?_)|refine iD.dec (fun _=>?_) (fun _=>?_)|refine iD.mk (fun _=>?_) (fun _=>?_))
       all_goals(conv=>whnf)
       · have kA:dD key 1 (ws.take (j+1))=A++[ws.getD (j:Int).toNat default]:=by rw[sA,if_pos (by simp only[yG];rw[decide_eq_true (by assumption),decide_eq_true (by assumption),decide_eq_true (by assumption)];rfl)]
         have kB:dY key 1 (ws.take (j+1))=B:=by rw[sB,if_neg (by rw[decide_eq_true (show(ws.getD (j:Int).toNat default).k=3 by assumption)];simp),List.append_nil]
         refine⟨⟨j+1,hjl⟩,_,dO.mk' [(195,190),(197,191)] _ _ _ rfl ⟨aj,aj,aj,aj,aj,aj,aj,aj,aj,aj,aj,aT.int rfl,trivial⟩ ⟨aH rfl,aH rfl,aH rfl,⟨_,rfl,cO.row ?_ (fun m hm=>?_)⟩,⟨_,rfl,cO.row ?_ (fun m hm=>?_)⟩,⟨_,rfl,SI (by rw[kB])⟩,trivial⟩ rfl,XW⟩
         · show _=((dD key 1 (ws.take (j+1))).map dA).length
           rw[kA,List.map_append,List.length_append]
           rfl
         · show _=KR ((dD key 1 (ws.take (j+1))).map dA) m
           rw[kA,List.map_append]
           exact bJ (c:=SG) (x:=dA (ws.getD (j:Int).toNat default)) rfl rfl m hm
         · show _=((dD key 1 (ws.take (j+1))).map fun e=>dN e.v).length
           rw[kA,List.map_append,List.length_append]
           rfl
         · show _=iy ((dD key 1 (ws.take (j+1))).map fun e=>dN e.v) m
           rw[kA,List.map_append]
           exact qw (x:=dN (ws.getD (j:Int).toNat default).v) rfl (by rw[qp];rfl) m hm
       · have kA:dD key 1 (ws.take (j+1))=A:=by rw[sA,if_neg (by rw[decide_eq_false (show¬ (ws.getD (j:Int).toNat default).k=3 by assumption)];simp),List.append_nil]
         have kB:dY key 1 (ws.take (j+1))=B++[ws.getD (j:Int).toNat default]:=by rw[sB,if_pos (by simp only[yG];rw[decide_eq_true (by assumption),decide_eq_true (by assumption),decide_eq_false (by assumption)];rfl)]
         refine⟨⟨j+1,hjl⟩,_,dO.mk' [(195,192)] _ _ _ rfl ⟨aj,aj,aj,aj,aj,aj,aj,aj,aj,aj,aj,aT.int rfl,trivial⟩ ⟨aH rfl,aH rfl,aH rfl,⟨_,rfl,eqS (by rw[kA])⟩,⟨_,rfl,SI (by rw[kA])⟩,⟨_,rfl,cO.row ?_ (fun m hm=>?_)⟩,trivial⟩ rfl,XW⟩
         · show _=((dY key 1 (ws.take (j+1))).map fun e=>dN e.v).length
           rw[kB,List.map_append,List.length_append]
           rfl
         · show _=iy ((dY key 1 (ws.take (j+1))).map fun e=>dN e.v) m
           rw[kB,List.map_append]
           exact qw (x:=dN (ws.getD (j:Int).toNat default).v) rfl (by rw[qp];rfl) m hm
       all_goals
        have hof:yG key 1 (ws.getD (j:Int).toNat default)=false:=by
         unfold yG
         first
           |(rw[decide_eq_false (show¬ (ws.getD (j:Int).toNat default).key=key by assumption)];rfl)
           |(rw[decide_eq_false (show¬ (ws.getD (j:Int).toNat default).l=1 by assumption)];simp)
        have kA:dD key 1 (ws.take (j+1))=A:=by rw[sA,hof];simp
        have kB:dY key 1 (ws.take (j+1))=B:=by rw[sB,hof];simp
        exact⟨⟨j+1,hjl⟩,_,dO.mk' [] _ _ _ rfl ⟨aj,aj,aj,aj,aj,aj,aj,aj,aj,aj,aj,aT.int rfl,trivial⟩ ⟨aH rfl,aH rfl,aH rfl,⟨_,rfl,eqS (by rw[kA])⟩,⟨_,rfl,SI (by rw[kA])⟩,⟨_,rfl,SI (by rw[kB])⟩,trivial⟩ rfl,XW⟩
     · rw[List.take_of_length_le (show ws.length≤j by omega)]
       have hA1:(dD key 1 ws).length≤ws.length:=List.length_filter_le ..
       have hB1:(dY key 1 ws).length≤ws.length:=List.length_filter_le ..
       generalize dD key 1 ws=A1 at hA1⊢
       generalize dY key 1 ws=B1 at hB1⊢
       have lA1:(A1.map dA).length=A1.length:=List.length_map ..
       have ael:(A1.map fun e=>dN e.v).length=A1.length:=List.length_map ..
       have lB1:(B1.map fun e=>dN e.v).length=B1.length:=List.length_map ..
       have XY:=um (B1.map fun e=>dN e.v) (by omega)
       have hsl1:(sortL (B1.map fun e=>dN e.v)).length=(B1.map fun e=>dN e.v).length:=List.length_mergeSort ..
       have Qw:=nZ (sortL (B1.map fun e=>dN e.v)) (by omega)
       rw[hsl1]at Qw
       by_cases hz1:A1.length=0
       · repeat' ((conv=>whnf);first|refine K1.w ?_|refine K1.a ?_|refine K1.b ?_|refine K1.d ?_|refine K1.C 1 [(0,_)] (XY) rfl ?_|refine K1.C 1 [(0,_)] (Qw) rfl ?_|refine aJ.dR ?_|refine K1.z ?_|refine K1.q ?_|refine K1.bt ?_|refine K1.bf ?_|refine K1.y (fun _=>?_) (fun _=>?_)|refine iD.dec (fun _=>?_) (fun _=>?_)|refine iD.mk (fun _=>?_) (fun _=>?_))
         conv=>whnf
         simp only[KT,qx,valsF,if_neg hz,decide_eq_false hz,Bool.not_false,if_pos hz1,decide_eq_true hz1,Bool.not_true]
         exact bG.mk (aj)
       · have acw:=BN (A1.map dA) (fun h=>hz1 (by rw[←lA1,h];rfl)) (by omega)
         have hlt1:=Am (l:=A1.map dA) (fun h=>hz1 (by rw[←lA1,h];rfl))
         repeat' ((conv=>whnf);first|refine K1.w ?_|refine K1.a ?_|refine K1.b ?_|refine K1.d ?_|refine K1.C 1 [(0,_)] (XY) rfl ?_|refine K1.C 1 [(0,_)] (Qw) rfl ?_|refine K1.P1 acw rfl ?_|refine aJ.dR ?_|refine K1.z ?_|refine K1.q ?_|refine K1.bt ?_|refine K1.bf ?_|refine K1.y (fun _=>?_) (fun _=>?_)|refine iD.dec (fun _=>?_) (fun _=>?_)|refine iD.mk (fun _=>?_) (fun _=>?_))
         rotate_left
         · exact absurd (show Nat.ble _ _=false by assumption) (by rw[Bool.not_eq_false,Nat.ble_eq];omega)
         conv=>whnf
         simp only[KT,qx,valsF,if_neg hz,decide_eq_false hz,Bool.not_false,if_neg hz1,decide_eq_false hz1,Bool.not_false]
         exact bG.mk (aj)
end
section
open Go.RowKit
instance:Inhabited Cont:=⟨⟨⟨#[]⟩,false,false,⟨#[]⟩,⟨#[]⟩,[],[]⟩⟩
abbrev Qx (l:List Cont):Nat→List AV:=qL Cont.cs l
def keysB (l:List Ev):List (List UInt8):=Lib.compact (sortL ((aC l).map fun e=>dN e.key))
def oU (l:List Ev):List Cont:=(keysB l).map fun k=>fH ⟨k.toArray⟩ (bI l (aC l))
theorem cO.acy {e:TypeId} {s n n':Nat} {sc:Bool} {f f':Nat→List AV} (hn:n=n') (hf: ∀i,i<n→f i=f' i):cO (.row e s n sc f) (.row e s n' false f'):=by
 subst hn
 rintro X id ⟨us,hown,hs,hfl,_,ha⟩
 rw[nP hf]at ha
 exact⟨us,hown,hs,fun i hi=>by rw[←hf i hi];exact hfl i hi,(fun h=>by cases h),ha⟩
end
theorem gy {n a b:Int} (h:gu n a b=true):a≤n∧n≤b:=by simpa[gu]using h
theorem kP {n a b:Int} (h:a≤n∧n≤b):gu n a b=true:=by simp[gu,h.1,h.2]
structure adD (e:Ev):Prop where
 r0:0≤e.r
 r4:e.r≤4
 n1:1≤e.n
 n2:e.n≤1048576
 h1:1≤e.h
 h2:e.h≤16777216
 a0:0≤e.c.c0∧e.c.c0≤1048576
 a1:0≤e.c.c1∧e.c.c1≤1048576
 a2:0≤e.c.c2∧e.c.c2≤1048576
 a3:0≤e.c.c3∧e.c.c3≤1048576
 a4:0≤e.c.c4∧e.c.c4≤1048576
 own:e.c.get e.r=e.n-1
 ed:jF e.ed=0
theorem xO {e:Ev} (h:fB e=0):adD e:=by
 unfold fB at h
 split at h
 · cases h
 · rename_i g1
   split at h
   · cases h
   · rename_i g2
     split at h
     · cases h
     · rename_i g3
       simp only[Bool.not_eq_true,Bool.not_eq_false',Bool.and_eq_true,nG]at g1 g2
       simp only[bne_iff_ne,ne_eq,Decidable.not_not]at g3
       obtain⟨⟨hr,hn⟩,hh⟩:=g1
       obtain⟨⟨⟨⟨h0,h1⟩,h2⟩,h3⟩,h4⟩:=g2
       exact⟨(gy hr).1,(gy hr).2,(gy hn).1,(gy hn).2,(gy hh).1,(gy hh).2,gy h0,gy h1,gy h2,gy h3,gy h4,g3,h⟩
theorem qy {e:Ed} (h:jF e=0):1≤e.k∧e.k≤5∧1≤e.key.size∧e.key.size≤8∧vW e.key=true∧(dM e.k=true→0≤e.l∧e.l≤1∧1≤e.v.size∧e.v.size≤12)∧(dM e.k=false→e.l=0∧e.v.size=0):=by
 unfold jF at h
 by_cases h1:e.k<1∨5<e.k
 · rw[if_pos h1]at h;cases h
 · rw [if_neg h1]at h
   by_cases h2:keyE e.key≠0
   · rw[if_pos h2]at h;exact absurd h h2
   · rw [if_neg h2]at h
     have hk:keyE e.key=0:=by simpa using h2
     unfold keyE at hk
     split at hk
     · rename_i hk'
       refine⟨by omega,by omega,hk'.1,hk'.2.1,hk'.2.2, ?_, ?_⟩
       · intro hl
         simp only[dM,Bool.and_eq_true,bne_iff_ne,ne_eq]at hl
         rw[if_neg (by omega)]at h
         by_cases h3:lT e.l≠0
         · rw[if_pos h3]at h;exact absurd h h3
         · rw[if_neg h3]at h
           have h4:lT e.l=0:=by simpa using h3
           unfold lT at h4
           unfold fA at h
           split at h4
           · split at h
             · rename_i a b;exact⟨by omega,by omega,b.1,b.2⟩
             · cases h
           · cases h4
       · intro hl
         simp only[dM,Bool.and_eq_false_iff,bne_eq_false_iff_eq]at hl
         rw[if_pos hl]at h
         by_cases h3:e.l≠0
         · rw[if_pos h3]at h;cases h
         · rw[if_neg h3]at h
           by_cases h4:e.v.size≠0
           · rw[if_pos h4]at h;cases h
           · exact⟨by simpa using h3,by simpa using h4⟩
     · cases hk
theorem og {e:Ev} (m:adD e):fB e=0:=by
 unfold fB nG
 rw[kP ⟨m.r0,m.r4⟩,kP ⟨m.n1,m.n2⟩,kP ⟨m.h1,m.h2⟩,kP m.a0,kP m.a1,kP m.a2,kP m.a3,kP m.a4]
 have:=m.own
 simp[this,m.ed]
end Go.Proofs.YtimhagicagdkfaaGreat
