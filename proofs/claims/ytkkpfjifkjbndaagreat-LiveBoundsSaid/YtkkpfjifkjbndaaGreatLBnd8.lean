/-
  Contracts of the walk: BkS, BkL.
-/
import Derived.Test.YtkkpfjifkjbndaaGreatLBnd6
import Derived.Test.YtkkpfjifkjbndaaGreatLBnd7
import Derived.Lib.RowBridge
import Derived.Laws.StructEq
import Derived.Laws.Cover2
/-
 slices.Sort and slices.Compact of rows of strings,as the abstract machine asks for them.
-/
namespace Go.Proofs.YtkkpfjifkjbndaaGreat
open Go.RowKit Go.Sort
def strF (l : List (List UInt8)) : Nat → List AV := fun i => [.v (encStr (l.getD i []))]
def sortL (l : List (List UInt8)) : List (List UInt8) := l.mergeSort fun x y => decide (x ≤ y)
theorem flat_str : ∀ l : List (List UInt8),flat l.length (strF l) = l.map fun x => AV.v (encStr x)
  | [] => rfl
  | x :: l => by
   show [AV.v (encStr x)] ++ flat l.length (strF l) = _
   rw [flat_str l]
   rfl
theorem pc_v {w : World} {keep : Nat → Prop} {x u : Value} (h : PC w keep (.v x) u) : u = x := by cases h; rfl
theorem pc_str {w : World} {keep : Nat → Prop} {l : List (List UInt8)} {us : List Value} (h : All2 (PC w keep) (flat l.length (strF l)) us) : us = l.map encStr := by
 rw [flat_str] at h
 apply List.ext_getElem?
 intro i
 rcases Nat.lt_or_ge i us.length with hi | hi
 · have hl : i < l.length := by have := h.1; rw [List.length_map] at this; omega
   have h2 := h.2 i (.v (encStr l[i])) us[i] (by rw [List.getElem?_map,List.getElem?_eq_getElem hl]; rfl) (List.getElem?_eq_getElem hi)
   rw [List.getElem?_eq_getElem hi,List.getElem?_map,List.getElem?_eq_getElem hl,pc_v h2]
   rfl
 · have hl : l.length ≤ i := by have := h.1; rw [List.length_map] at this; omega
   rw [List.getElem?_eq_none hi,List.getElem?_eq_none (by rw [List.length_map]; exact hl)]
theorem str_pc {w : World} {keep : Nat → Prop} (l : List (List UInt8)) : All2 (PC w keep) (flat l.length (strF l)) (l.map encStr) := by
 rw [flat_str]
 refine ⟨by simp,fun i x u hx hu => ?_⟩
 rw [List.getElem?_map] at hx hu
 cases hl : l[i]? with
 | none => rw [hl] at hx; cases hx
 | some y =>
  rw [hl] at hx hu
  simp only [Option.map_some,Option.some.injEq] at hx hu
  subst hx hu
  exact .v _ rfl
theorem str_obj {w : World} {keep : Nat → Prop} {ρ : Nat → Value} {id g cap : Nat} {cur : Array Value} (l : List (List UInt8)) (hv : ρ id = .slice (some ⟨g,0,none⟩) l.length cap) (hg : w.heap[g]? = some (.cells cur 9 (0,0))) (h1 : l.length ≤ cap) (h2 : cap ≤ maxLen) (h3 : cur.size = cap) (h4 : cur.toList.take l.length = l.map encStr) :
  ObjOk ⟨w,keep,ρ⟩ id (.row 9 1 l.length true (strF l)) := by
 refine ⟨l.map encStr,⟨by simp, .inr ⟨g,cap,cur,hv,Nat.zero_le _,hg,h1,h2,by omega,by rw [Nat.mul_one]; exact h4⟩⟩,by omega,fun _ _ => rfl,fun _ x hx => ?_,str_pc l⟩
 rw [flat_str] at hx
 obtain ⟨y,_,rfl⟩ := List.mem_map.1 hx
 exact ⟨_,rfl⟩
theorem grow_put {α : Type} [Inhabited α] (enc : α → Value) (w : World) (n g : Nat) (d : Array α) (os : Array Obj) {cur : Array Value} {e : TypeId} (h : w.heap[g]? = some (.cells cur e (0,0))) :
  w.heap.size ≤ (grow (putRow enc (Go.Sort.ahead w n) g 0 d) os).heap.size ∧ (∀ k,k < w.heap.size → k ≠ g → (grow (putRow enc (Go.Sort.ahead w n) g 0 d) os).heap[k]? = w.heap[k]?) ∧ (grow (putRow enc (Go.Sort.ahead w n) g 0 d) os).heap[g]? = some (.cells (putCells enc 0 d cur) e (0,0)) := by
 have hlt : g < w.heap.size := by
  rcases Nat.lt_or_ge g w.heap.size with h' | h'
  · exact h'
  · rw [Array.getElem?_eq_none h'] at h; cases h
 refine ⟨by simp [grow,putRow,mapBlock,Go.Sort.ahead],fun k hk hne => ?_,?_⟩
 · simp only [grow,putRow,mapBlock,Go.Sort.ahead]
   rw [Array.getElem?_append_left (by rw [Array.size_modify]; exact hk),Array.getElem?_modify,if_neg (fun e => hne e.symm)]
 · simp only [grow,putRow,mapBlock,Go.Sort.ahead]
   rw [Array.getElem?_append_left (by rw [Array.size_modify]; exact hlt),Array.getElem?_modify,if_pos rfl,h]
   rfl
theorem take_put (d : List (List UInt8)) (cur : Array Value) (n : Nat) (h : d.length ≤ cur.size) (hn : n ≤ d.length) : (putCells encStr 0 d.toArray cur).toList.take n = (d.take n).map encStr := by
 apply List.ext_getElem?
 intro i
 rw [List.getElem?_take,List.getElem?_map,List.getElem?_take]
 by_cases hi : i < n
 · rw [if_pos hi,if_pos hi]
   have hc : i < cur.size := by omega
   have hd : i < d.length := by omega
   rw [Array.getElem?_toList]
   simp only [putCells,Array.getElem?_mapIdx,Array.getElem?_eq_getElem hc,Option.map_some]
   rw [if_pos (by simp; omega),List.getElem?_eq_getElem hd]
   simp [hd]
 · rw [if_neg hi,if_neg hi]
   rfl
theorem holds_str {w : World} {g : Nat} {cur : Array Value} {e : TypeId} (l : List (List UInt8)) (hg : w.heap[g]? = some (.cells cur e (0,0))) (h : cur.toList.take l.length = l.map encStr) : Holds encStr w g 0 l.toArray := by
 intro j hj
 have hj : j < l.length := hj
 have hc : cur[j]? = some (encStr l[j]) := by
  have := congrArg (·[j]?) h
  simp only [List.getElem?_take,List.getElem?_map,List.getElem?_eq_getElem hj,if_pos hj,Option.map_some,Array.getElem?_toList] at this
  exact this
 constructor
 · simp [World.cell?,hg,hc,hj]
 · simp [World.frozen?,hg]
theorem sort_mspec (l : List (List UInt8)) (hl : l.length ≤ 1000000000) :
  MSpec Tryz.prog 64 [(0, .row 9 1 l.length true (strF l))] [.own 0] (.tup []) [(0, .row 9 1 l.length true (strF (sortL l)))] := by
 refine ⟨⟨_,_,Tryz.func64,rfl,rfl⟩,fun w keep ρ args hk hobj hnd hbl hargs => ?_⟩
 have hso : (sortL l).length = l.length := List.length_mergeSort ..
 obtain ⟨us,hown,_,_,_,ha⟩ := hobj _ (List.mem_singleton.2 rfl)
 have hus := pc_str ha
 subst hus
 obtain ⟨u,rfl,hu⟩ := one_arg hargs
 have hu : u = ρ 0 := Eq.trans (show u = hdV (ρ 0) from hu) (hdV_own hown)
 subst hu
 rcases hown.2 with ⟨hv,hn⟩ | ⟨g,cap,cur,hv,_,hg,hncap,hcm,hcs,htk⟩
 · have hnil : l = [] := List.eq_nil_of_length_eq_zero hn
   subst hnil
   have hc := Tryz.slices_Sort_string_none none 0 w
   rw [show (ρ 0) = .slice none 0 0 from hv]
   refine hc.mono ?_
   rintro e w' ⟨rfl,rfl⟩
   refine ⟨_,ρ,rfl,BelowM.refl _ _ _,fun _ _ _ _ _ => .refl _,⟨[],rfl,All2.nil⟩,fun p hp => ?_,hnd,fun b hb => .inr hb⟩
   obtain rfl := List.mem_singleton.1 hp
   exact ⟨[],⟨rfl, .inl ⟨hv,rfl⟩⟩,by omega,fun i hi => absurd hi (Nat.not_lt_zero i),fun _ x hx => absurd hx (by simp [flat]),All2.nil⟩
 · have hlt : g < w.heap.size := by
    rcases Nat.lt_or_ge g w.heap.size with h' | h'
    · exact h'
    · rw [Array.getElem?_eq_none h'] at hg; cases hg
   rw [Nat.mul_one] at htk hcs
   have hc := Tryz.slices_Sort_string g 0 cap l w (holds_str l hg htk) hlt (by omega)
   rw [show (ρ 0) = .slice (some ⟨g,0,none⟩) l.length cap from hv]
   refine hc.mono ?_
   rintro e w' ⟨rfl,n,os,rfl⟩
   obtain ⟨h1,h2,h3⟩ := grow_put encStr w n g (sortL l).toArray os hg
   have hb : g ∈ blocksOf ρ [(0,AO.row 9 1 l.length true (strF l))] := mem_blocks.2 ⟨_,List.mem_singleton.2 rfl,by rw [show ρ 0 = .slice (some ⟨g,0,none⟩) l.length cap from hv]; exact List.mem_cons_self⟩
   refine ⟨_,ρ,rfl,⟨rfl,rfl,rfl,h1,fun k hk hM => h2 k hk (by rintro rfl; exact hM hb)⟩,fun _ _ _ _ _ => .refl _,⟨[],rfl,All2.nil⟩,fun p hp => ?_,hnd,fun b hb => .inr hb⟩
   obtain rfl := List.mem_singleton.1 hp
   have := str_obj (w := grow (putRow encStr (Go.Sort.ahead w n) g 0 (sortL l).toArray) os) (keep := (cxOf ⟨w,keep,fun b => b ∈ blocksOf ρ [(0,AO.row 9 1 l.length true (strF l))]⟩ (grow (putRow encStr (Go.Sort.ahead w n) g 0 (sortL l).toArray) os) ρ [(0,AO.row 9 1 l.length true (strF (sortL l)))]).keep) (ρ := ρ) (id := 0) (sortL l) (by rw [hso]; exact hv) h3 (by omega) hcm (by simp [putCells]; exact hcs) (by rw [take_put _ _ _ (by omega) (Nat.le_refl _),List.take_length])
   rw [hso] at this
   exact this
theorem compact_le (l : List (List UInt8)) : (Lib.compact l).length ≤ l.length := Lib.compact_length_le l
theorem compact_mspec (l : List (List UInt8)) (hl : l.length ≤ 1000000000) :
  MSpec Tryz.prog 68 [(0, .row 9 1 l.length true (strF l))] [.own 0] (.own 1) [(1, .row 9 1 (Lib.compact l).length true (strF (Lib.compact l)))] := by
 refine ⟨⟨_,_,Tryz.func68,rfl,rfl⟩,fun w keep ρ args hk hobj hnd hbl hargs => ?_⟩
 have hle := compact_le l
 obtain ⟨us,hown,_,_,_,ha⟩ := hobj _ (List.mem_singleton.2 rfl)
 have hus := pc_str ha
 subst hus
 obtain ⟨u,rfl,hu⟩ := one_arg hargs
 have hu : u = ρ 0 := Eq.trans (show u = hdV (ρ 0) from hu) (hdV_own hown)
 subst hu
 rcases hown.2 with ⟨hv,hn⟩ | ⟨g,cap,cur,hv,_,hg,hncap,hcm,hcs,htk⟩
 · have hnil : l = [] := List.eq_nil_of_length_eq_zero hn
   subst hnil
   have hc := Tryz.slices_Compact_string_empty none 0 w
   rw [show (ρ 0) = .slice none 0 0 from hv]
   refine hc.mono ?_
   rintro e w' ⟨rfl,rfl⟩
   let ρ' : Nat → Value := fun _ => .slice none 0 0
   refine ⟨_,ρ',rfl,BelowM.refl _ _ _,fun p hp q hq h => ?_,rfl,fun p hp => ?_,?_,?_⟩
   · obtain rfl := List.mem_singleton.1 hp
     obtain rfl := List.mem_singleton.1 hq
     cases h
   · obtain rfl := List.mem_singleton.1 hp
     exact ⟨[],⟨rfl, .inl ⟨rfl,rfl⟩⟩,by omega,fun i hi => absurd hi (Nat.not_lt_zero i),fun _ x hx => absurd hx (by rw [show Lib.compact ([] : List (List UInt8)) = [] from rfl]; simp [flat]),All2.nil⟩
   · simp [blocksOf,ρ',blks,blk1]
   · intro b hb
     simp [blocksOf,ρ',blks,blk1] at hb
 · have hlt : g < w.heap.size := by
    rcases Nat.lt_or_ge g w.heap.size with h' | h'
    · exact h'
    · rw [Array.getElem?_eq_none h'] at hg; cases hg
   rw [Nat.mul_one] at htk hcs
   have hc := Tryz.slices_Compact_string g 0 cap l w (holds_str l hg htk) (by omega) hncap
   rw [show (ρ 0) = .slice (some ⟨g,0,none⟩) l.length cap from hv]
   refine hc.mono ?_
   rintro e w' ⟨rfl,n,rfl⟩
   obtain ⟨d,hd⟩ : ∃ d,d = Lib.compact l ++ List.replicate (l.length - (Lib.compact l).length) [] := ⟨_,rfl⟩
   have hdl : d.length = l.length := by rw [hd,List.length_append,List.length_replicate]; omega
   rw [← hd]
   obtain ⟨h1,h2,h3⟩ := grow_put encStr w n g d.toArray #[] hg
   rw [grow_empty] at h1 h2 h3
   have hb : g ∈ blocksOf ρ [(0,AO.row 9 1 l.length true (strF l))] := mem_blocks.2 ⟨_,List.mem_singleton.2 rfl,by rw [show ρ 0 = .slice (some ⟨g,0,none⟩) l.length cap from hv]; exact List.mem_cons_self⟩
   let ρ' : Nat → Value := fun _ => .slice (some ⟨g,0,none⟩) (Lib.compact l).length cap
   refine ⟨_,ρ',rfl,⟨rfl,rfl,rfl,h1,fun k hk hM => h2 k hk (by rintro rfl; exact hM hb)⟩,fun p hp q hq h => ?_,rfl,fun p hp => ?_,?_,?_⟩
   · obtain rfl := List.mem_singleton.1 hp
     obtain rfl := List.mem_singleton.1 hq
     cases h
   · obtain rfl := List.mem_singleton.1 hp
     exact str_obj (Lib.compact l) rfl h3 (by omega) hcm (by simp [putCells]; exact hcs) (by rw [take_put _ _ _ (by omega) (by omega),hd,List.take_left])
   · simp [blocksOf,ρ',blks,blk1]
   · intro b hbm
     have : b = g := by simpa [blocksOf,ρ',blks,blk1] using hbm
     subst this
     exact .inr hb
end Go.Proofs.YtkkpfjifkjbndaaGreat

/-
 Which stamp is the last one.
-/
namespace Go.Proofs.YtkkpfjifkjbndaaGreat
open Go.RowKit
abbrev St := Int × Int
def stV (a : St) : List Value := [.int .i64 a.1, .int .i64 a.2]
def stC (a : St) : List AV := [.v (.int .i64 a.1), .v (.int .i64 a.2)]
abbrev stF (l : List St) : Nat → List AV := elsF stC l
def lessB (a b : St) : Bool := if a.1 = b.1 then decide (a.2 < b.2) else decide (a.1 < b.1)
def topB (m : St) (l : List St) : St := l.foldl (fun m s => if lessB m s = true then s else m) m
def lastN (l : List St) : Nat := l.findIdx fun s => decide (s = topB (l.getD 0 default) l)
theorem top_mem : ∀ (l : List St) (m : St),topB m l = m ∨ topB m l ∈ l
  | [],_ => .inl rfl
  | x :: l,m => by
   show topB (if lessB m x = true then x else m) l = m ∨ _
   rcases top_mem l (if lessB m x = true then x else m) with h | h
   · split at h
     · rename_i hx
       exact .inr (by show topB (if lessB m x = true then x else m) l ∈ _; rw [if_pos hx,h]; exact List.mem_cons_self)
     · rename_i hx
       exact .inl (by rw [if_neg hx]; exact h)
   · exact .inr (List.mem_cons_of_mem _ h)
theorem last_lt {l : List St} (h : l ≠ []) : lastN l < l.length := by
 have hm : topB (l.getD 0 default) l ∈ l := by
  rcases top_mem l (l.getD 0 default) with h' | h'
  · rw [h']
    cases l with
    | nil => exact absurd rfl h
    | cons x l => exact List.mem_cons_self
  · exact h'
 exact List.findIdx_lt_length_of_exists ⟨_,hm,by simp⟩
theorem top_step {m : St} {l : List St} {j : Nat} (hj : j < l.length) : topB m (l.take (j + 1)) = if lessB (topB m (l.take j)) (l.getD j default) = true then l.getD j default else topB m (l.take j) := by
 unfold topB
 rw [List.take_add_one,List.getElem?_eq_getElem hj,List.foldl_append,List.getD,List.getElem?_eq_getElem hj]
 rfl
theorem st_guard : Tryz.prog.eqGuardType Tryz.prog.depth 100 = false := by kernel_rfl
theorem st_eqIn (a b : St) (w : World) : (Op.equalIn 10000 100 (.agg (stV a).toArray) (.agg (stV b).toArray)).run Tryz.prog w = .ok (decide (a.1 = b.1 ∧ a.2 = b.2)) w := by
 have hS : Tryz.prog.underlying 100 = some (.struct (Tryz.prog.fieldsOf 100)) := by kernel_rfl
 have u3 := Tryz.underlying3
 have a3 := Tryz.isAgg3
 have z3 := Tryz.sizeOf3
 rw [show (10000 : Nat) = 9999 + 1 from rfl,run_equalIn_agg w 9999 100 _ _ hS (by kernel_rfl)]
 simp only [Program.fieldsOf,Tryz.underlying100]
 unfold stV
 go_simp
 repeat' split
 all_goals simp_all
theorem st_eq (a b : St) : EqFact Tryz.prog 100 (stV a) (stV b) (a = b) :=
 ⟨st_guard,fun w => ⟨_,by rw [decide_eq_true_eq]; exact ⟨fun h => Prod.ext h.1 h.2,fun h => by rw [h]; exact ⟨rfl,rfl⟩⟩,st_eqIn a b w⟩⟩
theorem less_spec (a b : St) : ASpec Tryz.prog 112 [.agg (stC a), .agg (stC b)] (.v (.bool (lessB a b))) [] := by
 dsimp only [stC]
 refine aspec_of lay_ok 543 Tryz.func112 rfl rfl rfl ?_
 repeat' ((conv => whnf); first | refine Spl.yes (by first | assumption | omega) ?_ | refine Spl.no (by first | assumption | omega) ?_ | refine Wr.i64 (by omega) (by omega) ?_ | refine Still.mk rfl rfl ?_ | refine InB.mk (inB_mk (by omega) (by omega)) ?_ | refine Req.mk (by omega) ?_ | refine Req.mk ⟨by first | omega | (dsimp only; omega),by first | omega | (dsimp only; omega)⟩ ?_ | refine ARet.hdI ?_ | refine Spl.mk (fun _ => ?_) (fun _ => ?_) | refine InA.mk (inB_mk (by omega) (by omega)) ?_ | refine Wr.b64 ?_ | refine Wr.bu64 ?_ | refine Wr.bu32 ?_ | refine Wr.bu8 ?_ | refine Wr.u8 (by omega) (by omega) ?_ | refine Wr.u64 (by omega) (by omega) ?_ | refine Wr.u32 (by omega) (by omega) ?_ | refine Dv.pos (by omega) (by omega) ?_ | refine Rm.pos (by omega) (by omega) ?_ | refine ADraw.quiet follows_ok (by kernel_rfl) rfl ?_ | refine BSpl.decY (by first | assumption | omega) ?_ | refine BSpl.decN (by first | assumption | omega) ?_ | refine BSpl.dec (fun _ => ?_) (fun _ => ?_) | refine BSpl.yes (by assumption) ?_ | refine BSpl.no (by assumption) ?_ | refine BSpl.mk (fun _ => ?_) (fun _ => ?_))
 all_goals (conv => whnf)
 all_goals (refine AEqI.mk (AEq.of ?_))
 all_goals simp [lessB, *]
set_option maxHeartbeats 4000000 in
set_option maxRecDepth 100000 in
theorem last_spec (l : List St) (hne : l ≠ []) (hl : l.length ≤ 1000000000) : ASpec Tryz.prog 92 [.sl 2 l.length true (stF l)] (.v (.int .i64 (lastN l : Int))) [] := by
 have hpos : 0 < l.length := List.length_pos_iff.2 hne
 refine aspec_of lay_ok 17687626989 Tryz.func92 rfl rfl rfl ?_
 repeat' ((conv => whnf); first | refine Spl.yes (by first | assumption | omega) ?_ | refine Spl.no (by first | assumption | omega) ?_ | refine Wr.i64 (by omega) (by omega) ?_ | refine Still.mk rfl rfl ?_ | refine InB.mk (inB_mk (by omega) (by omega)) ?_ | refine Req.mk (by omega) ?_ | refine Req.mk ⟨by first | omega | (dsimp only; omega),by first | omega | (dsimp only; omega)⟩ ?_ | refine ARet.hdI ?_ | refine Spl.mk (fun _ => ?_) (fun _ => ?_) | refine InA.mk (inB_mk (by omega) (by omega)) ?_ | refine Wr.b64 ?_ | refine Wr.bu64 ?_ | refine Wr.bu32 ?_ | refine Wr.bu8 ?_ | refine Wr.u8 (by omega) (by omega) ?_ | refine Wr.u64 (by omega) (by omega) ?_ | refine Wr.u32 (by omega) (by omega) ?_ | refine Dv.pos (by omega) (by omega) ?_ | refine Rm.pos (by omega) (by omega) ?_ | refine ADraw.quiet follows_ok (by kernel_rfl) rfl ?_ | refine BSpl.decY (by first | assumption | omega) ?_ | refine BSpl.decN (by first | assumption | omega) ?_ | refine BSpl.dec (fun _ => ?_) (fun _ => ?_) | refine BSpl.yes (by assumption) ?_ | refine BSpl.no (by assumption) ?_ | refine BSpl.mk (fun _ => ?_) (fun _ => ?_))
 conv => whnf
 refine ALoop.mk { j : Nat // j ≤ l.length } (fun j => ⟨[(0, .sl 2 l.length true (stF l)),(3, .box 0 0),(14, .sl 2 l.length true (stF l)),(15, .v (.int .i64 (l.length : Int))),(16, .v (.int .i64 (j.1 : Int)))],
   [(0, .box 100 (stC (topB (l.getD 0 default) (l.take j.1))))],[],1⟩) (fun j => l.length - j.1) ⟨0,Nat.zero_le _⟩ _
  (LeR.mk' [] _ _ _ rfl ⟨AEq.refl _,AEq.refl _,AEq.refl _,AEq.int rfl,AEq.int rfl,trivial⟩ ⟨⟨_,rfl,OEq.refl _⟩,trivial⟩ rfl) ?_
 rintro ⟨j,hj⟩
 dsimp only
 by_cases hjl : j < l.length
 · have hst := top_step (m := l.getD 0 default) hjl
   have hls := less_spec (topB (l.getD 0 default) (l.take j)) (l.getD (j : Int).toNat default)
   generalize topB (l.getD 0 default) (l.take j) = t at hst hls ⊢
   rw [show l.getD j default = l.getD (j : Int).toNat default from rfl] at hst
   generalize lessB t (l.getD (j : Int).toNat default) = q at hst hls
   dsimp only [stC] at hls ⊢
   repeat' ((conv => whnf); first | refine Spl.yes (by first | assumption | omega) ?_ | refine Spl.no (by first | assumption | omega) ?_ | refine Wr.i64 (by omega) (by omega) ?_ | refine Still.mk rfl rfl ?_ | refine InB.mk (inB_mk (by omega) (by omega)) ?_ | refine Req.mk (by omega) ?_ | refine Req.mk ⟨by first | omega | (dsimp only; omega),by first | omega | (dsimp only; omega)⟩ ?_ | refine ACall.plain _ _ (hls) (SubL.cons (.eq _) (SubL.cons (.eq _) .nil)) rfl ?_ | refine ARet.hdI ?_ | refine Spl.mk (fun _ => ?_) (fun _ => ?_) | refine InA.mk (inB_mk (by omega) (by omega)) ?_ | refine Wr.b64 ?_ | refine Wr.bu64 ?_ | refine Wr.bu32 ?_ | refine Wr.bu8 ?_ | refine Wr.u8 (by omega) (by omega) ?_ | refine Wr.u64 (by omega) (by omega) ?_ | refine Wr.u32 (by omega) (by omega) ?_ | refine Dv.pos (by omega) (by omega) ?_ | refine Rm.pos (by omega) (by omega) ?_ | refine ADraw.quiet follows_ok (by kernel_rfl) rfl ?_ | refine BSpl.decY (by first | assumption | omega) ?_ | refine BSpl.decN (by first | assumption | omega) ?_ | refine BSpl.dec (fun _ => ?_) (fun _ => ?_) | refine BSpl.yes (by assumption) ?_ | refine BSpl.no (by assumption) ?_ | refine BSpl.mk (fun _ => ?_) (fun _ => ?_))
   all_goals (conv => whnf)
   all_goals first
     | (refine ⟨⟨j + 1,hjl⟩,_,LeR.mk' [] _ _ _ rfl ⟨AEq.refl _,AEq.refl _,AEq.refl _,AEq.int rfl,AEq.int rfl,trivial⟩ ⟨⟨_,rfl,?_⟩,trivial⟩ rfl,by show l.length - (j + 1) < l.length - j; omega⟩
        show OEq _ (.box _ (stC (topB (l.getD 0 default) (l.take (j + 1)))))
        rw [hst,if_pos (by assumption)]
        exact OEq.refl _)
     | (refine ⟨⟨j + 1,hjl⟩,_,LeR.mk' [] _ _ _ rfl ⟨AEq.refl _,AEq.refl _,AEq.refl _,AEq.int rfl,AEq.int rfl,trivial⟩ ⟨⟨_,rfl,?_⟩,trivial⟩ rfl,by show l.length - (j + 1) < l.length - j; omega⟩
        show OEq _ (.box _ (stC (topB (l.getD 0 default) (l.take (j + 1)))))
        rw [hst,if_neg (by rw [show q = false by assumption]; simp)]
        exact OEq.refl _)
 · have hW : l.take j = l := List.take_of_length_le (by omega)
   rw [hW]
   have hlast : lastN l = l.findIdx fun s => decide (s = topB (l.getD 0 default) l) := rfl
   have hlt := last_lt hne
   generalize topB (l.getD 0 default) l = t at hlast ⊢
   dsimp only [stC]
   repeat' ((conv => whnf); first | refine Spl.yes (by first | assumption | omega) ?_ | refine Spl.no (by first | assumption | omega) ?_ | refine Wr.i64 (by omega) (by omega) ?_ | refine Still.mk rfl rfl ?_ | refine InB.mk (inB_mk (by omega) (by omega)) ?_ | refine Req.mk (by omega) ?_ | refine Req.mk ⟨by first | omega | (dsimp only; omega),by first | omega | (dsimp only; omega)⟩ ?_ | refine ARet.hdI ?_ | refine Spl.mk (fun _ => ?_) (fun _ => ?_) | refine InA.mk (inB_mk (by omega) (by omega)) ?_ | refine Wr.b64 ?_ | refine Wr.bu64 ?_ | refine Wr.bu32 ?_ | refine Wr.bu8 ?_ | refine Wr.u8 (by omega) (by omega) ?_ | refine Wr.u64 (by omega) (by omega) ?_ | refine Wr.u32 (by omega) (by omega) ?_ | refine Dv.pos (by omega) (by omega) ?_ | refine Rm.pos (by omega) (by omega) ?_ | refine ADraw.quiet follows_ok (by kernel_rfl) rfl ?_ | refine BSpl.decY (by first | assumption | omega) ?_ | refine BSpl.decN (by first | assumption | omega) ?_ | refine BSpl.dec (fun _ => ?_) (fun _ => ?_) | refine BSpl.yes (by assumption) ?_ | refine BSpl.no (by assumption) ?_ | refine BSpl.mk (fun _ => ?_) (fun _ => ?_))
   all_goals (conv => whnf)
   refine ALoop.mk { j : Nat // j ≤ l.length ∧ ∀ i,i < j → ¬ l.getD i default = t } (fun j => ⟨[(3, .box 0 0),(25, .sl 2 l.length true (stF l)),(26, .v (.int .i64 (l.length : Int))),(27, .v (.int .i64 (j.1 : Int)))],
    [(0, .box 100 (stC t))],[],1⟩) (fun j => l.length - j.1) ⟨0,Nat.zero_le _,fun i h => absurd h (Nat.not_lt_zero i)⟩ _
    (LeR.mk' [] _ _ _ rfl ⟨AEq.refl _,AEq.refl _,AEq.int rfl,AEq.int rfl,trivial⟩ ⟨⟨_,rfl,OEq.refl _⟩,trivial⟩ rfl) ?_
   rintro ⟨j,hj,hall⟩
   dsimp only
   by_cases hjl : j < l.length
   · have hret : l.getD (j : Int).toNat default = t → lastN l = j := by
      intro h
      have h : l.getD j default = t := h
      rw [hlast]
      refine (List.findIdx_eq hjl).2 ⟨?_,fun i hi => ?_⟩
      · rw [List.getD,List.getElem?_eq_getElem hjl] at h
        exact decide_eq_true h
      · have := hall i hi
        rw [List.getD,List.getElem?_eq_getElem (by omega)] at this
        exact decide_eq_false this
     have hno : ¬ l.getD (j : Int).toNat default = t → ∀ i,i < j + 1 → ¬ l.getD i default = t := by
      intro h i hi
      rcases Nat.lt_or_ge i j with h' | h'
      · exact hall i h'
      · obtain rfl : i = j := by omega
        exact h
     dsimp only [stC]
     repeat' ((conv => whnf); first | refine Spl.yes (by first | assumption | omega) ?_ | refine Spl.no (by first | assumption | omega) ?_ | refine Wr.i64 (by omega) (by omega) ?_ | refine Still.mk rfl rfl ?_ | refine InB.mk (inB_mk (by omega) (by omega)) ?_ | refine Req.mk (by omega) ?_ | refine Req.mk ⟨by first | omega | (dsimp only; omega),by first | omega | (dsimp only; omega)⟩ ?_ | refine EqA.mk (stV (l.getD (j : Int).toNat default)) (stV t) (l.getD (j : Int).toNat default = t) rfl rfl (st_eq _ _) ?_ | refine ARet.hdI ?_ | refine Spl.mk (fun _ => ?_) (fun _ => ?_) | refine InA.mk (inB_mk (by omega) (by omega)) ?_ | refine Wr.b64 ?_ | refine Wr.bu64 ?_ | refine Wr.bu32 ?_ | refine Wr.bu8 ?_ | refine Wr.u8 (by omega) (by omega) ?_ | refine Wr.u64 (by omega) (by omega) ?_ | refine Wr.u32 (by omega) (by omega) ?_ | refine Dv.pos (by omega) (by omega) ?_ | refine Rm.pos (by omega) (by omega) ?_ | refine ADraw.quiet follows_ok (by kernel_rfl) rfl ?_ | refine BSpl.decY (by first | assumption | omega) ?_ | refine BSpl.decN (by first | assumption | omega) ?_ | refine BSpl.dec (fun _ => ?_) (fun _ => ?_) | refine BSpl.yes (by assumption) ?_ | refine BSpl.no (by assumption) ?_ | refine BSpl.mk (fun _ => ?_) (fun _ => ?_))
     all_goals (conv => whnf)
     all_goals first
       | (rw [hret (by assumption)]; exact AEqI.mk (AEq.refl _))
       | exact ⟨⟨j + 1,hjl,hno (by assumption)⟩,_,LeR.mk' [] _ _ _ rfl ⟨AEq.refl _,AEq.refl _,AEq.int rfl,AEq.int rfl,trivial⟩ ⟨⟨_,rfl,OEq.refl _⟩,trivial⟩ rfl,by show l.length - (j + 1) < l.length - j; omega⟩
   · exfalso
     have h1 := hall (lastN l) (by omega)
     rw [List.getD,List.getElem?_eq_getElem hlt] at h1
     have h2 : decide (l[l.findIdx fun s => decide (s = t)]'(hlast ▸ hlt) = t) = true := List.findIdx_getElem (p := fun s => decide (s = t))
     have h3 := of_decide_eq_true h2
     simp only [← hlast] at h3
     exact h1 h3
end Go.Proofs.YtkkpfjifkjbndaaGreat
