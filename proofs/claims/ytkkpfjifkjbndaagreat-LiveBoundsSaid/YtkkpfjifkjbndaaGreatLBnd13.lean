/-
  Contracts of the walk: AmO, LvK, LvN, LvA.
-/
import Derived.Test.YtkkpfjifkjbndaaGreatLBnd6
import Derived.Tactics
import Derived.Tactics2
import Derived.Defers
import Derived.Laws.Pointers
import Derived.Laws.LoneSync
import Derived.RegionTactic
import Derived.RegionCalls
/-
 Objects that are told as a whole: opened into their parts at a function's door,and closed at its end (MSpec.opn); what a slice's header says when its row is gone (ACall.hdr).
-/
namespace Go.Proofs.YtkkpfjifkjbndaaGreat
open Go.RowKit
def Opens (o : OB) (j : Nat) {Y : Type} (hs : Y → List (Nat × AO)) : Prop :=
 ∀ (w : World) (k : Nat → Prop) (v : Value),o.R w k v → ∃ (y : Y) (ρ : Nat → Value),hdV (ρ j) = hdV v ∧ (blocksOf ρ (hs y)).Perm (blks v) ∧ ∀ p ∈ hs y,ObjOk ⟨w,k,ρ⟩ p.1 p.2
def Closes (hs : List (Nat × AO)) (j : Nat) (o : OB) : Prop :=
 ∀ (w : World) (k : Nat → Prop) (ρ : Nat → Value),(blocksOf ρ hs).Nodup → (∀ p ∈ hs,ObjOk ⟨w,k,ρ⟩ p.1 p.2) → ∃ us,o.R w k (.tuple us) ∧ hdV (.tuple us) = hdV (ρ j) ∧ ∀ b ∈ blks (.tuple us),b ∈ blocksOf ρ hs
def refQ0 (q : Nat → Bool) (j : Nat) : AV → Bool
  | .own i => q i || Nat.beq i j
  | .box i _ => q i || Nat.beq i j
  | .eown i .. => q i
  | .cf _ i _ => q i || Nat.beq i j
  | _ => true
def refQ1 (q : Nat → Bool) (j : Nat) : AV → Bool
  | .agg cs => cs.all (refQ0 q j)
  | .fn _ cs => cs.all (refQ0 q j)
  | x => refQ0 q j x
def refQ2 (q : Nat → Bool) (j : Nat) : AV → Bool
  | .tup vs => vs.all (refQ1 q j)
  | x => refQ1 q j x
section
variable {X Y : CX} {q : Nat → Bool} {j : Nat} (hk : ∀ b,X.keep b → Y.keep b) (hm : Y.w = X.w) (hρ : ∀ i,q i = true → Y.ρ i = X.ρ i) (hj : hdV (Y.ρ j) = hdV (X.ρ j))
include hk hm hρ hj
theorem C0.refQ {av : AV} {u : Value} (hr : refQ0 q j av = true) (hc : C0 X av u) : C0 Y av u := by
 have hmm : ∀ b,X.keep b → Y.w.heap[b]? = X.w.heap[b]? := fun _ _ => by rw [hm]
 have hh : ∀ i,(q i || Nat.beq i j) = true → hdV (Y.ρ i) = hdV (X.ρ i) := fun i h => by
  simp only [Bool.or_eq_true] at h
  rcases h with h | h
  · rw [hρ i h]
  · rw [Nat.eq_of_beq_eq_true h]; exact hj
 cases av with
 | own id => exact (show u = hdV (X.ρ id) from hc).trans (hh id hr).symm
 | eown id s i k => obtain ⟨b,n,c,h1,h2⟩ := hc; exact ⟨b,n,c,(hρ id hr).trans h1,h2⟩
 | box id off => obtain ⟨b,h1,h2⟩ := hc; exact ⟨b,(hh id hr).trans h1,h2⟩
 | cf gg id off => obtain ⟨b,h1,h2⟩ := hc; exact ⟨b,(hh id hr).trans h1,h2⟩
 | el cs k =>
  obtain ⟨b,o,us,e,kb,ha,hcell⟩ := hc
  exact ⟨b,o,us,e,hk b kb,ha.imp (fun _ _ => PC.mono hk hmm),fun j y hj => (World.cell?_of_block (hmm b kb)).trans (hcell j y hj)⟩
 | sl s n sc f => exact PC.mono hk hmm hc
 | v x => exact hc
 | junk => trivial
 | agg cs => exact hc
 | tup cs => exact hc
 | fn g caps => exact hc
theorem C1.refQ {av : AV} {u : Value} (hr : refQ1 q j av = true) (hc : C1 X av u) : C1 Y av u := by
 cases av with
 | agg cs => obtain ⟨us,e,ha⟩ := hc; exact ⟨us,e,ha.impB hr fun _ _ q k => C0.refQ hk hm hρ hj q k⟩
 | fn g cs => obtain ⟨us,e,ha⟩ := hc; exact ⟨us,e,ha.impB hr fun _ _ q k => C0.refQ hk hm hρ hj q k⟩
 | own id => exact C1.of0 (C0.refQ hk hm hρ hj (av := .own id) hr hc)
 | eown id s i k => exact C1.of0 (C0.refQ hk hm hρ hj (av := .eown id s i k) hr hc)
 | box id k => exact C1.of0 (C0.refQ hk hm hρ hj (av := .box id k) hr hc)
 | cf gg id k => exact C1.of0 (C0.refQ hk hm hρ hj (av := .cf gg id k) hr hc)
 | el cs k => exact C1.of0 (C0.refQ hk hm hρ hj (av := .el cs k) hr hc)
 | sl s n sc f => exact C1.of0 (C0.refQ hk hm hρ hj (av := .sl s n sc f) hr hc)
 | v x => exact hc
 | junk => trivial
 | tup cs => exact hc
theorem C2.refQ {av : AV} {u : Value} (hr : refQ2 q j av = true) (hc : C2 X av u) : C2 Y av u := by
 cases av with
 | tup vs => obtain ⟨us,e,ha⟩ := hc; exact ⟨us,e,ha.impB hr fun _ _ q k => C1.refQ hk hm hρ hj q k⟩
 | agg cs => exact C2.of1 (C1.refQ hk hm hρ hj (av := .agg cs) hr hc)
 | fn g cs => exact C2.of1 (C1.refQ hk hm hρ hj (av := .fn g cs) hr hc)
 | own id => exact C2.of1 (C1.refQ hk hm hρ hj (av := .own id) hr hc)
 | eown id s i k => exact C2.of1 (C1.refQ hk hm hρ hj (av := .eown id s i k) hr hc)
 | box id k => exact C2.of1 (C1.refQ hk hm hρ hj (av := .box id k) hr hc)
 | cf gg id k => exact C2.of1 (C1.refQ hk hm hρ hj (av := .cf gg id k) hr hc)
 | el cs k => exact C2.of1 (C1.refQ hk hm hρ hj (av := .el cs k) hr hc)
 | sl s n sc f => exact C2.of1 (C1.refQ hk hm hρ hj (av := .sl s n sc f) hr hc)
 | v x => exact hc
 | junk => trivial
end
theorem single_blocks (ρ : Nat → Value) (p : Nat × AO) : blocksOf ρ [p] = blks (ρ p.1) := by rw [blocks_cons]; simp [blocksOf]
theorem MSpec.opn {P : Program} {f : FuncId} {o o' : OB} {j : Nat} {Y : Type} {hs : Y → List (Nat × AO)} {avs : List AV} {r : AV} {ho : List (Nat × AO)} (hE : Enters P f) (hO : Opens o j hs)
  (h : ∀ y,∃ hs',Closes hs' j o' ∧ hasN j (hs y) = true ∧ hasN j hs' = true ∧ MSpec P f (hs y) avs r (hs' ++ ho))
  (hb : (avs.all (refQ1 (fun _ => false) j) && refQ2 (fun i => hasN i ho) j r && closedH ho ho && !(hasN j ho)) = true) : MSpec P f [(j, .obs o)] avs r ((j, .obs o') :: ho) := by
 simp only [Bool.and_eq_true,Bool.not_eq_true'] at hb
 obtain ⟨⟨⟨hav,hrr⟩,hcl⟩,hne⟩ := hb
 refine ⟨hE,fun w keep ρ args hkeep hobj hnd hbl hargs => ?_⟩
 obtain ⟨us,eu,hR⟩ := hobj _ (List.mem_singleton.2 rfl)
 have eu : ρ j = .tuple us := eu
 have hR : o.R w keep (ρ j) := hR
 have hsb := single_blocks ρ (j, .obs o)
 rw [hsb] at hnd hbl
 obtain ⟨y,ρ',hhd,hperm,hok⟩ := hO w keep (ρ j) hR
 obtain ⟨hs',hC,hj1,hj2,hM⟩ := h y
 have hmem : ∀ b,b ∈ blocksOf ρ' (hs y) ↔ b ∈ blks (ρ j) := fun b => hperm.mem_iff
 refine (hM.2 w keep ρ' args hkeep hok (hperm.nodup_iff.2 hnd) (fun b hb => hbl b ((hmem b).1 hb)) (hargs.impB hav fun _ _ q k => C1.refQ (X := ⟨w,keep,ρ⟩) (Y := ⟨w,keep,ρ'⟩) (fun _ h => h) rfl (fun _ h => by cases h) hhd q k)).mono ?_
 rintro e w' ⟨u,ρ3,rfl,hbel,hfix,hc,hout,hnd',hnew⟩
 rw [blocks_append,List.nodup_append] at hnd'
 obtain ⟨hn1,hn2,hn3⟩ := hnd'
 obtain ⟨vs,hR',hhd',hbs⟩ := hC w' (keepOf ⟨w,keep,fun b => b ∈ blocksOf ρ' (hs y)⟩ w' ρ3 (hs' ++ ho)) ρ3 hn1 (fun p hp => hout p (List.mem_append_left _ hp))
 let ρ4 : Nat → Value := fun i => if i = j then .tuple vs else ρ3 i
 have e4j : ρ4 j = .tuple vs := by simp [ρ4]
 have e4 : ∀ i,hasN i ho = true → ρ4 i = ρ3 i := fun i hi => by
  have : i ≠ j := by rintro rfl; rw [hne] at hi; cases hi
  simp [ρ4,this]
 have hb4 : blocksOf ρ4 ((j, .obs o') :: ho) = blks (.tuple vs) ++ blocksOf ρ3 ho := by
  rw [blocks_cons,blocks_congr fun p hp => e4 p.1 (hasN_mem.2 ⟨p,hp,rfl⟩)]
  show blks (ρ4 j) ++ _ = _
  rw [e4j]
 have hsub4 : ∀ b,b ∈ blocksOf ρ4 ((j, .obs o') :: ho) → b ∈ blocksOf ρ3 (hs' ++ ho) := fun b hb => by
  rw [hb4] at hb
  rw [blocks_append]
  exact (List.mem_append.1 hb).elim (fun h => List.mem_append_left _ (hbs b h)) (fun h => List.mem_append_right _ h)
 have hk4 : ∀ b,keepOf ⟨w,keep,fun b => b ∈ blocksOf ρ' (hs y)⟩ w' ρ3 (hs' ++ ho) b → keepOf ⟨w,keep,fun b => b ∈ blocksOf ρ [(j, .obs o)]⟩ w' ρ4 ((j, .obs o') :: ho) b := by
  rintro b ⟨h1,h2,h3⟩
  exact ⟨h1,fun hlt => (h2 hlt).imp id fun h => (by show b ∈ blocksOf ρ [(j, .obs o)]; rw [hsb]; exact (hmem b).1 h),fun h => h3 (hsub4 b h)⟩
 refine ⟨u,ρ4,rfl,⟨hbel.os,hbel.tape,hbel.output,hbel.size,fun k hk hM' => hbel.block k hk fun h => hM' (by rw [hsb]; exact (hmem k).1 h)⟩,?_,?_,?_,?_,?_⟩
 · intro p hp q hq eq
   obtain rfl := List.mem_singleton.1 hp
   refine .inr ⟨⟨vs,e4j⟩,⟨us,eu⟩,?_⟩
   show hdV (ρ4 j) = hdV (ρ j)
   rw [e4j,hhd',← hhd]
   obtain ⟨p',hp',ep⟩ := hasN_mem.1 hj1
   obtain ⟨q',hq',eq'⟩ := hasN_mem.1 hj2
   have := (hfix p' hp' q' (List.mem_append_left _ hq') (eq'.trans ep.symm)).hd
   rw [ep] at this
   exact this
 · exact C2.refQ (X := cxOf ⟨w,keep,fun b => b ∈ blocksOf ρ' (hs y)⟩ w' ρ3 (hs' ++ ho)) (Y := cxOf ⟨w,keep,fun b => b ∈ blocksOf ρ [(j, .obs o)]⟩ w' ρ4 ((j, .obs o') :: ho)) hk4 rfl e4 (by show hdV (ρ4 j) = hdV (ρ3 j); rw [e4j,hhd']) hrr hc
 · intro p hp
   rcases List.mem_cons.1 hp with rfl | hp
   · refine ⟨vs,e4j,?_⟩
     show o'.R w' _ (ρ4 j)
     rw [e4j]
     exact o'.mono hk4 (fun _ _ => rfl) (fun _ _ => rfl) hR'
   · exact ObjOk.over (X := cxOf ⟨w,keep,fun b => b ∈ blocksOf ρ' (hs y)⟩ w' ρ3 (hs' ++ ho)) (Y := cxOf ⟨w,keep,fun b => b ∈ blocksOf ρ [(j, .obs o)]⟩ w' ρ4 ((j, .obs o') :: ho)) hk4 rfl e4 (hasN_mem.2 ⟨p,hp,rfl⟩) (closedH_mem hcl p hp) (hout p (List.mem_append_right _ hp))
 · rw [hb4,List.nodup_append]
   exact ⟨(o'.lt hR').2.2,hn2,fun a ha b hb => hn3 a (hbs a ha) b hb⟩
 · intro b hb
   rcases hnew b (hsub4 b hb) with h | h
   · exact .inl h
   · exact .inr (by rw [hsb]; exact (hmem b).1 h)
theorem MSpec.cls {P : Program} {f : FuncId} {o' : OB} {j : Nat} {avs : List AV} {r : AV} {hs' ho : List (Nat × AO)} (hC : Closes hs' j o') (hM : MSpec P f [] avs r (hs' ++ ho))
  (hb : (refQ2 (fun i => hasN i ho) j r && closedH ho ho && !(hasN j ho)) = true) : MSpec P f [] avs r ((j, .obs o') :: ho) := by
 simp only [Bool.and_eq_true,Bool.not_eq_true'] at hb
 obtain ⟨⟨hrr,hcl⟩,hne⟩ := hb
 refine ⟨hM.1,fun w keep ρ args hkeep hobj hnd hbl hargs => (hM.2 w keep ρ args hkeep hobj hnd hbl hargs).mono ?_⟩
 rintro e w' ⟨u,ρ3,rfl,hbel,hfix,hc,hout,hnd',hnew⟩
 rw [blocks_append,List.nodup_append] at hnd'
 obtain ⟨hn1,hn2,hn3⟩ := hnd'
 obtain ⟨vs,hR',hhd',hbs⟩ := hC w' (keepOf ⟨w,keep,fun b => b ∈ blocksOf ρ []⟩ w' ρ3 (hs' ++ ho)) ρ3 hn1 (fun p hp => hout p (List.mem_append_left _ hp))
 let ρ4 : Nat → Value := fun i => if i = j then .tuple vs else ρ3 i
 have e4j : ρ4 j = .tuple vs := by simp [ρ4]
 have e4 : ∀ i,hasN i ho = true → ρ4 i = ρ3 i := fun i hi => by
  have : i ≠ j := by rintro rfl; rw [hne] at hi; cases hi
  simp [ρ4,this]
 have hb4 : blocksOf ρ4 ((j, .obs o') :: ho) = blks (.tuple vs) ++ blocksOf ρ3 ho := by
  rw [blocks_cons,blocks_congr fun p hp => e4 p.1 (hasN_mem.2 ⟨p,hp,rfl⟩)]
  show blks (ρ4 j) ++ _ = _
  rw [e4j]
 have hsub4 : ∀ b,b ∈ blocksOf ρ4 ((j, .obs o') :: ho) → b ∈ blocksOf ρ3 (hs' ++ ho) := fun b hb => by
  rw [hb4] at hb
  rw [blocks_append]
  exact (List.mem_append.1 hb).elim (fun h => List.mem_append_left _ (hbs b h)) (fun h => List.mem_append_right _ h)
 have hk4 : ∀ b,keepOf ⟨w,keep,fun b => b ∈ blocksOf ρ []⟩ w' ρ3 (hs' ++ ho) b → keepOf ⟨w,keep,fun b => b ∈ blocksOf ρ []⟩ w' ρ4 ((j, .obs o') :: ho) b :=
  fun b ⟨h1,h2,h3⟩ => ⟨h1,h2,fun h => h3 (hsub4 b h)⟩
 refine ⟨u,ρ4,rfl,hbel,(fun p hp => by cases hp),?_,?_,?_,fun b hb => hnew b (hsub4 b hb)⟩
 · exact C2.refQ (X := cxOf ⟨w,keep,fun b => b ∈ blocksOf ρ []⟩ w' ρ3 (hs' ++ ho)) (Y := cxOf ⟨w,keep,fun b => b ∈ blocksOf ρ []⟩ w' ρ4 ((j, .obs o') :: ho)) hk4 rfl e4 (by show hdV (ρ4 j) = hdV (ρ3 j); rw [e4j,hhd']) hrr hc
 · intro p hp
   rcases List.mem_cons.1 hp with rfl | hp
   · refine ⟨vs,e4j,?_⟩
     show o'.R w' _ (ρ4 j)
     rw [e4j]
     exact o'.mono hk4 (fun _ _ => rfl) (fun _ _ => rfl) hR'
   · exact ObjOk.over (X := cxOf ⟨w,keep,fun b => b ∈ blocksOf ρ []⟩ w' ρ3 (hs' ++ ho)) (Y := cxOf ⟨w,keep,fun b => b ∈ blocksOf ρ []⟩ w' ρ4 ((j, .obs o') :: ho)) hk4 rfl e4 (hasN_mem.2 ⟨p,hp,rfl⟩) (closedH_mem hcl p hp) (hout p (List.mem_append_right _ hp))
 · rw [hb4,List.nodup_append]
   exact ⟨(o'.lt hR').2.2,hn2,fun a ha b hb => hn3 a (hbs a ha) b hb⟩
def packR {α : Type} (hs : α → List (Nat × AO)) (w : World) (k : Nat → Prop) (v : Value) : Prop :=
 ∃ (x : α) (ρ : Nat → Value) (us : List Value),v = .tuple (hdV (ρ 0) :: us).toArray ∧ us.flatMap blk1 = blocksOf ρ (hs x) ∧ (blocksOf ρ (hs x)).Nodup ∧ hasN 0 (hs x) = true ∧ (hdV (ρ 0)).oneCell' = true ∧ ∀ p ∈ hs x,ObjOk ⟨w,k,ρ⟩ p.1 p.2
theorem blks_tup (x : Value) (us : List Value) : blks (.tuple (x :: us).toArray) = us.flatMap blk1 := by simp [blks]
def OB.pack {α : Type} (hs : α → List (Nat × AO)) : OB where
 R := packR hs
 mono := by
  rintro w w' k k' v hk hm hb ⟨x,ρ,us,rfl,hbl,hnd,hn,h1,hok⟩
  rw [blks_tup,hbl] at hb
  exact ⟨x,ρ,us,rfl,hbl,hnd,hn,h1,fun p hp => ObjOk.same (X := ⟨w,k,ρ⟩) (Y := ⟨w',k',ρ⟩) hk hm rfl (fun b hb' => hb b (mem_blocks.2 ⟨p,hp,hb'⟩)) (hok p hp)⟩
 lt := by
  rintro w k v ⟨x,ρ,us,rfl,hbl,hnd,hn,h1,hok⟩
  rw [blks_tup,hbl]
  refine ⟨fun b hb => ?_,h1,hnd⟩
  obtain ⟨p,hp,hb'⟩ := mem_blocks.1 hb
  exact (hok p hp).lt b hb'
theorem Opens.pack {α : Type} (hs : α → List (Nat × AO)) : Opens (OB.pack hs) 0 hs := by
 rintro w k v ⟨x,ρ,us,rfl,hbl,hnd,hn,h1,hok⟩
 exact ⟨x,ρ,rfl,by rw [blks_tup,hbl],hok⟩
theorem flat_ptr (l : List Nat) : (l.map fun b => Value.pointer (some ⟨b,0,none⟩)).flatMap blk1 = l := by
 induction l with
 | nil => rfl
 | cons x l ih => rw [List.map_cons,List.flatMap_cons,ih]; rfl
theorem Closes.pack {α : Type} (hs : α → List (Nat × AO)) (x : α) (hn : hasN 0 (hs x) = true) (h1 : ∀ (X : CX),(∀ p ∈ hs x,ObjOk X p.1 p.2) → (hdV (X.ρ 0)).oneCell' = true) : Closes (hs x) 0 (OB.pack hs) := by
 intro w k ρ hnd hok
 refine ⟨_,⟨x,ρ,(blocksOf ρ (hs x)).map fun b => .pointer (some ⟨b,0,none⟩),rfl,flat_ptr _,hnd,hn,h1 ⟨w,k,ρ⟩ hok,hok⟩,rfl,fun b hb => ?_⟩
 rw [blks_tup,flat_ptr] at hb
 exact hb
theorem Opens.imp {o : OB} {j : Nat} {Y Z : Type} {hs : Y → List (Nat × AO)} {gs : Z → List (Nat × AO)} (h : Opens o j hs) (hi : ∀ (X : CX) y,(blocksOf X.ρ (hs y)).Nodup → (∀ p ∈ hs y,ObjOk X p.1 p.2) → ∃ z ρ',hdV (ρ' j) = hdV (X.ρ j) ∧ (blocksOf ρ' (gs z)).Perm (blocksOf X.ρ (hs y)) ∧ ∀ p ∈ gs z,ObjOk ⟨X.w,X.keep,ρ'⟩ p.1 p.2) : Opens o j gs := by
 intro w k v hR
 obtain ⟨y,ρ,h1,h2,h3⟩ := h w k v hR
 obtain ⟨z,ρ',g1,g2,g3⟩ := hi ⟨w,k,ρ⟩ y (h2.nodup_iff.2 (o.lt hR).2.2) h3
 exact ⟨z,ρ',g1.trans h1,g2.trans h2,g3⟩
theorem Closes.imp {o : OB} {j : Nat} {hs gs : List (Nat × AO)} (h : Closes gs j o) (hi : ∀ (X : CX),(blocksOf X.ρ hs).Nodup → (∀ p ∈ hs,ObjOk X p.1 p.2) → ∃ ρ',hdV (ρ' j) = hdV (X.ρ j) ∧ (blocksOf ρ' gs).Nodup ∧ (∀ b ∈ blocksOf ρ' gs,b ∈ blocksOf X.ρ hs) ∧ ∀ p ∈ gs,ObjOk ⟨X.w,X.keep,ρ'⟩ p.1 p.2) : Closes hs j o := by
 intro w k ρ hnd hok
 obtain ⟨ρ',g1,g2,g3,g4⟩ := hi ⟨w,k,ρ⟩ hnd hok
 obtain ⟨us,a1,a2,a3⟩ := h w k ρ' g2 g4
 exact ⟨us,a1,a2.trans g1,fun b hb => g3 b (a3 b hb)⟩
theorem ACall.hdr {P : Program} {L : Lay} (hL : LayOk P L) {W : Walk} (hW : WOk P W) {d : Nat} {f : FuncId} {avs : List AV} {st : AS} {K : AV → AS → Prop} (t id : Nat) {e : TypeId} {s n : Nat} {sc : Bool} {F : Nat → List AV} (hE : Enters P f) (ht : st.tmps t = .own id) (hf : findObj id st.heap = some (.row e s n sc F))
  (h : ∀ A c,ACall P L W d f avs ⟨(t, .v (.slice A n c)) :: st.sl,st.heap,st.back,st.base⟩ K) : ACall P L W d f avs st K := by
 refine .sem hE fun g N bs ρ a w args R hargs => ?_
 obtain ⟨us,hown,hr⟩ := R.objs _ (findObj_mem hf)
 have hown : w.ownsRow 0 e s (ρ id) n us := hown
 obtain ⟨A,c,hv⟩ : ∃ A c,ρ id = .slice A n c := by
  rcases hown.2 with ⟨hv,hz⟩ | ⟨b,cap,cur,hv,_⟩
  · exact ⟨none,0,by rw [hv,hz]⟩
  · exact ⟨_,_,hv⟩
 have R' : Rel g N bs ρ a w ⟨(t, .v (.slice A n c)) :: st.sl,st.heap,st.back,st.base⟩ := by
  refine ⟨R.size,R.defers,R.below,fun t' => ?_,R.objs,R.apart,R.own,R.back⟩
  show C2 _ (upd t (.v (.slice A n c)) st.tmps t') _
  by_cases e' : t' = t
  · subst e'
    have h0 := R.tmps t'
    rw [ht] at h0
    simp only [upd,Nat.beq_refl,cond_true]
    exact (C2.inv_own h0).trans (by show hdV (ρ id) = _; rw [hv]; rfl)
  · simp only [upd,beq_false e',cond_false]
    exact R.tmps t'
 have := (acall_run R' hargs (h A c) (fun lv fn c hf' hnm hb hsz h' => inl_run hL hW R' hargs lv fn c hf' hb hsz h')).2
 exact this
end Go.Proofs.YtkkpfjifkjbndaaGreat

/-
 sync.Once and the atomics,as the model runs them: Do not yet done (the function handed over by its contract) and done; (*atomic.Int64).Add and Load.
-/
namespace Go.Proofs.YtkkpfjifkjbndaaGreat
open Go.RowKit
theorem o_disable (w : World) : (callFunc 113 #[]).run Tryz.prog w = .ok (.value (.tuple #[])) w := run_call_mark0 Tryz.func113 (by kernel_rfl) (by kernel_rfl) (by kernel_rfl) .disable (by kernel_rfl) w
theorem o_enable (w : World) : (callFunc 115 #[]).run Tryz.prog w = .ok (.value (.tuple #[])) w := run_call_mark0 Tryz.func115 (by kernel_rfl) (by kernel_rfl) (by kernel_rfl) .enable (by kernel_rfl) w
theorem o_acquire (a : Addr) (w : World) : (callFunc 116 #[.pointer (some a)]).run Tryz.prog w = .ok (.value (.tuple #[])) w := run_call_marked Tryz.func116 (by kernel_rfl) (by kernel_rfl) (by kernel_rfl) .acquire (by kernel_rfl) a w
theorem o_release (a : Addr) (w : World) : (callFunc 118 #[.pointer (some a)]).run Tryz.prog w = .ok (.value (.tuple #[])) w := run_call_marked Tryz.func118 (by kernel_rfl) (by kernel_rfl) (by kernel_rfl) .releaseMerge (by kernel_rfl) a w
theorem o_store (a : Addr) (x : Value) (u : FrameMode) (w : World) (hc : w.cell? a = some x) (hz : w.frozen? a = false) :
  CallsD Tryz.prog 82 #[.pointer (some a), .bool true] u w fun e u' w' => u' = u ∧ (e = .returned (.tuple #[]) ∧ w' = w.drew.setCell a (.int .u32 1)) := by
 have hc' : w.drew.cell? a = some x := by go_simp
 have hz' : w.drew.frozen? a = false := by go_simp
 have hst := run_call_store (P := Tryz.prog) Tryz.func95 (by kernel_rfl) (by kernel_rfl) (by kernel_rfl) (by kernel_rfl) (k := .u32) (y := 1) hc' hz'
 go_enter_d Tryz.func82,Tryz.ntmps82
 go_wp2
 go_region_calls
 all_goals (go_end0; exact ⟨rfl,rfl⟩)
set_option maxRecDepth 100000 in
theorem o_unlock (a : Addr) (u : FrameMode) (w : World) (hc : w.cell? a = some (.int .i32 1)) (hz : w.frozen? a = false) :
  CallsD Tryz.prog 81 #[.pointer (some a)] u w fun e u' w' => u' = u ∧ (e = .returned (.tuple #[]) ∧ w' = w.setCell a (.int .i32 0)) := by
 have hd := o_disable
 have he := o_enable
 have hr := o_release
 have hadd := run_call_add (P := Tryz.prog) Tryz.func119 (by kernel_rfl) (by kernel_rfl) (by kernel_rfl) .i32 (by kernel_rfl) (y := -1) (s := 0) hc hz (by simp [go_sem]; rfl)
 have hcv := run_convert_to_unsafe (P := Tryz.prog) (src := 155) (dst := 159) Tryz.underlying155 Tryz.underlying159 (by kernel_rfl) hc
 go_enter_d Tryz.func81,Tryz.ntmps81
 go_wp2
 go_end0
 go_wp2
 go_end0
 exact ⟨rfl,rfl⟩
set_option maxRecDepth 100000 in
theorem o_lock (a : Addr) (w : World) (hc : w.cell? a = some (.int .i32 0)) (hz : w.frozen? a = false) :
  Calls Tryz.prog 80 #[.pointer (some a)] w fun e w' => e = .returned (.tuple #[]) ∧ w' = w.setCell a (.int .i32 1) := by
 have hd := o_disable
 have he := o_enable
 have ha := o_acquire
 have hcas := run_call_cas_hit (P := Tryz.prog) Tryz.func114 (by kernel_rfl) (by kernel_rfl) (by kernel_rfl) .i32 (by kernel_rfl) (y := 1) hc hz
 have hc' : (w.setCell a (.int .i32 1)).cell? a = some (.int .i32 1) := World.cell?_setCell_same w a _ hc
 have hcv := run_convert_to_unsafe (P := Tryz.prog) (src := 155) (dst := 159) Tryz.underlying155 Tryz.underlying159 (by kernel_rfl) hc'
 go_enter Tryz.func80,Tryz.ntmps80
 go_wp2
 first | go_end0 | (simp only [Exit.inBlock,Exit.then]; refine bodyPost_ret (results_none rfl _ _ _) rfl ?_) | refine bodyPost_ret (results_none rfl _ _ _) rfl ?_
 go_wp2
 go_end0
 exact ⟨rfl,rfl⟩
theorem o_bool (a : Addr) (x : Int) (w : World) (hc : w.cell? a = some (.int .u32 x)) :
  Calls Tryz.prog 53 #[.pointer (some a)] w fun e w' => e = .returned (.bool (x != 0)) ∧ w' = w := by
 have hl := run_call_load (P := Tryz.prog) Tryz.func79 (by kernel_rfl) (by kernel_rfl) (by kernel_rfl) .u32 (by kernel_rfl) (w := w) (a := a) (x := x) hc
 go_enter Tryz.func53,Tryz.ntmps53
 go_wp2
 go_ret
 exact ⟨rfl,rfl⟩
set_option maxRecDepth 100000 in
set_option maxHeartbeats 1600000 in
theorem o_slow (b off : Nat) (caps : Array Value) (w : World) (Φ : World → Prop)
  (h0 : w.cell? ⟨b,off,none⟩ = some (.int .u32 0)) (h1 : w.cell? ⟨b,off + 1,none⟩ = some (.int .i32 0))
  (f1 : w.frozen? ⟨b,off + 1,none⟩ = false)
  (hcl : Calls Tryz.prog 31 caps (w.setCell ⟨b,off + 1,none⟩ (.int .i32 1)) fun e w1 => e = .returned (.tuple #[]) ∧ Φ w1)
  (hΦ : ∀ w1,Φ w1 → w1.cell? ⟨b,off,none⟩ = some (.int .u32 0) ∧ w1.cell? ⟨b,off + 1,none⟩ = some (.int .i32 1) ∧ w1.frozen? ⟨b,off,none⟩ = false ∧ w1.frozen? ⟨b,off + 1,none⟩ = false) :
  Calls Tryz.prog 54 #[.pointer (some ⟨b,off,none⟩), .func (.func 31) #[] caps] w fun e w' => e = .returned (.tuple #[]) ∧
   ∃ w1,Φ w1 ∧ w' = (w1.drew.setCell ⟨b,off,none⟩ (.int .u32 1)).setCell ⟨b,off + 1,none⟩ (.int .i32 0) := by
 have g0' : (w.setCell ⟨b,off + 1,none⟩ (.int .i32 1)).cell? ⟨b,off,none⟩ = some (.int .u32 0) := (World.cell?_setCell_other _ ⟨b,off + 1,none⟩ ⟨b,off,none⟩ _ (by simp)).trans h0
 have hnot : ∀ (x : Bool) (w : World),(Op.unary .not (.bool x)).run Tryz.prog w = .ok (.bool (!x)) w := fun _ _ => rfl
 go_enter_defers Tryz.func54,Tryz.ntmps54
 go_wp2_with (first | (go_at_call 80; refine (o_lock ⟨b,off + 1,none⟩ _ (by go_simp) (by go_simp)).mono ?_; rintro e w' ⟨rfl,rfl⟩) | (go_at_call 53; refine (o_bool ⟨b,off,none⟩ 0 _ g0').mono ?_; rintro e w' ⟨rfl,rfl⟩) | (go_at_call 31; refine hcl.mono ?_; rintro e w1 ⟨rfl,hw1⟩))
 obtain ⟨g0,g1,z0,z1⟩ := hΦ _ hw1
 refine leaves_cons (f := 82) (args := #[.pointer (some ⟨b,off,none⟩), .bool true]) (by simp) (by simp [go_sem]) ?_
 refine (o_store ⟨b,off,none⟩ (.int .u32 0) .returning _ g0 z0).mono ?_
 rintro e u' w'' ⟨rfl,rfl,rfl⟩
 refine leaves_cons (f := 81) (args := #[.pointer (some ⟨b,off + 1,none⟩)]) (by simp [settle]) (by simp [go_sem]) ?_
 refine (o_unlock ⟨b,off + 1,none⟩ _ _ ?_ (by simp [z1])).mono ?_
 · refine (World.cell?_setCell_other _ ⟨b,off,none⟩ ⟨b,off + 1,none⟩ _ (by simp)).trans ?_
   rw [World.cell?_drew]
   exact g1
 rintro e u' w'' ⟨rfl,rfl,rfl⟩
 simp [Leaves,settle,results,Tryz.results54]
 exact ⟨w1,hw1,rfl⟩
set_option maxRecDepth 100000 in
theorem o_first (b off : Nat) (caps : Array Value) (w : World) (Φ : World → Prop)
  (h0 : w.cell? ⟨b,off,none⟩ = some (.int .u32 0)) (h1 : w.cell? ⟨b,off + 1,none⟩ = some (.int .i32 0))
  (f1 : w.frozen? ⟨b,off + 1,none⟩ = false)
  (hcl : Calls Tryz.prog 31 caps (w.setCell ⟨b,off + 1,none⟩ (.int .i32 1)) fun e w1 => e = .returned (.tuple #[]) ∧ Φ w1)
  (hΦ : ∀ w1,Φ w1 → w1.cell? ⟨b,off,none⟩ = some (.int .u32 0) ∧ w1.cell? ⟨b,off + 1,none⟩ = some (.int .i32 1) ∧ w1.frozen? ⟨b,off,none⟩ = false ∧ w1.frozen? ⟨b,off + 1,none⟩ = false) :
  Calls Tryz.prog 30 #[.pointer (some ⟨b,off,none⟩), .func (.func 31) #[] caps] w fun e w' => e = .returned (.tuple #[]) ∧
   ∃ w1,Φ w1 ∧ w' = (w1.drew.setCell ⟨b,off,none⟩ (.int .u32 1)).setCell ⟨b,off + 1,none⟩ (.int .i32 0) := by
 have hnot : ∀ (x : Bool) (w : World),(Op.unary .not (.bool x)).run Tryz.prog w = .ok (.bool (!x)) w := fun _ _ => rfl
 go_enter Tryz.func30,Tryz.ntmps30
 go_wp2_with (first | (go_at_call 53; refine (o_bool ⟨b,off,none⟩ 0 _ h0).mono ?_; rintro e w' ⟨rfl,rfl⟩) | (go_at_call 54; refine (o_slow b off caps _ Φ h0 h1 f1 hcl hΦ).mono ?_; rintro e w1 ⟨rfl,hw1⟩))
 go_end0
 exact ⟨rfl,hw1⟩
set_option maxRecDepth 100000 in
theorem o_done (a : Addr) (g : Value) (w : World) (h0 : w.cell? a = some (.int .u32 1)) :
  Calls Tryz.prog 30 #[.pointer (some a),g] w fun e w' => e = .returned (.tuple #[]) ∧ w' = w := by
 have hnot : ∀ (x : Bool) (w : World),(Op.unary .not (.bool x)).run Tryz.prog w = .ok (.bool (!x)) w := fun _ _ => rfl
 go_enter Tryz.func30,Tryz.ntmps30
 go_wp2_with (first | (go_at_call 53; refine (o_bool a 1 _ h0).mono ?_; rintro e w' ⟨rfl,rfl⟩))
 go_end0
 exact ⟨rfl,rfl⟩
theorem o_add (a : Addr) (x y z : Int) (w : World) (hc : w.cell? a = some (.int .i64 x)) (hz : w.frozen? a = false) (hs : (Op.intArith .add .i64 x y).run Tryz.prog w = .ok (.int .i64 z) w) :
  Calls Tryz.prog 33 #[.pointer (some a), .int .i64 y] w fun e w' => e = .returned (.int .i64 z) ∧ w' = w.setCell a (.int .i64 z) := by
 have hadd := run_call_add (P := Tryz.prog) Tryz.func61 (by kernel_rfl) (by kernel_rfl) (by kernel_rfl) .i64 (by kernel_rfl) (y := y) (s := z) hc hz hs
 go_enter Tryz.func33,Tryz.ntmps33
 go_wp2
 go_ret
 exact ⟨rfl,rfl⟩
theorem o_load (a : Addr) (x : Int) (w : World) (hc : w.cell? a = some (.int .i64 x)) :
  Calls Tryz.prog 38 #[.pointer (some a)] w fun e w' => e = .returned (.int .i64 x) ∧ w' = w := by
 have hl := run_call_load (P := Tryz.prog) Tryz.func70 (by kernel_rfl) (by kernel_rfl) (by kernel_rfl) .i64 (by kernel_rfl) (w := w) (a := a) (x := x) hc
 go_enter Tryz.func38,Tryz.ntmps38
 go_wp2
 go_ret
 exact ⟨rfl,rfl⟩
end Go.Proofs.YtkkpfjifkjbndaaGreat

/-
 sync.Once and the atomics as the abstract machine asks for them: of a variable of the call's own.
-/
namespace Go.Proofs.YtkkpfjifkjbndaaGreat
open Go.RowKit
theorem cell_set {w : World} {b i : Nat} {us : List Value} {t : TypeId} (v : Value) (hh : w.heap[b]? = some (.cells us.toArray t (0,0))) :
  (w.setCell ⟨b,i,none⟩ v).heap[b]? = some (.cells (us.set i v).toArray t (0,0)) ∧ (∀ k,k ≠ b → (w.setCell ⟨b,i,none⟩ v).heap[k]? = w.heap[k]?) ∧ (w.setCell ⟨b,i,none⟩ v).heap.size = w.heap.size ∧
   (w.setCell ⟨b,i,none⟩ v).os = w.os ∧ (w.setCell ⟨b,i,none⟩ v).tape = w.tape ∧ (w.setCell ⟨b,i,none⟩ v).output = w.output := by
 refine ⟨?_,fun k hk => Below.heap_setCell _ _ _ _ hk,by simp,rfl,rfl,rfl⟩
 rw [heap_setCell_same w b i _ t v hh]
 simp
theorem cell_get {w : World} {b i : Nat} {us : List Value} {t : TypeId} (hh : w.heap[b]? = some (.cells us.toArray t (0,0))) : w.cell? ⟨b,i,none⟩ = us[i]? ∧ w.frozen? ⟨b,i,none⟩ = false := by
 constructor
 · simp [World.cell?,hh]
 · simp [World.frozen?,hh]
theorem All2.at {R : AV → Value → Prop} {cs : List AV} {us : List Value} (h : All2 R cs us) {i : Nat} {x : AV} (hx : cs[i]? = some x) : ∃ u,us[i]? = some u ∧ R x u := h.get hx
theorem MSpec.cell {P : Program} {f : FuncId} {t : TypeId} {cs : List AV} {off : Nat} {x y : Value} {xs : List Value} {r : Value} (hE : Enters P f) (hx : cs[off]? = some (.v x))
  (h : ∀ (b : Nat) (w : World),w.cell? ⟨b,off,none⟩ = some x → w.frozen? ⟨b,off,none⟩ = false → Calls P f (.pointer (some ⟨b,off,none⟩) :: xs).toArray w fun e w' => e = .returned r ∧ w' = w.setCell ⟨b,off,none⟩ y) :
  MSpec P f [(0, .box t cs)] (.box 0 off :: xs.map .v) (.v r) [(0, .box t (cs.set off (.v y)))] := by
 refine ⟨hE,fun w keep ρ args hk hobj hnd hbl hargs => ?_⟩
 obtain ⟨b,us,e,hh,ha⟩ := hobj _ (List.mem_singleton.2 rfl)
 have e : ρ 0 = _ := e
 have hh : w.heap[b]? = _ := hh
 cases args with
 | nil => have := hargs.1; simp at this
 | cons a0 tl =>
  obtain ⟨b0,hb0,ea⟩ : ∃ b0,hdV (ρ 0) = .pointer (some ⟨b0,0,none⟩) ∧ a0 = .pointer (some ⟨b0,off,none⟩) := hargs.2 0 _ _ rfl rfl
  rw [e] at hb0
  cases hb0
  subst ea
  have hxs : tl = xs := spec_plain.spec_args (X := ⟨w,keep,ρ⟩) ⟨by simpa using hargs.1,fun i x u hx hu => hargs.2 (i + 1) x u (by simpa using hx) (by simpa using hu)⟩
  subst hxs
  obtain ⟨u,hu,hxu⟩ := ha.get hx
  have hxu : u = x := hxu
  subst hxu
  obtain ⟨g1,g2⟩ := cell_get (i := off) hh
  refine (h b w (g1.trans hu) g2).mono ?_
  rintro e0 w' ⟨rfl,rfl⟩
  obtain ⟨s1,s2,s3,s4,s5,s6⟩ := cell_set (i := off) y hh
  have hb : blocksOf ρ [(0, .box t cs)] = [b] := by rw [single_blocks,e]; rfl
  have hb' : blocksOf ρ [(0, .box t (cs.set off (.v y)))] = [b] := by rw [single_blocks,e]; rfl
  have hkk : ∀ q,keep q → keepOf ⟨w,keep,fun b => b ∈ blocksOf ρ [(0, .box t cs)]⟩ (w.setCell ⟨b,off,none⟩ y) ρ [(0, .box t (cs.set off (.v y)))] q := fun q hq =>
   ⟨by rw [s3]; exact hk q hq,fun _ => .inl hq,fun h => (hbl q (by rw [hb]; rw [hb'] at h; exact h)).2 hq⟩
  have hne : ∀ q,keep q → q ≠ b := fun q hq e => (hbl q (by rw [hb,e]; exact List.mem_cons_self)).2 hq
  refine ⟨_,ρ,rfl,⟨s4,s5,s6,by rw [s3]; exact Nat.le_refl _,fun k hk hM => s2 k fun e => hM (by rw [hb,e]; exact List.mem_cons_self)⟩,fun _ _ _ _ _ => .refl _,rfl,fun p hp => ?_,by rw [hb']; simp,fun q hq => .inr (by rw [hb] ; rw [hb'] at hq; exact hq)⟩
  obtain rfl := List.mem_singleton.1 hp
  refine ⟨b,us.set off y,e,s1,?_⟩
  exact (ha.imp fun _ _ => C0.same (X := ⟨w,keep,ρ⟩) (Y := cxOf ⟨w,keep,fun b => b ∈ blocksOf ρ [(0, .box t cs)]⟩ (w.setCell ⟨b,off,none⟩ y) ρ [(0, .box t (cs.set off (.v y)))]) hkk (fun q hq => s2 q (hne q hq)) rfl).set off rfl
theorem setCell_same {w : World} {a : Addr} {v : Value} (hs : a.spot = none) (h : w.cell? a = some v) : w.setCell a v = w := by
 obtain ⟨b,off,sp⟩ := a
 subst hs
 unfold World.cell? at h
 have key : (w.setCell ⟨b,off,none⟩ v).heap = w.heap := by
  apply Array.ext_getElem?
  intro k
  by_cases e : k = b
  · subst e
    cases hb : w.heap[k]? with
    | none => simp [hb] at h
    | some o =>
     simp [hb] at h
     cases o with
     | cells c t fr =>
      have hc : c.setIfInBounds off v = c := by
       apply Array.ext_getElem?
       intro j
       rw [Array.getElem?_setIfInBounds]
       split
       · rename_i ej
         subst ej
         simp at h
         split
         · exact h.symm
         · rename_i hlt
           rw [Array.getElem?_eq_none (by omega)]
       · rfl
      simp [World.setCell,Array.getElem?_modify,hb,hc]
     | _ => simp at h
  · exact Below.heap_setCell _ _ _ _ e
 show ({ w with heap := (w.setCell ⟨b,off,none⟩ v).heap } : World) = w
 rw [key]
theorem ACall.cell {P : Program} {L : Lay} {W : Walk} {d : Nat} {f : FuncId} {avs : List AV} {st : AS} {K : AV → AS → Prop} (id off : Nat) {t : TypeId} {cs : List AV} {x y r : Value} {xs : List Value} (hE : Enters P f) (hf : findObj id st.heap = some (.box t cs)) (hx : cs[off]? = some (.v x)) (ha : avs = .box id off :: xs.map .v)
  (h : ∀ (b : Nat) (w : World),w.cell? ⟨b,off,none⟩ = some x → w.frozen? ⟨b,off,none⟩ = false → Calls P f (.pointer (some ⟨b,off,none⟩) :: xs).toArray w fun e w' => e = .returned r ∧ w' = w.setCell ⟨b,off,none⟩ y)
  (hK : K (.v r) ⟨st.sl,setObj id (.box t (cs.set off (.v y))) st.heap,st.back,st.base⟩) : ACall P L W d f avs st K := by
 refine .sem hE fun g N bs ρ a w args R hargs => ?_
 subst ha
 obtain ⟨b,us,e,hh,hc⟩ := R.objs _ (findObj_mem hf)
 have e : ρ id = _ := e
 have hh : w.heap[b]? = _ := hh
 cases args with
 | nil => have := hargs.1; simp at this
 | cons a0 tl =>
  obtain ⟨b0,hb0,ea⟩ : ∃ b0,hdV (ρ id) = .pointer (some ⟨b0,0,none⟩) ∧ a0 = .pointer (some ⟨b0,off,none⟩) := hargs.2 0 _ _ rfl rfl
  rw [e] at hb0
  cases hb0
  subst ea
  have hxs : tl = xs := by
   refine spec_plain.spec_args (X := cxOf g w ρ st.heap) ⟨by simpa using hargs.1,fun i x u hx hu => ?_⟩
   rw [List.getElem?_map] at hx
   cases hq : xs[i]? with
   | none => rw [hq] at hx; cases hx
   | some q =>
    rw [hq] at hx
    cases hx
    exact hargs.2 (i + 1) (.v q) u (by simp [hq]) (by simpa using hu)
  subst hxs
  obtain ⟨u,hu,hxu⟩ := hc.get hx
  have hxu : u = x := hxu
  subst hxu
  obtain ⟨g1,g2⟩ := cell_get (i := off) hh
  refine (h b w (g1.trans hu) g2).mono ?_
  rintro e0 w' ⟨rfl,rfl⟩
  obtain ⟨s1,s2,s3,s4,s5,s6⟩ := cell_set (i := off) y hh
  refine ⟨_,_,_,ρ,rfl,hK,R.write hf (b := b) (by rw [e]; exact List.mem_cons_self) ⟨s4,s5,s6,by rw [s3]; exact Nat.le_refl _,fun k hk => s2 k (by omega)⟩ s3 s2 (fun hk hm => ?_),rfl⟩
  exact ⟨b,us.set off y,e,s1,(hc.imp fun _ _ => C0.same (X := cxOf g w ρ st.heap) (Y := cxOf g (w.setCell ⟨b,off,none⟩ y) ρ (setObj id (.box t (cs.set off (.v y))) st.heap)) hk hm rfl).set off rfl⟩
theorem ACall.done {L : Lay} {W : Walk} {d : Nat} {g : AV} {st : AS} {K : AV → AS → Prop} (id : Nat) {t : TypeId} {cs : List AV} (hf : findObj id st.heap = some (.box t cs)) (hx : cs[0]? = some (.v (.int .u32 1))) (hK : K (.tup []) st) : ACall Tryz.prog L W d 30 [.box id 0,g] st K := by
 refine .sem ⟨_,_,Tryz.func30,rfl,rfl⟩ fun G N bs ρ a w args R hargs => ?_
 obtain ⟨b,us,e,hh,hc⟩ := R.objs _ (findObj_mem hf)
 have e : ρ id = _ := e
 have hh : w.heap[b]? = _ := hh
 obtain ⟨a0,a1,rfl,h0,h1⟩ := two_args hargs
 obtain ⟨b0,hb0,rfl⟩ : ∃ b0,hdV (ρ id) = .pointer (some ⟨b0,0,none⟩) ∧ a0 = .pointer (some ⟨b0,0,none⟩) := h0
 rw [e] at hb0
 cases hb0
 obtain ⟨u,hu,hxu⟩ := hc.get hx
 have hxu : u = _ := hxu
 subst hxu
 obtain ⟨g1,g2⟩ := cell_get (i := 0) hh
 refine (o_done ⟨b,0,none⟩ a1 w (g1.trans hu)).mono ?_
 rintro e0 w' ⟨rfl,rfl⟩
 exact ⟨_,_,_,ρ,rfl,hK,R,[],rfl,All2.nil⟩
theorem add_in64 {x y : Int} (h1 : -9223372036854775808 ≤ x + y) (h2 : x + y ≤ 9223372036854775807) (w : World) : (Op.intArith .add .i64 x y).run Tryz.prog w = .ok (.int .i64 (x + y)) w := by
 have : IntKind.i64.wrap (x + y) = x + y := by
  simp only [IntKind.wrap,IntKind.signed,IntKind.bits]
  simp
  omega
 simp [Op.intArith,this]
theorem ACall.add {L : Lay} {W : Walk} {d : Nat} {st : AS} {K : AV → AS → Prop} (id off : Nat) {t : TypeId} {cs : List AV} {x y : Int} (hf : findObj id st.heap = some (.box t cs)) (hx : cs[off]? = some (.v (.int .i64 x))) (h1 : -9223372036854775808 ≤ x + y) (h2 : x + y ≤ 9223372036854775807)
  (hK : K (.v (.int .i64 (x + y))) ⟨st.sl,setObj id (.box t (cs.set off (.v (.int .i64 (x + y))))) st.heap,st.back,st.base⟩) : ACall Tryz.prog L W d 33 [.box id off, .v (.int .i64 y)] st K :=
 ACall.cell (xs := [.int .i64 y]) id off ⟨_,_,Tryz.func33,rfl,rfl⟩ hf hx rfl (fun b w hc hz => o_add ⟨b,off,none⟩ x y (x + y) w hc hz (add_in64 h1 h2 w)) hK
theorem first_m (t t1 : TypeId) (rest rest' : List AV) (c : List AV) (ho : List (Nat × AO))
  (hcl : MSpec Tryz.prog 31 [(0, .box t (.v (.int .u32 0) :: .v (.int .i32 1) :: rest)),(1, .box t1 c)] [.box 1 0] (.tup []) ((0, .box t (.v (.int .u32 0) :: .v (.int .i32 1) :: rest')) :: ho)) (hne : hasN 0 ho = false) :
  MSpec Tryz.prog 30 [(0, .box t (.v (.int .u32 0) :: .v (.int .i32 0) :: rest)),(1, .box t1 c)] [.box 0 0, .fn 31 [.box 1 0]] (.tup []) ((0, .box t (.v (.int .u32 1) :: .v (.int .i32 0) :: rest')) :: ho) := by
 refine ⟨⟨_,_,Tryz.func30,rfl,rfl⟩,fun w keep ρ args hk hobj hnd hbl hargs => ?_⟩
 obtain ⟨b,us,e,hh,ha⟩ := hobj _ List.mem_cons_self
 have e : ρ 0 = _ := e
 have hh : w.heap[b]? = _ := hh
 have ha : All2 (C0 ⟨w,keep,ρ⟩) _ us := ha
 obtain ⟨a0,a1,rfl,h0,h1⟩ := two_args hargs
 obtain ⟨b0,hb0,rfl⟩ : ∃ b0,hdV (ρ 0) = .pointer (some ⟨b0,0,none⟩) ∧ a0 = .pointer (some ⟨b0,0,none⟩) := h0
 rw [e] at hb0
 cases hb0
 obtain ⟨cs,rfl,hcs⟩ : ∃ us : List Value,a1 = .func (.func 31) #[] us.toArray ∧ All2 (C0 ⟨w,keep,ρ⟩) [.box 1 0] us := h1
 obtain ⟨u0,hu0,hx0⟩ := ha.get (i := 0) rfl
 obtain ⟨u1,hu1,hx1⟩ := ha.get (i := 1) rfl
 have hx0 : u0 = _ := hx0
 have hx1 : u1 = _ := hx1
 subst hx0 hx1
 obtain ⟨g0,z0⟩ := cell_get (i := 0) hh
 obtain ⟨g1,z1⟩ := cell_get (i := 1) hh
 obtain ⟨s1,s2,s3,s4,s5,s6⟩ := cell_set (i := 1) (.int .i32 1) hh
 let w2 := w.setCell ⟨b,1,none⟩ (.int .i32 1)
 let hin : List (Nat × AO) := [(0, .box t (.v (.int .u32 0) :: .v (.int .i32 0) :: rest)),(1, .box t1 c)]
 let hin' : List (Nat × AO) := [(0, .box t (.v (.int .u32 0) :: .v (.int .i32 1) :: rest)),(1, .box t1 c)]
 have hbe : blocksOf ρ hin' = blocksOf ρ hin := rfl
 have hbin : b ∈ blocksOf ρ hin := mem_blocks.2 ⟨_,List.mem_cons_self,by show b ∈ blks (ρ 0); rw [e]; exact List.mem_cons_self⟩
 have hne' : ∀ q,keep q → q ≠ b := fun q hq e => (hbl q (by rw [e]; exact hbin)).2 hq
 have hsame : ∀ q,keep q → w2.heap[q]? = w.heap[q]? := fun q hq => s2 q (hne' q hq)
 have hob : ∀ p ∈ hin',ObjOk ⟨w2,keep,ρ⟩ p.1 p.2 := by
  intro p hp
  rcases List.mem_cons.1 hp with rfl | hp
  · exact ⟨b,us.set 1 (.int .i32 1),e,s1,(ha.imp fun _ _ => C0.same (X := ⟨w,keep,ρ⟩) (Y := ⟨w2,keep,ρ⟩) (fun _ h => h) hsame rfl).set 1 (x := .v (.int .i32 1)) rfl⟩
  · obtain rfl := List.mem_singleton.1 hp
    refine ObjOk.same (X := ⟨w,keep,ρ⟩) (Y := ⟨w2,keep,ρ⟩) (fun _ h => h) hsame rfl (fun q hq => s2 q ?_) (hobj _ (List.mem_cons_of_mem _ hp))
    rintro rfl
    have : (0 : Nat) = 1 := blocks_apart hnd (0, .box t (.v (.int .u32 0) :: .v (.int .i32 0) :: rest)) List.mem_cons_self (1, .box t1 c) (List.mem_cons_of_mem _ hp) (by show q ∈ blks (ρ 0); rw [e]; exact List.mem_cons_self) hq
    omega
 have hcall := hcl.2 w2 keep ρ cs (fun q hq => by rw [s3]; exact hk q hq) hob hnd (fun q hq => ⟨by rw [s3]; exact (hbl q hq).1,(hbl q hq).2⟩) (hcs.imp fun x u h => C1.of0 (C0.same (X := ⟨w,keep,ρ⟩) (Y := ⟨w2,keep,ρ⟩) (fun _ h => h) hsame rfl h))
 let hout' : List (Nat × AO) := (0, .box t (.v (.int .u32 0) :: .v (.int .i32 1) :: rest')) :: ho
 let hout : List (Nat × AO) := (0, .box t (.v (.int .u32 1) :: .v (.int .i32 0) :: rest')) :: ho
 refine (o_first b 0 cs.toArray w (fun w1 => ∃ ρ',BelowM (fun q => q ∈ blocksOf ρ hin) w2.heap.size w2 w1 ∧ (∀ p ∈ hin',∀ q ∈ hout',q.1 = p.1 → HdEq (ρ' p.1) (ρ p.1)) ∧ (∀ p ∈ hout',ObjOk (cxOf ⟨w2,keep,fun q => q ∈ blocksOf ρ hin⟩ w1 ρ' hout') p.1 p.2) ∧ (blocksOf ρ' hout').Nodup ∧ ∀ q ∈ blocksOf ρ' hout',w2.heap.size ≤ q ∨ q ∈ blocksOf ρ hin)
  (g0.trans hu0) (g1.trans hu1) z1 (hcall.mono ?_) ?_).mono ?_
 · rintro e0 w1 ⟨u,ρ',rfl,a1,a2,a3,a4,a5,a6⟩
   obtain ⟨vs,rfl,hvs⟩ : ∃ us : List Value,u = .tuple us.toArray ∧ All2 _ [] us := a3
   have : vs = [] := List.eq_nil_of_length_eq_zero hvs.1.symm
   subst this
   exact ⟨rfl,ρ',a1,a2,a4,a5,a6⟩
 · rintro w1 ⟨ρ',a1,a2,a4,a5,a6⟩
   obtain ⟨b1,vs,e1,hh1,ha1⟩ := a4 _ List.mem_cons_self
   have e1 : ρ' 0 = _ := e1
   have hh1 : w1.heap[b1]? = _ := hh1
   have h01 := a2 (0, .box t (.v (.int .u32 0) :: .v (.int .i32 1) :: rest)) List.mem_cons_self (0, .box t (.v (.int .u32 0) :: .v (.int .i32 1) :: rest')) List.mem_cons_self rfl
   have h01 := h01.hd
   dsimp only at h01
   rw [e1,e] at h01
   cases h01
   obtain ⟨v0,hv0,hx0⟩ := ha1.get (i := 0) rfl
   obtain ⟨v1,hv1,hx1⟩ := ha1.get (i := 1) rfl
   have hx0 : v0 = _ := hx0
   have hx1 : v1 = _ := hx1
   subst hx0 hx1
   obtain ⟨q0,y0⟩ := cell_get (i := 0) hh1
   obtain ⟨q1,y1⟩ := cell_get (i := 1) hh1
   exact ⟨q0.trans hv0,q1.trans hv1,y0,y1⟩
 · rintro e0 w' ⟨rfl,w1,⟨ρ',a1,a2,a4,a5,a6⟩,rfl⟩
   obtain ⟨b1,vs,e1,hh1,ha1⟩ := a4 _ List.mem_cons_self
   have e1 : ρ' 0 = _ := e1
   have hh1 : w1.heap[b1]? = _ := hh1
   have ha1 : All2 (C0 (cxOf ⟨w2,keep,fun q => q ∈ blocksOf ρ hin⟩ w1 ρ' hout')) _ vs := ha1
   have h01 := a2 (0, .box t (.v (.int .u32 0) :: .v (.int .i32 1) :: rest)) List.mem_cons_self (0, .box t (.v (.int .u32 0) :: .v (.int .i32 1) :: rest')) List.mem_cons_self rfl
   have h01 := h01.hd
   dsimp only at h01
   rw [e1,e] at h01
   cases h01
   have hh1' : w1.drew.heap[b]? = _ := hh1
   obtain ⟨p1,p2,p3,p4,p5,p6⟩ := cell_set (i := 0) (.int .u32 1) hh1'
   obtain ⟨r1,r2,r3,r4,r5,r6⟩ := cell_set (i := 1) (.int .i32 0) p1
   let w3 := (w1.drew.setCell ⟨b,0,none⟩ (.int .u32 1)).setCell ⟨b,1,none⟩ (.int .i32 0)
   have hoth : ∀ k,k ≠ b → w3.heap[k]? = w1.heap[k]? := fun k hk => (r2 k hk).trans (p2 k hk)
   have hsz : w3.heap.size = w1.heap.size := r3.trans p3
   have hbe' : blocksOf ρ' hout = blocksOf ρ' hout' := rfl
   have hbo : b ∈ blocksOf ρ' hout' := mem_blocks.2 ⟨_,List.mem_cons_self,by show b ∈ blks (ρ' 0); rw [e1]; exact List.mem_cons_self⟩
   have hkk : ∀ q,keepOf ⟨w2,keep,fun q => q ∈ blocksOf ρ hin⟩ w1 ρ' hout' q → keepOf ⟨w,keep,fun q => q ∈ blocksOf ρ hin⟩ w3 ρ' hout q := by
    rintro q ⟨k1,k2,k3⟩
    exact ⟨by rw [hsz]; exact k1,fun hlt => k2 (by show q < w2.heap.size; rw [s3]; exact hlt),k3⟩
   have hmm : ∀ q,keepOf ⟨w2,keep,fun q => q ∈ blocksOf ρ hin⟩ w1 ρ' hout' q → w3.heap[q]? = w1.heap[q]? := fun q hq => hoth q fun e => hq.2.2 (by rw [e]; exact hbo)
   have hw2 : w2.heap.size = w.heap.size := s3
   refine ⟨_,ρ',rfl,⟨?_,?_,?_,?_,fun k hk hM => ?_⟩,?_,⟨[],rfl,All2.nil⟩,fun p hp => ?_,a5,fun q hq => by rw [← hw2]; exact a6 q hq⟩
   · exact (r4.trans p4).trans (a1.os.trans s4)
   · exact (r5.trans p5).trans (a1.tape.trans s5)
   · exact (r6.trans p6).trans (a1.output.trans s6)
   · show w.heap.size ≤ w3.heap.size
     rw [hsz,← hw2]; exact a1.size
   · have hkb : k ≠ b := fun e => hM (by rw [e]; exact hbin)
     exact (hoth k hkb).trans ((a1.block k (by rw [hw2]; exact hk) hM).trans (s2 k hkb))
   · intro p hp q hq he
     rcases List.mem_cons.1 hp with rfl | hp
     · exact a2 (0, .box t (.v (.int .u32 0) :: .v (.int .i32 1) :: rest)) List.mem_cons_self (0, .box t (.v (.int .u32 0) :: .v (.int .i32 1) :: rest')) List.mem_cons_self rfl
     · rcases List.mem_cons.1 hq with rfl | hq
       · obtain rfl := List.mem_singleton.1 hp
         cases he
       · exact a2 p (List.mem_cons_of_mem _ hp) q (List.mem_cons_of_mem _ hq) he
   · rcases List.mem_cons.1 hp with rfl | hp
     · refine ⟨b,(vs.set 0 (.int .u32 1)).set 1 (.int .i32 0),e1,r1,?_⟩
       exact ((ha1.imp fun _ _ => C0.same (X := cxOf ⟨w2,keep,fun q => q ∈ blocksOf ρ hin⟩ w1 ρ' hout') (Y := cxOf ⟨w,keep,fun q => q ∈ blocksOf ρ hin⟩ w3 ρ' hout) hkk hmm rfl).set 0 (x := .v (.int .u32 1)) rfl).set 1 (x := .v (.int .i32 0)) rfl
     · refine ObjOk.same (X := cxOf ⟨w2,keep,fun q => q ∈ blocksOf ρ hin⟩ w1 ρ' hout') (Y := cxOf ⟨w,keep,fun q => q ∈ blocksOf ρ hin⟩ w3 ρ' hout) hkk hmm rfl (fun q hq => hoth q ?_) (a4 p (List.mem_cons_of_mem _ hp))
       rintro rfl
       have h0p := blocks_apart a5 (0, .box t (.v (.int .u32 0) :: .v (.int .i32 1) :: rest')) List.mem_cons_self p (List.mem_cons_of_mem _ hp) (by show q ∈ blks (ρ' 0); rw [e1]; exact List.mem_cons_self) hq
       rw [hasN_mem.2 ⟨p,hp,h0p.symm⟩] at hne
       cases hne
end Go.Proofs.YtkkpfjifkjbndaaGreat

/-
 live.created: whether a Create of some events is below an event; live.counted,live.without.
-/
namespace Go.Proofs.YtkkpfjifkjbndaaGreat
open Go.RowKit
def crP (e a : Ev) : Bool := decide (a.k = 1) && belowB a e
set_option maxHeartbeats 4000000 in
set_option maxRecDepth 100000 in
theorem created_spec (l : List Ev) (e : Ev) (hl : l.length ≤ 140737488355328) :
  ASpec Tryz.prog 58 [.sl 12 l.length true (evF l),e.av] (.v (.bool (l.any (crP e)))) [] := by
 have hyes : ∀ j,j < l.length → (l.getD j default).k = 1 → belowB (l.getD j default) e = true → l.any (crP e) = true := fun j hj h1 h3 => any_get hj (by unfold crP; rw [h1,h3]; simp)
 have hno : (∀ i,i < l.length → crP e (l.getD i default) = false) → l.any (crP e) = false := fun h => any_none h
 generalize l.any (crP e) = R at hyes hno
 dsimp only [Ev.av]
 dsimp only [Ev.cs]
 refine aspec_of lay_ok 27 Tryz.func58 rfl rfl rfl ?_
 repeat' ((conv => whnf); first | refine Spl.yes (by first | assumption | omega) ?_ | refine Spl.no (by first | assumption | omega) ?_ | refine Wr.i64 (by omega) (by omega) ?_ | refine Still.mk rfl rfl ?_ | refine InB.mk (inB_mk (by omega) (by omega)) ?_ | refine Req.mk (by omega) ?_ | refine Req.mk ⟨by first | omega | (dsimp only; omega),by first | omega | (dsimp only; omega)⟩ ?_ | refine ACall.into 19 _ _ Tryz.func83 rfl rfl rfl ?_ | refine ACall.into 66483 _ _ Tryz.func97 rfl rfl rfl ?_ | refine ARet.hdI ?_ | refine Spl.mk (fun _ => ?_) (fun _ => ?_) | refine InA.mk (inB_mk (by omega) (by omega)) ?_ | refine Wr.b64 ?_ | refine Wr.bu64 ?_ | refine Wr.bu32 ?_ | refine Wr.bu8 ?_ | refine Wr.u8 (by omega) (by omega) ?_ | refine Wr.u64 (by omega) (by omega) ?_ | refine Wr.u32 (by omega) (by omega) ?_ | refine Dv.pos (by omega) (by omega) ?_ | refine Rm.pos (by omega) (by omega) ?_ | refine ADraw.quiet follows_ok (by kernel_rfl) rfl ?_ | refine BSpl.decY (by first | assumption | omega) ?_ | refine BSpl.decN (by first | assumption | omega) ?_ | refine BSpl.dec (fun _ => ?_) (fun _ => ?_) | refine BSpl.yes (by assumption) ?_ | refine BSpl.no (by assumption) ?_ | refine BSpl.mk (fun _ => ?_) (fun _ => ?_))
 conv => whnf
 refine ALoop.mk { j : Nat // j ≤ l.length ∧ ∀ i,i < j → crP e (l.getD i default) = false } (fun j => ⟨[(8, .v (.int .i64 (j.1 : Int))),(7, .v (.int .i64 (l.length : Int))),(0, .sl 12 l.length true (evF l)),(1, .fn 84 [.box 0 0])],
   [(0, .box 36 e.cs)],[[],[]],1⟩) (fun j => l.length - j.1) ⟨0,Nat.zero_le _,fun i h => absurd h (Nat.not_lt_zero i)⟩ _
  (LeR.mkB [] _ _ _ rfl ⟨AEq.int rfl,AEq.refl _,AEq.refl _,AEq.refl _,trivial⟩ ⟨⟨_,rfl,OEq.refl _⟩,trivial⟩ rfl) ?_
 rintro ⟨j,hj,hall⟩
 dsimp only
 by_cases hjl : j < l.length
 · have hbj := below_spec (l.getD (j : Int).toNat default) e
   have hyj := hyes j hjl
   rw [show j = (j : Int).toNat by omega] at hyj
   have hnj : (decide ((l.getD (j : Int).toNat default).k = 1) && belowB (l.getD (j : Int).toNat default) e) = false → ∀ i,i < j + 1 → crP e (l.getD i default) = false := by
    intro h i hi
    rcases Nat.lt_or_ge i j with h' | h'
    · exact hall i h'
    · obtain rfl : i = j := by omega
      rwa [show (i : Int).toNat = i by omega] at h
   dsimp only [Ev.av,Ev.cs] at hbj ⊢
   generalize belowB (l.getD (j : Int).toNat default) e = q2 at hbj hyj hnj
   repeat' ((conv => whnf); first | refine Spl.yes (by first | assumption | omega) ?_ | refine Spl.no (by first | assumption | omega) ?_ | refine Wr.i64 (by omega) (by omega) ?_ | refine Still.mk rfl rfl ?_ | refine InB.mk (inB_mk (by omega) (by omega)) ?_ | refine Req.mk (by omega) ?_ | refine Req.mk ⟨by first | omega | (dsimp only; omega),by first | omega | (dsimp only; omega)⟩ ?_ | refine ACall.plain _ _ (hbj) (SubL.cons (.eq _) (SubL.cons (.eq _) .nil)) rfl ?_ | refine ACall.into 15 _ _ Tryz.func84 rfl rfl rfl ?_ | refine ARet.hdI ?_ | refine Spl.mk (fun _ => ?_) (fun _ => ?_) | refine InA.mk (inB_mk (by omega) (by omega)) ?_ | refine Wr.b64 ?_ | refine Wr.bu64 ?_ | refine Wr.bu32 ?_ | refine Wr.bu8 ?_ | refine Wr.u8 (by omega) (by omega) ?_ | refine Wr.u64 (by omega) (by omega) ?_ | refine Wr.u32 (by omega) (by omega) ?_ | refine Dv.pos (by omega) (by omega) ?_ | refine Rm.pos (by omega) (by omega) ?_ | refine ADraw.quiet follows_ok (by kernel_rfl) rfl ?_ | refine BSpl.decY (by first | assumption | omega) ?_ | refine BSpl.decN (by first | assumption | omega) ?_ | refine BSpl.dec (fun _ => ?_) (fun _ => ?_) | refine BSpl.yes (by assumption) ?_ | refine BSpl.no (by assumption) ?_ | refine BSpl.mk (fun _ => ?_) (fun _ => ?_))
   all_goals (conv => whnf)
   all_goals first
     | (rw [hyj (by assumption) (by assumption)]; exact AEqI.mk (AEq.refl _))
     | exact ⟨⟨j + 1,by omega,hnj (by first | (rw [decide_eq_false (by assumption)]; rfl) | (rw [show q2 = false by assumption]; simp))⟩,_,LeR.mk' [] _ _ _ rfl ⟨AEq.int rfl,AEq.refl _,AEq.refl _,AEq.refl _,trivial⟩ ⟨⟨_,rfl,OEq.refl _⟩,trivial⟩ rfl,by show l.length - (j + 1) < l.length - j; omega⟩
 · have hR : R = false := hno fun i hi => hall i (by omega)
   repeat' ((conv => whnf); first | refine Spl.yes (by first | assumption | omega) ?_ | refine Spl.no (by first | assumption | omega) ?_ | refine Wr.i64 (by omega) (by omega) ?_ | refine Still.mk rfl rfl ?_ | refine InB.mk (inB_mk (by omega) (by omega)) ?_ | refine Req.mk (by omega) ?_ | refine Req.mk ⟨by first | omega | (dsimp only; omega),by first | omega | (dsimp only; omega)⟩ ?_ | refine ARet.hdI ?_ | refine Spl.mk (fun _ => ?_) (fun _ => ?_) | refine InA.mk (inB_mk (by omega) (by omega)) ?_ | refine Wr.b64 ?_ | refine Wr.bu64 ?_ | refine Wr.bu32 ?_ | refine Wr.bu8 ?_ | refine Wr.u8 (by omega) (by omega) ?_ | refine Wr.u64 (by omega) (by omega) ?_ | refine Wr.u32 (by omega) (by omega) ?_ | refine Dv.pos (by omega) (by omega) ?_ | refine Rm.pos (by omega) (by omega) ?_ | refine ADraw.quiet follows_ok (by kernel_rfl) rfl ?_ | refine BSpl.decY (by first | assumption | omega) ?_ | refine BSpl.decN (by first | assumption | omega) ?_ | refine BSpl.dec (fun _ => ?_) (fun _ => ?_) | refine BSpl.yes (by assumption) ?_ | refine BSpl.no (by assumption) ?_ | refine BSpl.mk (fun _ => ?_) (fun _ => ?_))
   all_goals (conv => whnf)
   rw [hR]
   exact AEqI.mk (AEq.refl _)
end Go.Proofs.YtkkpfjifkjbndaaGreat
