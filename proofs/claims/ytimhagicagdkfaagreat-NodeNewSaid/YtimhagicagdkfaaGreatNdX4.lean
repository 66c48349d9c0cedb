/-
  Contracts of the walk: AmC.
-/
import Derived.Test.YtimhagicagdkfaaGreatNdX3
import Derived.Orders
/-
 The abstract machine is right: what a function does to objects that it is given. The theorem to use: mspec_of. (This file joins 8 texts.)
-/
namespace Go.Proofs.YtimhagicagdkfaaGreat
open Go.RowKit
def refOf (k : Nat) : AO → AV
  | .box .. => .box k 0
  | .row .. => .own k
  | .mp .. => .own k
  | .obs _ => .own k
  | .rn .. => .own k
def ghostOf : Nat → List (Nat × AO) → List (Nat × AV)
  | _,[] => []
  | n,(k,o) :: l => (n,refOf k o) :: ghostOf (n + 1) l
def startM (avs : List AV) (hin : List (Nat × AO)) (base : Nat) : AS := ⟨enumA 0 avs,hin,[ghostOf 0 hin],base⟩
def tupB : AO → Bool
  | .box .. => false
  | .row .. => false
  | .mp .. => true
  | .obs _ => true
  | .rn .. => false
def kindB (k : Nat) (o : AO) (hout : List (Nat × AO)) : Bool := match findObj k hout with | some o' => tupB o == tupB o' | none => true
def fixedB (hout : List (Nat × AO)) (back : List (List (Nat × AV))) : Nat → List (Nat × AO) → Bool
  | _,[] => true
  | n,(k,o) :: l => (!(hasN k hout) || (kindB k o hout && match back,o with
    | [f], .box .. => (match ofL f n with | .box i j => Nat.beq i k && Nat.beq j 0 | _ => false)
    | [f], .row .. => (match ofL f n with | .own i => Nat.beq i k | _ => false)
    | [f], .mp .. => (match ofL f n with | .own i => Nat.beq i k | _ => false)
    | [f], .obs _ => (match ofL f n with | .own i => Nat.beq i k | _ => false)
    | [f], .rn .. => (match ofL f n with | .own i => Nat.beq i k | _ => false)
    | _,_ => false)) && fixedB hout back (n + 1) l
def retM0 (h hout : List (Nat × AO)) : AV → AV
  | .own i => bif hasN i hout then .own i else see0 h (.own i)
  | .box i k => bif hasN i hout then .box i k else .junk
  | .eown i s j k => bif hasN i hout then .eown i s j k else .junk
  | .osl i s j k => bif hasN i hout then .osl i s j k else .junk
  | .v x => .v x
  | .sl s n sc f => .sl s n sc f
  | _ => .junk
def retM1 (h hout : List (Nat × AO)) : AV → AV
  | .agg cs => .agg (cs.map (retM0 h hout))
  | x => retM0 h hout x
def retM2 (h hout : List (Nat × AO)) : AV → AV
  | .tup vs => .tup (vs.map (retM1 h hout))
  | x => retM1 h hout x
structure MRet (hin : List (Nat × AO)) (σ : List (Nat × Nat)) (st : AS) (x r : AV) (hout : List (Nat × AO)) : Prop where
 nd : nodupB (σ.map (·.2)) = true
 fx : fixedB hout (st.ren σ).back 0 hin = true
 hp : LeH (st.ren σ) hout
 hn : nodupB (hout.map (·.1)) = true
 hc : closedH hout hout = true
 hr : AEq (retM2 (st.ren σ).heap hout (ren2 σ x)) r
def retQM (L : Lay) (fn : Func) (hin : List (Nat × AO)) (r : AV) (hout : List (Nat × AO)) : AExit → AS → Prop
  | .normal,st => ares L st fn.results.toList (fun x => ∃ σ,MRet hin σ st x r hout)
  | .ret,st => ares L st fn.results.toList (fun x => ∃ σ,MRet hin σ st x r hout)
  | .exit _,_ => False
section
variable {P : Program} {L : Lay} {g : Base} {N : Nat} {bs : List (Array Value)} {ρ : Nat → Value} {a : Act} {w : World} {st : AS}
def ghostV (ρ : Nat → Value) : List (Nat × AO) → List Value
  | [] => []
  | (k,_) :: l => hdV (ρ k) :: ghostV ρ l
theorem ghost_ok {X : CX} : ∀ {hin : List (Nat × AO)} {n : Nat} {pre : List Value},pre.length = n → (∀ p ∈ hin,ObjOk X p.1 p.2) → ∀ t,C2 X (ofL (ghostOf n hin) t) ((pre ++ ghostV X.ρ hin).toArray.getD t undef)
  | [],n,pre,_,_,t => trivial
  | (k,o) :: l,n,pre,hp,ho,t => by
    have ih := ghost_ok (X := X) (hin := l) (n := n + 1) (pre := pre ++ [hdV (X.ρ k)]) (by simp [hp]) (fun p hp => ho p (List.mem_cons_of_mem _ hp)) t
    simp only [ghostOf,ofL]
    cases hb : Nat.beq t n with
    | true =>
      have e := Nat.eq_of_beq_eq_true hb
      have ev : (pre ++ ghostV X.ρ ((k,o) :: l)).toArray.getD t undef = hdV (X.ρ k) := by
       simp [ghostV,e,← hp]
      simp only [cond_true]
      rw [ev]
      have h0 := ho (k,o) List.mem_cons_self
      cases o with
      | box ty cs => obtain ⟨b,us,e',_⟩ := h0; exact ⟨b,by rw [e']; rfl,by rw [e']; rfl⟩
      | row => exact rfl
      | mp => exact rfl
      | obs => exact rfl
      | rn => exact rfl
    | false =>
      simp only [cond_false]
      have e3 : pre ++ ghostV X.ρ ((k,o) :: l) = pre ++ [hdV (X.ρ k)] ++ ghostV X.ρ l := by simp [ghostV]
      rw [e3]
      exact ih
theorem ObjOk.tup {X : CX} {k : Nat} {o : AO} (h : ObjOk X k o) : (tupB o = true → ∃ us,X.ρ k = .tuple us) ∧ (tupB o = false → hdV (X.ρ k) = X.ρ k) := by
 cases o with
 | box t cs => obtain ⟨b,us,e,_⟩ := h; exact ⟨fun h => (by cases h),fun _ => by rw [e]; rfl⟩
 | row e s n sc f => exact ⟨fun h => (by cases h),fun _ => hdV_row h⟩
 | mp t ks rs => obtain ⟨b,es,c,vs,hs,e,_⟩ := h; exact ⟨fun _ => ⟨_,e⟩,fun h => (by cases h)⟩
 | obs o => obtain ⟨us,e,_⟩ := h; exact ⟨fun _ => ⟨_,e⟩,fun h => (by cases h)⟩
 | rn e cs => obtain ⟨us,⟨hown,_⟩,_⟩ := h; exact ⟨fun h => (by cases h),fun _ => hdV_own hown⟩
theorem kind_eq {X Y : CX} {k : Nat} {o o' : AO} (h : ObjOk X k o) (h' : ObjOk Y k o') (hk : tupB o = tupB o') (e : hdV (Y.ρ k) = hdV (X.ρ k)) : HdEq (Y.ρ k) (X.ρ k) := by
 cases hb : tupB o with
 | true => exact .inr ⟨h'.tup.1 (hk ▸ hb),h.tup.1 hb,e⟩
 | false =>
   rw [h.tup.2 hb,h'.tup.2 (hk ▸ hb)] at e
   exact .inl e
theorem fixed_ok {X Y : CX} {hout : List (Nat × AO)} {back : List (List (Nat × AV))} : ∀ {hin : List (Nat × AO)} {n : Nat} {pre : List Value} {vs : List Value},pre.length = n → vs = pre ++ ghostV Y.ρ hin → (∀ p ∈ hin,ObjOk Y p.1 p.2) → (∀ p ∈ hin,hasN p.1 hout = true → ∃ o,findObj p.1 hout = some o ∧ ObjOk X p.1 o) → BackOk X back [vs.toArray] → fixedB hout back n hin = true → ∀ p ∈ hin,hasN p.1 hout = true → HdEq (X.ρ p.1) (Y.ρ p.1)
  | [],_,_,_,_,_,_,_,_,_,p,hp,_ => by cases hp
  | (k,o) :: l,n,pre,vs,hlen,hvs,hobj,hout',hbk,hf,p,hp,hn => by
    simp only [fixedB,Bool.and_eq_true,Bool.or_eq_true,Bool.not_eq_true'] at hf
    rcases List.mem_cons.1 hp with rfl | hp
    · rcases hf.1 with h | ⟨hkb,h⟩
      · rw [h] at hn; cases hn
      · have ev : vs.toArray.getD n undef = hdV (Y.ρ k) := by
         rw [hvs]; simp [ghostV,← hlen]
        obtain ⟨o',ho',hok'⟩ := hout' _ List.mem_cons_self hn
        have hok := hobj _ List.mem_cons_self
        have hkk : tupB o = tupB o' := by
         unfold kindB at hkb
         rw [ho'] at hkb
         exact eq_of_beq hkb
        refine kind_eq hok hok' hkk ?_
        match back,hbk,h with
        | [f],hbk,h =>
          have h2 := hbk.1 n
          rw [ev] at h2
          have own : (match ofL f n with | .own i => Nat.beq i k | _ => false) = true → hdV (X.ρ k) = hdV (Y.ρ k) := by
           intro h
           split at h
           · rename_i i e
             rw [e] at h2
             have e1 := Nat.eq_of_beq_eq_true h
             subst e1
             exact (C2.inv_own h2).symm
           · cases h
          cases o with
          | box t cs =>
            dsimp only at h
            split at h
            · rename_i i j e
              rw [e] at h2
              simp only [Bool.and_eq_true] at h
              have e1 := Nat.eq_of_beq_eq_true h.1
              have e2 := Nat.eq_of_beq_eq_true h.2
              subst e1 e2
              obtain ⟨b,h3,h4⟩ := C2.inv_box h2
              exact h3.trans h4.symm
            · cases h
          | row => exact own h
          | mp => exact own h
          | obs => exact own h
          | rn => exact own h
        | [],hbk,h => exact hbk.elim
        | _ :: _ :: _,hbk,h => exact hbk.2.elim
    · exact fixed_ok (pre := pre ++ [hdV (Y.ρ k)]) (vs := vs) (by simp [hlen]) (by rw [hvs]; simp [ghostV]) (fun p hp => hobj p (List.mem_cons_of_mem _ hp)) (fun p hp => hout' p (List.mem_cons_of_mem _ hp)) hbk hf.2 p hp hn
theorem findObj_of {h : List (Nat × AO)} (hn : (h.map (·.1)).Nodup) : ∀ p ∈ h,findObj p.1 h = some p.2 := by
 induction h with
 | nil => intro p hp; cases hp
 | cons q h ih =>
   intro p hp
   have hn' := List.nodup_cons.1 hn
   simp only [findObj]
   rcases List.mem_cons.1 hp with rfl | hp
   · simp
   · have : Nat.beq q.1 p.1 = false := by
      rw [Bool.eq_false_iff]
      intro e
      exact hn'.1 (List.mem_map.2 ⟨p,hp,(Nat.eq_of_beq_eq_true e).symm⟩)
     rw [this]
     exact ih hn'.2 p hp
theorem retM0_ok {k : Nat → Prop} (hk : ∀ b,keepOf g w ρ st.heap b → k b) {hout : List (Nat × AO)} {x : AV} {u : Value} (hr : ∀ i,hasN i hout = false → Reads st ρ w k (.own i)) (h : C0 (cxOf g w ρ st.heap) x u) : C0 ⟨w,k,ρ⟩ (retM0 st.heap hout x) u := by
 cases x with
 | own i =>
   simp only [retM0]
   cases hb : hasN i hout with
   | true => exact h
   | false =>
     have := see0_ok hk (hr i hb) h
     revert this
     simp only [see0,cond_false]
     cases findObj i st.heap with
     | none => exact fun h => h
     | some o => cases o <;> exact fun h => h
 | box i j =>
   simp only [retM0]
   cases hasN i hout with
   | true => exact h
   | false => trivial
 | eown i s j m =>
   simp only [retM0]
   cases hasN i hout with
   | true => exact h
   | false => trivial
 | osl i s j m =>
   simp only [retM0]
   cases hasN i hout with
   | true => exact h
   | false => trivial
 | v y => exact h
 | sl s n sc f => exact PC.mono hk (fun _ _ => rfl) h
 | _ => trivial
theorem retM1_ok {k : Nat → Prop} (hk : ∀ b,keepOf g w ρ st.heap b → k b) {hout : List (Nat × AO)} {x : AV} {u : Value} (hr : ∀ i,hasN i hout = false → Reads st ρ w k (.own i)) (h : C1 (cxOf g w ρ st.heap) x u) : C1 ⟨w,k,ρ⟩ (retM1 st.heap hout x) u := by
 cases x with
 | agg cs =>
   obtain ⟨us,rfl,ha⟩ := h
   exact ⟨us,rfl,ha.mapl fun _ _ => retM0_ok hk hr⟩
 | own i => exact C1.of0 (retM0_ok hk hr (x := .own i) h)
 | box i j => exact C1.of0 (retM0_ok hk hr (x := .box i j) h)
 | eown i s j m => exact C1.of0 (retM0_ok hk hr (x := .eown i s j m) h)
 | osl i s j m => exact C1.of0 (retM0_ok hk hr (x := .osl i s j m) h)
 | v y => exact h
 | sl s n sc f => exact C1.of0 (retM0_ok hk hr (x := .sl s n sc f) h)
 | _ => trivial
theorem retM2_ok {k : Nat → Prop} (hk : ∀ b,keepOf g w ρ st.heap b → k b) {hout : List (Nat × AO)} {x : AV} {u : Value} (hr : ∀ i,hasN i hout = false → Reads st ρ w k (.own i)) (h : C2 (cxOf g w ρ st.heap) x u) : C2 ⟨w,k,ρ⟩ (retM2 st.heap hout x) u := by
 cases x with
 | tup vs =>
   obtain ⟨us,rfl,ha⟩ := h
   exact ⟨us,rfl,ha.mapl fun _ _ => retM1_ok hk hr⟩
 | agg cs => exact C2.of1 (retM1_ok hk hr (x := .agg cs) h)
 | own i => exact C2.of1 (retM1_ok hk hr (x := .own i) h)
 | box i j => exact C2.of1 (retM1_ok hk hr (x := .box i j) h)
 | eown i s j m => exact C2.of1 (retM1_ok hk hr (x := .eown i s j m) h)
 | osl i s j m => exact C2.of1 (retM1_ok hk hr (x := .osl i s j m) h)
 | v y => exact h
 | sl s n sc f => exact C2.of1 (retM1_ok hk hr (x := .sl s n sc f) h)
 | _ => trivial
theorem LeH_mem {st : AS} : ∀ {h : List (Nat × AO)},LeH st h → ∀ p ∈ h,∃ o,findObj p.1 st.heap = some o ∧ OEq o p.2
  | [],_,p,hp => by cases hp
  | q :: l,h,p,hp => by
    rcases List.mem_cons.1 hp with rfl | hp
    · exact h.1
    · exact LeH_mem h.2 p hp
theorem mspec_of (hL : LayOk P L) (lv base : Nat) {f : FuncId} {fn : Func} {c : Code} {hin : List (Nat × AO)} {avs : List AV} {r : AV} {hout : List (Nat × AO)} (hf : P.funcs[f]? = some fn) (hn : (fn.name == "runtime.NumGoroutine") = false) (hb : fn.body = some c) (hsz : Nat.ble avs.length fn.ntmps = true)
  (h : awp P L 9 fn.ntmps lv c (retQM L fn hin r hout) (startM avs hin base)) : MSpec P f hin avs r hout := by
 refine ⟨⟨fn,c,hf,hn,hb⟩,fun w keep ρ args hkeep hobj hnd hin' hargs => ?_⟩
 have hsz := Nat.le_of_ble_eq_true hsz
 have hlen : args.length = avs.length := hargs.1.symm
 refine calls_of_wp hf hb ?_
 let g : Base := (baseM w keep (fun b => b ∈ blocksOf ρ hin))
 have hk0 : ∀ b,keep b → keepOf g w ρ hin b := fun b hb => ⟨hkeep b hb,fun _ => .inl hb,fun h => (hin' b h).2 hb⟩
 have hargs2 : All2 (C2 (cxOf g w ρ hin)) avs args := hargs.imp fun _ _ h => C2.of1 (C1.same (X := ⟨w,keep,ρ⟩) (Y := cxOf g w ρ hin) hk0 (fun _ _ => rfl) rfl h)
 have hobj2 : ∀ p ∈ hin,ObjOk (cxOf g w ρ hin) p.1 p.2 := fun p hp => by
  exact ObjOk.same (X := ⟨w,keep,ρ⟩) (Y := cxOf g w ρ hin) hk0 (fun _ _ => rfl) rfl (fun _ _ => rfl) (hobj p hp)
 have R0 : Rel g fn.ntmps [(ghostV ρ hin).toArray] ρ { tmps := args.toArray ++ Array.replicate (fn.ntmps - args.toArray.size) undef,defers := [] } w (startM avs hin base) :=
  ⟨by simp; omega,rfl,BelowM.refl _ _ _,frame_start hargs2 hsz,hobj2,hnd,fun b hb => .inr hb,⟨fun t => ghost_ok (X := cxOf g w ρ hin) (n := 0) (pre := []) rfl hobj2 t,trivial⟩⟩
 have fin : ∀ (e : Exit),(e = .normal ∨ e = .ret) → ∀ ρ1 a w' st,Rel g fn.ntmps [(ghostV ρ hin).toArray] ρ1 a w' st → ares L st fn.results.toList (fun x => ∃ σ,MRet hin σ st x r hout) →
   bodyPost P fn (fun e w' => ∃ u ρ',e = .returned u ∧ BelowM (fun b => b ∈ blocksOf ρ hin) w.heap.size w w' ∧ (∀ p ∈ hin,∀ q ∈ hout,q.1 = p.1 → HdEq (ρ' p.1) (ρ p.1)) ∧ C2 (cxOf g w' ρ' hout) r u ∧ (∀ p ∈ hout,ObjOk (cxOf g w' ρ' hout) p.1 p.2) ∧ (blocksOf ρ' hout).Nodup ∧ ∀ b ∈ blocksOf ρ' hout,w.heap.size ≤ b ∨ b ∈ blocksOf ρ hin) e a w' := by
  intro e he ρ1 a w' st R1 hq
  obtain ⟨x,u,⟨σ,hret⟩,hc,hrun⟩ := ret_run hL R1 hq
  have post : a.defers = [] ∧ ∃ v,(results fn a.tmps).run P w' = .ok v w' ∧ ∃ u ρ',Ending.returned v = .returned u ∧ BelowM (fun b => b ∈ blocksOf ρ hin) w.heap.size w w' ∧ (∀ p ∈ hin,∀ q ∈ hout,q.1 = p.1 → HdEq (ρ' p.1) (ρ p.1)) ∧ C2 (cxOf g w' ρ' hout) r u ∧ (∀ p ∈ hout,ObjOk (cxOf g w' ρ' hout) p.1 p.2) ∧ (blocksOf ρ' hout).Nodup ∧ ∀ b ∈ blocksOf ρ' hout,w.heap.size ≤ b ∨ b ∈ blocksOf ρ hin := by
   have R := R1.ren hret.nd
   have hc : C2 (cxOf g w' (renρ σ ρ1) (st.ren σ).heap) (ren2 σ x) u :=
    C2.ren (X := cxOf g w' ρ1 st.heap) (Y := cxOf g w' (renρ σ ρ1) (st.ren σ).heap) (fun b h => ⟨h.1,h.2.1,fun h' => h.2.2 ((blocks_ren (nodup_of hret.nd) ρ1 st.heap).subset h')⟩) rfl (fun k i e => renρ_ok (nodup_of hret.nd) e) hc
   generalize hst : st.ren σ = st' at *
   generalize hρe : renρ σ ρ1 = ρ' at *
   have hfx := hret.fx
   rw [hst] at hfx
   have hp := hret.hp
   rw [hst] at hp
   have hrr := hret.hr
   rw [hst] at hrr
   have hmem := LeH_mem hp
   have hsubb : ∀ b,b ∈ blocksOf ρ' hout → b ∈ blocksOf ρ' st'.heap := fun b hb => by
    obtain ⟨p,hp,e⟩ := mem_blocks.1 hb
    obtain ⟨o,ho,_⟩ := hmem p hp
    exact mem_blocks.2 ⟨_,findObj_mem ho,e⟩
   have hk : ∀ b,keepOf g w' ρ' st'.heap b → keepOf g w' ρ' hout b := fun b h => ⟨h.1,h.2.1,fun h' => h.2.2 (hsubb b h')⟩
   refine ⟨R1.defers,u,hrun,u,ρ',rfl,R.below,?_,?_,?_,nodup_sub' (nodup_of hret.hn) R.apart (fun p hp => by obtain ⟨o,ho,_⟩ := hmem p hp; exact ⟨_,findObj_mem ho,rfl⟩),fun b hb => R.own b (hsubb b hb)⟩
   · intro p hp q hq e
     exact fixed_ok (X := cxOf g w' ρ' st'.heap) (Y := ⟨w,keep,ρ⟩) (pre := []) (n := 0) rfl rfl hobj (fun p hp hno => by
      obtain ⟨q,hq,eq⟩ := hasN_mem.1 hno
      obtain ⟨o,ho,hoe⟩ := hmem q hq
      have hfo := findObj_of (nodup_of hret.hn) q hq
      rw [eq] at ho hfo
      exact ⟨q.2,hfo,hoe _ _ (R.objs _ (findObj_mem ho))⟩) R.back hfx p hp (hasN_mem.2 ⟨q,hq,e⟩)
   · refine hrr _ _ (retM2_ok (st := st') (ρ := ρ') hk (fun i hi => fun j e s n sc f hij hf => ?_) hc)
     refine row_reads R hf hk fun b hb => ?_
     have hin0 := mem_blocks.2 ⟨_,findObj_mem hf,hb⟩
     have := R.lt_block hin0
     refine ⟨this.1,fun hlt => ?_,fun hin1 => ?_⟩
     · exact this.2.elim (fun h => absurd hlt (by omega)) .inr
     · obtain ⟨p,hp,ep⟩ := mem_blocks.1 hin1
       obtain ⟨o,ho,_⟩ := hmem p hp
       have := blocks_apart R.apart _ (findObj_mem ho) _ (findObj_mem hf) ep hb
       dsimp only at this
       cases hij
       rw [← this,hasN_mem.2 ⟨p,hp,rfl⟩] at hi
       cases hi
   · intro p hp
     obtain ⟨o,ho,hoe⟩ := hmem p hp
     refine hoe _ _ ?_
     exact ObjOk.same (X := cxOf g w' ρ' st'.heap) (Y := cxOf g w' ρ' hout) hk (fun _ _ => rfl) rfl (fun _ _ => rfl) (R.objs _ (findObj_mem ho))
  rcases he with rfl | rfl
  · exact post
  · exact post
 exact awp_snd hL 9 g fn.ntmps lv [(ghostV ρ hin).toArray] c (retQM L fn hin r hout) _ ⟨fun ρ a w' st R h => fin _ (.inl rfl) ρ a w' st R h,fun i ρ a w' st R h => h.elim,fun ρ a w' st R h => fin _ (.inr rfl) ρ a w' st R h⟩ R0 h
end
end Go.Proofs.YtimhagicagdkfaaGreat
namespace Go.Proofs.YtimhagicagdkfaaGreat
open Go.RowKit
def keyB (σ : List (Nat × Nat)) (i : Nat) : Bool := match lookN σ i with | some _ => true | none => false
def key0 (σ : List (Nat × Nat)) : AV → Bool
  | .own i => keyB σ i
  | .eown i .. => keyB σ i
  | .osl i .. => keyB σ i
  | .box i _ => keyB σ i
  | .cf _ i _ => keyB σ i
  | _ => true
def key1 (σ : List (Nat × Nat)) : AV → Bool
  | .agg cs => cs.all (key0 σ)
  | .fn _ cs => cs.all (key0 σ)
  | x => key0 σ x
def key2 (σ : List (Nat × Nat)) : AV → Bool
  | .tup vs => vs.all (key1 σ)
  | x => key1 σ x
def keyO (σ : List (Nat × Nat)) : AO → Bool
  | .box _ cs => cs.all (key0 σ)
  | .row .. => true
  | .mp _ ks _ => ks.all fun p => match p.2 with | some i => keyB σ i | none => true
  | .obs _ => true
  | .rn _ cs => cs.all (key0 σ)
def keyH (σ : List (Nat × Nat)) : List (Nat × AO) → Bool
  | [] => true
  | (k,o) :: l => keyB σ k && keyO σ o && keyH σ l
section
variable {σ : List (Nat × Nat)} {X Y : CX}
theorem keyB_some {i : Nat} (h : keyB σ i = true) : ∃ j,lookN σ i = some j ∧ renN σ i = some j := by
 unfold keyB at h
 cases e : lookN σ i with
 | none => rw [e] at h; cases h
 | some j => exact ⟨j,rfl,by simp [renN,e]⟩
theorem C0.renK (hw : Y.w = X.w) (hk : Y.keep = X.keep) (hρ : ∀ k i,lookN σ k = some i → Y.ρ i = X.ρ k) {x : AV} {u : Value} (hr : key0 σ x = true) : C0 Y (ren0 σ x) u ↔ C0 X x u := by
 obtain ⟨w,k,ρ⟩ := X
 obtain ⟨w',k',ρ'⟩ := Y
 dsimp only at hw hk
 subst hw hk
 cases x with
 | own id =>
   obtain ⟨j,e,e'⟩ := keyB_some hr
   simp only [ren0,e',C0]
   rw [show ρ' j = ρ id from hρ id j e]
 | eown id s i n =>
   obtain ⟨j,e,e'⟩ := keyB_some hr
   simp only [ren0,e',C0]
   rw [show ρ' j = ρ id from hρ id j e]
 | osl id s i n =>
   obtain ⟨j,e,e'⟩ := keyB_some hr
   simp only [ren0,e',C0]
   rw [show ρ' j = ρ id from hρ id j e]
 | box id off =>
   obtain ⟨j,e,e'⟩ := keyB_some hr
   simp only [ren0,e',C0]
   rw [show ρ' j = ρ id from hρ id j e]
 | cf gg id off =>
   obtain ⟨j,e,e'⟩ := keyB_some hr
   simp only [ren0,e',C0]
   rw [show ρ' j = ρ id from hρ id j e]
 | _ => exact Iff.rfl
theorem All2.mapIff {R S : AV → Value → Prop} {m : AV → AV} {q : AV → Bool} (hi : ∀ x u,q x = true → (S (m x) u ↔ R x u)) : ∀ {xs : List AV} {us : List Value},xs.all q = true → (All2 S (xs.map m) us ↔ All2 R xs us)
  | xs,us,hq => by
    constructor
    · intro h
      refine ⟨by simpa using h.1,fun i x u hx hu => (hi x u (List.all_eq_true.1 hq x (List.mem_of_getElem? hx))).1 (h.2 i _ u (by rw [List.getElem?_map,hx]; rfl) hu)⟩
    · intro h
      refine ⟨by simpa using h.1,fun i y u hy hu => ?_⟩
      rw [List.getElem?_map] at hy
      cases hx : xs[i]? with
      | none => rw [hx] at hy; cases hy
      | some x => rw [hx] at hy; cases hy; exact (hi x u (List.all_eq_true.1 hq x (List.mem_of_getElem? hx))).2 (h.2 i x u hx hu)
theorem C1.renK (hw : Y.w = X.w) (hk : Y.keep = X.keep) (hρ : ∀ k i,lookN σ k = some i → Y.ρ i = X.ρ k) {x : AV} {u : Value} (hr : key1 σ x = true) : C1 Y (ren1 σ x) u ↔ C1 X x u := by
 have c0 : ∀ {y : AV},key0 σ y = true → (∀ cs,y ≠ .agg cs) → (∀ g cs,y ≠ .fn g cs) → (C1 Y (ren0 σ y) u ↔ C1 X y u) := by
  intro y hy h1 h2
  have := C0.renK hw hk hρ (u := u) hy
  constructor
  · intro h
    refine C1.of0 (this.1 ?_)
    have hne : ∀ cs,ren0 σ y ≠ .agg cs := by
     intro cs e
     cases y <;> simp only [ren0] at e <;> first | (split at e <;> cases e; done) | exact h1 _ rfl | cases e
    have hne2 : ∀ g cs,ren0 σ y ≠ .fn g cs := by
     intro g cs e
     cases y <;> simp only [ren0] at e <;> first | (split at e <;> cases e; done) | exact h2 _ _ rfl | cases e
    revert h hne hne2
    cases ren0 σ y <;> intro h hne hne2 <;> first | exact h | exact absurd rfl (hne _) | exact absurd rfl (hne2 _ _)
  · intro h
    refine C1.of0 (this.2 ?_)
    revert h h1 h2
    cases y <;> intro h1 h2 h <;> first | exact h | exact absurd rfl (h1 _) | exact absurd rfl (h2 _ _)
 cases x with
 | agg cs => exact exists_congr fun us => and_congr_right fun _ => All2.mapIff (fun x u h => C0.renK hw hk hρ h) hr
 | fn g cs => exact exists_congr fun us => and_congr_right fun _ => All2.mapIff (fun x u h => C0.renK hw hk hρ h) hr
 | v y => exact c0 (y := .v y) rfl (fun _ h => by cases h) (fun _ _ h => by cases h)
 | tup vs => exact c0 (y := .tup vs) rfl (fun _ h => by cases h) (fun _ _ h => by cases h)
 | sl s n sc f => exact c0 (y := .sl s n sc f) rfl (fun _ h => by cases h) (fun _ _ h => by cases h)
 | own i => exact c0 (y := .own i) hr (fun _ h => by cases h) (fun _ _ h => by cases h)
 | eown i s j k => exact c0 (y := .eown i s j k) hr (fun _ h => by cases h) (fun _ _ h => by cases h)
 | osl i s j k => exact c0 (y := .osl i s j k) hr (fun _ h => by cases h) (fun _ _ h => by cases h)
 | box i k => exact c0 (y := .box i k) hr (fun _ h => by cases h) (fun _ _ h => by cases h)
 | cf gg i k => exact c0 (y := .cf gg i k) hr (fun _ h => by cases h) (fun _ _ h => by cases h)
 | el cs k => exact c0 (y := .el cs k) rfl (fun _ h => by cases h) (fun _ _ h => by cases h)
 | junk => exact c0 (y := .junk) rfl (fun _ h => by cases h) (fun _ _ h => by cases h)
theorem C2.renK (hw : Y.w = X.w) (hk : Y.keep = X.keep) (hρ : ∀ k i,lookN σ k = some i → Y.ρ i = X.ρ k) {x : AV} {u : Value} (hr : key2 σ x = true) (h : C2 X x u) : C2 Y (ren2 σ x) u := by
 cases x with
 | tup vs =>
   obtain ⟨us,e,ha⟩ := h
   exact ⟨us,e,(All2.mapIff (fun x u h => C1.renK hw hk hρ h) hr).2 ha⟩
 | agg cs => exact C2.of1 ((C1.renK hw hk hρ (x := .agg cs) hr).2 h)
 | fn g cs => exact C2.of1 ((C1.renK hw hk hρ (x := .fn g cs) hr).2 h)
 | v y => exact C2.of1 ((C1.renK hw hk hρ (x := .v y) hr).2 h)
 | sl s n sc f => exact C2.of1 ((C1.renK hw hk hρ (x := .sl s n sc f) hr).2 h)
 | own i => exact C2.of1 ((C1.renK hw hk hρ (x := .own i) hr).2 h)
 | eown i s j k => exact C2.of1 ((C1.renK hw hk hρ (x := .eown i s j k) hr).2 h)
 | osl i s j k => exact C2.of1 ((C1.renK hw hk hρ (x := .osl i s j k) hr).2 h)
 | box i k => exact C2.of1 ((C1.renK hw hk hρ (x := .box i k) hr).2 h)
 | cf gg i k => exact C2.of1 ((C1.renK hw hk hρ (x := .cf gg i k) hr).2 h)
 | el cs k => exact C2.of1 ((C1.renK hw hk hρ (x := .el cs k) hr).2 h)
 | junk => exact C2.of1 ((C1.renK hw hk hρ (x := .junk) hr).2 h)
theorem MpIs.renK {ρ ρ' : Nat → Value} (hρ : ∀ k i,lookN σ k = some i → ρ' i = ρ k) : ∀ {ks : List (ByteArray × Option Nat)} {vs : List Value},(ks.all fun p => match p.2 with | some i => keyB σ i | none => true) = true → (MpIs ρ' (renK σ ks) vs ↔ MpIs ρ ks vs)
  | [],_,_ => Iff.rfl
  | (k,none) :: l,vs,h => by
    simp only [List.all_cons,Bool.and_eq_true] at h
    simp only [Go.Proofs.YtimhagicagdkfaaGreat.renK,MpIs]
    exact exists_congr fun v => exists_congr fun r => and_congr_right fun _ => and_congr ⟨fun _ i hi => (by cases hi),fun _ i hi => (by cases hi)⟩ (MpIs.renK hρ h.2)
  | (k,some i) :: l,vs,h => by
    simp only [List.all_cons,Bool.and_eq_true] at h
    obtain ⟨j,e,e'⟩ := keyB_some h.1
    simp only [Go.Proofs.YtimhagicagdkfaaGreat.renK,MpIs,e']
    refine exists_congr fun v => exists_congr fun r => and_congr_right fun _ => and_congr ?_ (MpIs.renK hρ h.2)
    constructor
    · intro q x hx
      cases hx
      rw [← hρ i j e]
      exact q j rfl
    · intro q x hx
      cases hx
      rw [hρ i j e]
      exact q i rfl
theorem ObjOk.renK (hw : Y.w = X.w) (hk : Y.keep = X.keep) (hρ : ∀ k i,lookN σ k = some i → Y.ρ i = X.ρ k) {k i : Nat} {o : AO} (hi : lookN σ k = some i) (hr : keyO σ o = true) : ObjOk Y i (o.ren σ) ↔ ObjOk X k o := by
 cases o with
 | box t cs =>
   simp only [AO.ren,ObjOk,hw,hρ k i hi]
   exact exists_congr fun b => exists_congr fun us => and_congr_right fun _ => and_congr_right fun _ => All2.mapIff (fun x u h => C0.renK hw hk hρ h) hr
 | row e s n sc f =>
   simp only [AO.ren,ObjOk,RowOk,hw,hk,hρ k i hi]
 | mp t ks rs =>
   have hh : ∀ hs,HidOk Y rs hs ↔ HidOk X rs hs := fun hs => ⟨HidOk.mono (by rw [hk]; exact fun _ h => h) (fun _ _ => by rw [hw]) (fun _ _ => by rw [hw]),HidOk.mono (by rw [hk]; exact fun _ h => h) (fun _ _ => by rw [hw]) (fun _ _ => by rw [hw])⟩
   simp only [AO.ren,ObjOk,hw,hρ k i hi,renK_keys,hh]
   exact exists_congr fun b => exists_congr fun es => exists_congr fun c => exists_congr fun vs => exists_congr fun hs => and_congr_right fun _ => and_congr_right fun _ => and_congr_left fun _ => MpIs.renK (fun k i e => congrArg hdV (hρ k i e)) hr
 | obs o =>
   simp only [AO.ren,ObjOk,hw,hk,hρ k i hi]
 | rn e cs =>
   simp only [AO.ren,ObjOk,hw,hρ k i hi,List.length_map]
   exact exists_congr fun us => and_congr_right fun _ => All2.mapIff (fun x u h => C0.renK hw hk hρ h) hr
theorem blocks_renK {ρ ρ' : Nat → Value} (hρ : ∀ k i,lookN σ k = some i → ρ' i = ρ k) : ∀ {h : List (Nat × AO)},keyH σ h = true → blocksOf ρ' (renH σ h) = blocksOf ρ h
  | [],_ => rfl
  | (k,o) :: l,h => by
    simp only [keyH,Bool.and_eq_true] at h
    obtain ⟨j,e,e'⟩ := keyB_some h.1.1
    simp only [renH,e']
    rw [blocks_cons,blocks_cons,blocks_renK hρ h.2]
    dsimp only
    rw [hρ k j e]
theorem renH_mem : ∀ {h : List (Nat × AO)},keyH σ h = true → ∀ p ∈ h,∃ i,lookN σ p.1 = some i ∧ (i,p.2.ren σ) ∈ renH σ h ∧ keyO σ p.2 = true
  | [],_,p,hp => by cases hp
  | (k,o) :: l,h,p,hp => by
    simp only [keyH,Bool.and_eq_true] at h
    obtain ⟨j,e,e'⟩ := keyB_some h.1.1
    simp only [renH,e']
    rcases List.mem_cons.1 hp with rfl | hp
    · exact ⟨j,e,List.mem_cons_self,h.1.2⟩
    · obtain ⟨i,h1,h2,h3⟩ := renH_mem h.2 p hp
      exact ⟨i,h1,List.mem_cons_of_mem _ h2,h3⟩
theorem mem_renHK : ∀ {h : List (Nat × AO)},keyH σ h = true → ∀ q ∈ renH σ h,∃ p ∈ h,lookN σ p.1 = some q.1 ∧ q.2 = p.2.ren σ ∧ keyO σ p.2 = true
  | [],_,q,hq => by cases hq
  | (k,o) :: l,h,q,hq => by
    simp only [keyH,Bool.and_eq_true] at h
    obtain ⟨j,e,e'⟩ := keyB_some h.1.1
    simp only [renH,e'] at hq
    rcases List.mem_cons.1 hq with rfl | hq
    · exact ⟨(k,o),List.mem_cons_self,e,rfl,h.1.2⟩
    · obtain ⟨p,h1,h2⟩ := mem_renHK h.2 q hq
      exact ⟨p,List.mem_cons_of_mem _ h1,h2⟩
end
theorem MSpec.ren {P : Program} {f : FuncId} {hin : List (Nat × AO)} {avs : List AV} {r : AV} {hout : List (Nat × AO)} (h : MSpec P f hin avs r hout) (σ : List (Nat × Nat))
  (hb : (nodupL (σ.map (·.2)) && keyH σ hin && keyH σ hout && avs.all (key1 σ) && key2 σ r) = true) : MSpec P f (renH σ hin) (avs.map (ren1 σ)) (ren2 σ r) (renH σ hout) := by
 simp only [Bool.and_eq_true] at hb
 obtain ⟨⟨⟨⟨hnd,hki⟩,hko⟩,hka⟩,hkr⟩ := hb
 have hn := nodupL_of hnd
 refine ⟨h.1,fun w keep ρ args hkeep hobj hndb hnk hargs => ?_⟩
 let ρ0 : Nat → Value := fun k => match lookN σ k with | some i => ρ i | none => undef
 have e0 : ∀ k i,lookN σ k = some i → ρ i = ρ0 k := fun k i e => by simp only [ρ0,e]
 have hbin : blocksOf ρ (renH σ hin) = blocksOf ρ0 hin := blocks_renK e0 hki
 have key := h.2 w keep ρ0 args hkeep (fun p hp => by
   obtain ⟨i,h1,h2,h3⟩ := renH_mem hki p hp
   exact (ObjOk.renK (X := ⟨w,keep,ρ0⟩) (Y := ⟨w,keep,ρ⟩) rfl rfl e0 h1 h3).1 (hobj _ h2)) (by rw [← hbin]; exact hndb) (by rw [← hbin]; exact hnk)
  ((All2.mapIff (fun x u h => C1.renK (X := ⟨w,keep,ρ0⟩) (Y := ⟨w,keep,ρ⟩) rfl rfl e0 h) hka).1 hargs)
 refine key.mono ?_
 rintro e w' ⟨u,ρ0',rfl,hbel,hfix,hc,ho,hnd',hnew⟩
 let ρ' : Nat → Value := fun i => match srcN σ i with | some k => ρ0' k | none => ρ i
 have e1 : ∀ k i,lookN σ k = some i → ρ' i = ρ0' k := fun k i e => by simp only [ρ',srcN_of hn (lookN_mem e)]
 have hbout : blocksOf ρ' (renH σ hout) = blocksOf ρ0' hout := blocks_renK e1 hko
 have hM : (fun b => b ∈ blocksOf ρ (renH σ hin)) = (fun b => b ∈ blocksOf ρ0 hin) := by rw [hbin]
 have hkk : (cxOf (baseM w keep (fun b => b ∈ blocksOf ρ (renH σ hin))) w' ρ' (renH σ hout)).keep = (cxOf (baseM w keep (fun b => b ∈ blocksOf ρ0 hin)) w' ρ0' hout).keep := by
  funext b
  simp only [cxOf,keepOf,hbout,hbin]
 refine ⟨u,ρ',rfl,by rw [hM]; exact hbel,?_,C2.renK (X := cxOf (baseM w keep (fun b => b ∈ blocksOf ρ0 hin)) w' ρ0' hout) (Y := cxOf (baseM w keep (fun b => b ∈ blocksOf ρ (renH σ hin))) w' ρ' (renH σ hout)) rfl hkk e1 hkr hc,?_,by rw [hbout]; exact hnd',by rw [hbout,hbin]; exact hnew⟩
 · intro p hp q hq epq
   obtain ⟨p0,hp0,h1,_⟩ := mem_renHK hki p hp
   obtain ⟨q0,hq0,h2,_⟩ := mem_renHK hko q hq
   have hk0 : q0.1 = p0.1 := by
    have k1 := srcN_of hn (lookN_mem h1)
    have k2 := srcN_of hn (lookN_mem h2)
    rw [epq,k1] at k2
    exact (Option.some.inj k2).symm
   rw [e1 _ _ h1,e0 _ _ h1]
   exact hfix p0 hp0 q0 hq0 hk0
 · intro q hq
   obtain ⟨p,hp,h1,h2,h3⟩ := mem_renHK hko q hq
   rw [h2]
   exact (ObjOk.renK (X := cxOf (baseM w keep (fun b => b ∈ blocksOf ρ0 hin)) w' ρ0' hout) (Y := cxOf (baseM w keep (fun b => b ∈ blocksOf ρ (renH σ hin))) w' ρ' (renH σ hout)) rfl hkk e1 h1 h3).2 (ho p hp)
theorem ACall.chgR {P : Program} {L : Lay} {W : Walk} {d : Nat} {f : FuncId} {avs : List AV} {st : AS} {K : AV → AS → Prop} (k : Nat) (τ : List (Nat × Nat)) {hin : List (Nat × AO)} {avs0 : List AV} {r : AV} {hout : List (Nat × AO)} (hs : MSpec P f hin avs0 r hout)
  (ha : avs0.map (ren1 ((k,d) :: τ)) = avs) (hh : HasH st (renH ((k,d) :: τ) hin))
  (hb : (nodupL (((k,d) :: τ).map (·.2)) && keyH ((k,d) :: τ) hin && keyH ((k,d) :: τ) hout && avs0.all (key1 ((k,d) :: τ)) && key2 ((k,d) :: τ) r) = true)
  (hb2 : (nodupL ((renH ((k,d) :: τ) hin).map (·.1)) && (avs0.map (ren1 ((k,d) :: τ))).all noTup && closedH (renH ((k,d) :: τ) hout) (renH ((k,d) :: τ) hout) && ref2 (renH ((k,d) :: τ) hout) (ren2 ((k,d) :: τ) r) && namesIn d (renH ((k,d) :: τ) hin) (renH ((k,d) :: τ) hout)) = true)
  (hK : K (ren2 ((k,d) :: τ) r) (st.chg d (renH ((k,d) :: τ) hin) (renH ((k,d) :: τ) hout))) : ACall P L W d f avs st K := by
 subst ha
 exact .chg _ _ _ (hs.ren _ hb) hh hb2 hK
end Go.Proofs.YtimhagicagdkfaaGreat
namespace Go.Proofs.YtimhagicagdkfaaGreat
open Go.RowKit
section
variable {P : Program}
def FreeS {α : Type} (P : Program) (m : Sem α) : Prop := ∀ (w w' : World) (u : α) (w1 : World),m.run P w = .ok u w1 → w1 = w ∧ m.run P w' = .ok u w'
theorem FreeS.pure {α : Type} (x : α) : FreeS P (Pure.pure x : Sem α) := by
 intro w w' u w1 h
 simp only [Sem.run_pure] at h ⊢
 cases h
 exact ⟨rfl,rfl⟩
theorem FreeS.halt {α : Type} (h : Halt) : FreeS P (Sem.halt h : Sem α) := by
 intro w w' u w1 h
 simp only [Sem.run_halt] at h
 cases h
theorem FreeS.stuck {α : Type} (h : String) : FreeS P (Go.stuck h : Sem α) := FreeS.halt _
theorem FreeS.unsupported {α : Type} (h : Unsupported) : FreeS P (Go.unsupported h : Sem α) := FreeS.halt _
theorem FreeS.program : FreeS P (Go.program) := by
 intro w w' u w1 h
 simp only [run_program] at h ⊢
 cases h
 exact ⟨rfl,rfl⟩
theorem FreeS.bind {α β : Type} {m : Sem α} {k : α → Sem β} (hm : FreeS P m) (hk : ∀ x,FreeS P (k x)) : FreeS P (m >>= k) := by
 intro w w' u w1 h
 rw [Sem.run_bind] at h ⊢
 cases e : m.run P w with
 | ok x w0 =>
   rw [e] at h
   obtain ⟨rfl,e'⟩ := hm w w' x w0 e
   rw [e',Result.andThen_ok]
   exact hk x _ w' u w1 h
 | halt x w0 => rw [e] at h; cases h
theorem FreeS.dead {α : Type} {m : Sem α} (h : ∀ w u w1,m.run P w ≠ .ok u w1) : FreeS P m := fun w _ u w1 e => absurd e (h w u w1)
theorem dead_bind {α β : Type} {m : Sem α} {k : α → Sem β} (hk : ∀ x w u w1,(k x).run P w ≠ .ok u w1) (w : World) (u : β) (w1 : World) : (m >>= k).run P w ≠ .ok u w1 := by
 rw [Sem.run_bind]
 cases e : m.run P w with
 | ok x w0 => rw [Result.andThen_ok]; exact hk x w0 u w1
 | halt x w0 => exact fun h => by cases h
theorem dead_panic {α : Type} (e : RuntimeError) (w : World) (u : α) (w1 : World) : (runtimePanic e : Sem α).run P w ≠ .ok u w1 := by
 unfold runtimePanic
 refine dead_bind (fun p w u w1 => ?_) w u w1
 cases e <;> first | exact (fun h => by cases h) | exact dead_bind (fun _ => dead_bind fun _ w u w1 h => by cases h) _ _ _
theorem FreeS.bounds {α : Type} (k : IntKind) (x y : Int) (c : BoundsCode) : FreeS P (boundsPanic k x y c : Sem α) := by
 refine FreeS.dead fun w u w1 => ?_
 unfold boundsPanic
 dsimp only
 split
 · exact dead_bind (fun _ w u w1 => dead_panic _ w u w1) w u w1
 · exact dead_bind (fun _ w u w1 => dead_panic _ w u w1) w u w1
theorem FreeS.rpanic {α : Type} (e : RuntimeError) : FreeS P (runtimePanic e : Sem α) := FreeS.dead fun w u w1 => dead_panic e w u w1
theorem FreeS.underlying (t : TypeId) : FreeS P (Go.underlying t) := by
 unfold Go.underlying
 refine FreeS.bind FreeS.program fun p => ?_
 split
 · exact FreeS.pure _
 · exact FreeS.halt _
theorem FreeS.typeInfo (t : TypeId) : FreeS P (Go.typeInfo t) := by
 unfold Go.typeInfo
 refine FreeS.bind FreeS.program fun p => ?_
 split
 · exact FreeS.pure _
 · exact FreeS.halt _
theorem FreeS.sizeOf (t : TypeId) : FreeS P (Go.sizeOf t) := FreeS.bind (FreeS.typeInfo t) fun _ => FreeS.pure _
theorem FreeS.asIntOf (v : Value) : FreeS P (Go.asIntOf v) := by
 unfold Go.asIntOf
 split
 · exact FreeS.pure _
 · exact FreeS.halt _
 · exact FreeS.halt _
theorem FreeS.asBool (v : Value) : FreeS P (Go.asBool v) := by
 unfold Go.asBool
 split
 · exact FreeS.pure _
 · exact FreeS.halt _
theorem FreeS.sureAddr (v : Value) : FreeS P (Instr.sureAddr v) := by
 unfold Instr.sureAddr
 split
 · exact FreeS.pure _
 · exact FreeS.halt _
theorem FreeS.indexAt (t : TypeId) (x i : Value) : FreeS P (Instr.indexAt t x i) := by
 unfold Instr.indexAt
 with_reducible repeat' first
   | exact FreeS.pure _
   | exact FreeS.stuck _
   | exact FreeS.unsupported _
   | exact FreeS.bounds _ _ _ _
   | refine FreeS.bind (FreeS.asIntOf _) fun _ => ?_
   | refine FreeS.bind (FreeS.underlying _) fun _ => ?_
   | refine FreeS.bind (FreeS.sureAddr _) fun _ => ?_
   | refine FreeS.bind (FreeS.sizeOf _) fun _ => ?_
   | refine FreeS.bind (FreeS.pure _) fun _ => ?_
   | refine FreeS.bind (FreeS.stuck _) fun _ => ?_
   | (dsimp only; split)
   | split
theorem FreeS.asAgg (v : Value) : FreeS P (Go.asAgg v) := by
 unfold Go.asAgg
 split
 · exact FreeS.pure _
 · exact FreeS.halt _
theorem FreeS.isAgg (t : TypeId) : FreeS P (Go.isAgg t) := by
 unfold Go.isAgg
 refine FreeS.bind (FreeS.underlying _) fun _ => ?_
 split <;> exact FreeS.pure _
theorem FreeS.part (t : TypeId) (cs : Array Value) (off : Nat) : FreeS P (Go.part t cs off) := by
 unfold Go.part
 refine FreeS.bind (FreeS.isAgg _) fun _ => ?_
 split
 · exact FreeS.bind (FreeS.sizeOf _) fun _ => FreeS.pure _
 · split
   · exact FreeS.pure _
   · exact FreeS.halt _
theorem FreeS.field (t : TypeId) (x : Value) (i : Nat) : FreeS P (Instr.field t x i) := by
 unfold Instr.field
 refine FreeS.bind (FreeS.underlying _) fun _ => ?_
 split
 · split
   · exact FreeS.bind (FreeS.asAgg _) fun _ => FreeS.part _ _ _
   · exact FreeS.stuck _
 · exact FreeS.stuck _
theorem FreeS.index (t : TypeId) (x i : Value) : FreeS P (Instr.index t x i) := by
 unfold Instr.index
 with_reducible repeat' first
   | exact FreeS.pure _
   | exact FreeS.stuck _
   | exact FreeS.bounds _ _ _ _
   | exact FreeS.part _ _ _
   | refine FreeS.bind (FreeS.asIntOf _) fun _ => ?_
   | refine FreeS.bind (FreeS.underlying _) fun _ => ?_
   | refine FreeS.bind (FreeS.sizeOf _) fun _ => ?_
   | refine FreeS.bind (FreeS.pure _) fun _ => ?_
   | (dsimp only; split)
   | split
theorem FreeS.extract (v : Value) (i : Nat) : FreeS P (Instr.extract v i) := by
 unfold Instr.extract
 split
 · split
   · exact FreeS.pure _
   · exact FreeS.halt _
 · exact FreeS.halt _
theorem FreeS.intArith (op : BinOp) (k : IntKind) (x y : Int) : FreeS P (Op.intArith op k x y) := by
 unfold Op.intArith
 split <;> first | exact FreeS.pure _ | exact FreeS.halt _
theorem FreeS.intBits (op : BinOp) (k : IntKind) (x y : Int) : FreeS P (Op.intBits op k x y) := by
 unfold Op.intBits
 dsimp only
 split <;> first | exact FreeS.pure _ | exact FreeS.halt _
theorem FreeS.intCmp (op : BinOp) (x y : Int) : FreeS P (Op.intCmp op x y) := by
 unfold Op.intCmp
 split <;> first | exact FreeS.pure _ | exact FreeS.halt _
theorem FreeS.intDiv (op : BinOp) (k : IntKind) (x y : Int) : FreeS P (Op.intDiv op k x y) := by
 unfold Op.intDiv
 split
 · exact FreeS.rpanic _
 · split <;> first | exact FreeS.pure _ | exact FreeS.halt _
theorem FreeS.shift (op : BinOp) (k k' : IntKind) (x y : Int) : FreeS P (Op.shift op k x k' y) := by
 unfold Op.shift
 split
 · exact FreeS.rpanic _
 · dsimp only
   split <;> first | exact FreeS.pure _ | exact FreeS.halt _
theorem FreeS.unary (op : UnOp) (x : Value) : FreeS P (Op.unary op x) := by
 unfold Op.unary
 split <;> first | exact FreeS.pure _ | exact FreeS.halt _ | exact FreeS.intArith _ _ _ _ | exact FreeS.intBits _ _ _ _
theorem FreeS.binInt (op : BinOp) (t : TypeId) (k k' : IntKind) (x y : Int) : FreeS P (binOp op t (.int k x) (.int k' y)) := by
 cases op <;> unfold binOp <;> dsimp only <;> first | exact FreeS.shift _ _ _ _ _ | (split <;> first | exact FreeS.halt _ | exact FreeS.intArith _ _ _ _ | exact FreeS.intBits _ _ _ _ | exact FreeS.intCmp _ _ _ | exact FreeS.intDiv _ _ _ _)
theorem FreeS.eqInt (op : BinOp) (t : TypeId) (x y : Operand) (k k' : IntKind) (a b : Int) : FreeS P (eqGuard op t x y (.int k a) (.int k' b)) := by
 cases op <;> exact FreeS.pure _
theorem FreeS.convInt {s t : TypeId} {k : IntKind} (ht : P.underlying t = some (.int k)) (k' : IntKind) (n : Int) : FreeS P (convert s t (.int k' n)) := by
 intro w w' u w1 h
 unfold convert at h ⊢
 simp only [Sem.run_bind] at h ⊢
 cases e : (Go.underlying s).run P w with
 | halt x w0 => rw [e] at h; cases h
 | ok d w0 =>
   obtain ⟨rfl,e'⟩ := FreeS.underlying s w w' d w0 e
   have hu : ∀ w,(Go.underlying t).run P w = .ok (.int k) w := by
    intro w
    unfold Go.underlying
    simp only [Sem.run_bind,run_program,Result.andThen_ok,ht]
    rfl
   rw [e,Result.andThen_ok,hu,Result.andThen_ok] at h
   rw [e',Result.andThen_ok,hu,Result.andThen_ok]
   have hf : FreeS P (Conv.intToInt k n) := FreeS.pure _
   cases d <;> exact hf w0 w' u w1 h
theorem FreeS.bindr {α β : Type} {m : Sem α} {k : α → Sem β} {x : α} (hm : ∀ w,m.run P w = .ok x w) (hk : FreeS P (k x)) : FreeS P (m >>= k) := by
 intro w w' u w1 h
 rw [Sem.run_bind,hm,Result.andThen_ok] at h
 rw [Sem.run_bind,hm,Result.andThen_ok]
 exact hk w w' u w1 h
theorem FreeS.stringOp (op : BinOp) (x y : ByteArray) : FreeS P (Op.stringOp op x y) := by
 unfold Op.stringOp
 dsimp only
 split
 · split
   · exact FreeS.halt _
   · exact FreeS.pure _
 all_goals first | exact FreeS.pure _ | exact FreeS.halt _
theorem FreeS.binStr (op : BinOp) (t : TypeId) (x y : ByteArray) : FreeS P (binOp op t (.string x) (.string y)) := by
 cases op <;> unfold binOp <;> dsimp only <;> exact FreeS.stringOp _ x y
theorem FreeS.eqStr (op : BinOp) (t : TypeId) (x y : Operand) (a b : ByteArray) : FreeS P (eqGuard op t x y (.string a) (.string b)) := by
 cases op <;> exact FreeS.pure _
theorem FreeS.sliceBound (x : Value) (y : Nat) (c : BoundsCode) : FreeS P (Instr.sliceBound x y c) := by
 unfold Instr.sliceBound
 refine FreeS.bind (FreeS.asIntOf _) fun _ => ?_
 dsimp only
 split
 · exact FreeS.pure _
 · exact FreeS.bounds _ _ _ _
theorem FreeS.sliceBounds (b : Bool) (l c : Nat) (lo hi : Option Value) : FreeS P (Instr.sliceBounds b l c lo hi none) := by
 unfold Instr.sliceBounds
 cases lo <;> cases hi <;> with_reducible repeat' first
   | exact FreeS.pure _
   | refine FreeS.bind (FreeS.sliceBound _ _ _) fun _ => ?_
   | refine FreeS.bind (FreeS.pure _) fun _ => ?_
   | dsimp only
theorem FreeS.slice (t : TypeId) {x : Value} (hx : (∃ A n c,x = .slice A n c) ∨ (∃ s,x = .string s) ∨ ∃ A,x = .pointer (some A)) (lo hi : Option Value) : FreeS P (Instr.sliceAt t x lo hi none) := by
 unfold Instr.sliceAt
 refine FreeS.bind (FreeS.underlying _) fun d => ?_
 split
 · refine FreeS.bind (FreeS.sureAddr _) fun _ => FreeS.bind (FreeS.sliceBounds _ _ _ _ _) fun _ => ?_
   exact FreeS.bind (FreeS.sizeOf _) fun _ => FreeS.pure _
 · unfold Instr.slice
   refine FreeS.bind (FreeS.underlying _) fun d => ?_
   rcases hx with ⟨A,n,c,rfl⟩ | ⟨s,rfl⟩ | ⟨A,rfl⟩
   · cases d <;> first
       | exact FreeS.halt _
       | exact FreeS.bind (FreeS.sliceBounds _ _ _ _ _) fun _ => FreeS.bind (FreeS.sizeOf _) fun _ => FreeS.pure _
   · cases d <;> first
       | exact FreeS.halt _
       | exact FreeS.bind (FreeS.sliceBounds _ _ _ _ _) fun _ => FreeS.pure _
   · cases d <;> first
       | exact FreeS.halt _
       | (refine FreeS.bind (FreeS.pure _) fun _ => FreeS.bind (FreeS.underlying _) fun d => ?_
          cases d <;> first
            | exact FreeS.halt _
            | exact FreeS.bind (FreeS.sliceBounds _ _ _ _ _) fun _ => FreeS.bind (FreeS.sizeOf _) fun _ => FreeS.pure _)
theorem FreeS.arrayAt (t : TypeId) (x : Value) : FreeS P (Instr.arrayAt t x) := by
 unfold Instr.arrayAt
 refine FreeS.bind (FreeS.underlying _) fun d => ?_
 split
 · split
   · split
     · exact FreeS.rpanic _
     · exact FreeS.pure _
   · exact FreeS.halt _
 · exact FreeS.halt _
theorem FreeS.len (t ty : TypeId) {x : Value} (hx : (∃ A n c,x = .slice A n c) ∨ ∃ s,x = .string s) : FreeS P (Builtin.len_ #[t] ty #[x]) := by
 unfold Builtin.len_
 show FreeS P ((Go.underlying t) >>= _)
 refine FreeS.bind (FreeS.underlying _) fun d => ?_
 rcases hx with ⟨A,n,c,rfl⟩ | ⟨s,rfl⟩ <;> cases d <;> first
   | exact FreeS.pure _
   | exact FreeS.halt _
   | (refine FreeS.bind (FreeS.underlying _) fun d => ?_
      cases d <;> first | exact FreeS.pure _ | exact FreeS.halt _)
end
end Go.Proofs.YtimhagicagdkfaaGreat
namespace Go.Proofs.YtimhagicagdkfaaGreat
open Go.RowKit
def intB : AV → Bool
  | .v (.int _ _) => true
  | _ => false
def strB : AV → Bool
  | .v (.string _) => true
  | _ => false
def sliceB : AV → Bool
  | .v (.string _) => true
  | .v (.slice _ _ _) => true
  | .sl .. => true
  | _ => false
def sliceO : AV → Bool
  | .own _ => true
  | .box _ _ => true
  | x => sliceB x
def boxB : AV → Bool
  | .box _ _ => true
  | _ => false
def intT (L : Lay) (t : TypeId) : Bool := match layGet L t with | some i => (match i.kind with | .int _ => true | _ => false) | none => false
def pureAt (L : Lay) (st : AS) (op : Op) : Bool :=
 match op with
 | .move _ => true
 | .assign _ => true
 | .pick .. => true
 | .extract .. => true
 | .fieldAddr .. => true
 | .indexAddr .. => true
 | .unOp .. => true
 | .build .. => true
 | .field .. => true
 | .index .. => true
 | .nilCheck x => boxB (st.ev x)
 | .binOp _ _ x y _ => (intB (st.ev x) && intB (st.ev y)) || (strB (st.ev x) && strB (st.ev y))
 | .convert _ t x => intB (st.ev x) && intT L t
 | .slice _ x _ _ none => sliceO (st.ev x)
 | .sliceToArrayPointer _ x => sliceB (st.ev x)
 | .call { callee := .builtin .len,args := xs,argTypes := ts } => (match ts.toList,xs.toList with | [_],[x] => sliceB (st.ev x) | _,_ => false)
 | _ => false
section
variable {P : Program} {L : Lay} {g : Base} {N : Nat} {bs : List (Array Value)} {ρ : Nat → Value} {a : Act} {w : World} {st : AS}
theorem intB_val {X : CX} {x : AV} {u : Value} (hx : C2 X x u) (h : intB x = true) : ∃ k n,u = .int k n := by
 unfold intB at h
 split at h
 · exact ⟨_,_,C2.inv_v hx⟩
 · cases h
theorem strB_val {X : CX} {x : AV} {u : Value} (hx : C2 X x u) (h : strB x = true) : ∃ s,u = .string s := by
 unfold strB at h
 split at h
 · exact ⟨_,C2.inv_v hx⟩
 · cases h
theorem sliceB_val {X : CX} {x : AV} {u : Value} (hx : C2 X x u) (h : sliceB x = true) : (∃ A n c,u = .slice A n c) ∨ ∃ s,u = .string s := by
 unfold sliceB at h
 split at h
 · exact .inr ⟨_,C2.inv_v hx⟩
 · exact .inl ⟨_,_,_,C2.inv_v hx⟩
 · cases C2.inv_sl hx with
   | sl _ _ _ _ A c us _ _ _ _ _ _ _ _ => exact .inl ⟨_,_,_,rfl⟩
 · cases h
theorem FreeS.fieldAt (hL : LayOk P L) {t : TypeId} {p : AV} {pv : Value} {i : Nat} {K : AV → Prop} (h : afieldAddr L t p i K) : FreeS P (Instr.fieldAt t pv i) := by
 unfold afieldAddr at h
 split at h
 · rename_i ti hti
   split at h
   · rename_i fs hk
     split at h
     · rename_i o ft hfs
       split at h
       · rename_i fi hfi
         obtain ⟨fields,hu,hmap⟩ := struct_fields hL hti hk
         obtain ⟨f,hf,ho,hft⟩ := field_at hmap hfs
         cases hs : Nat.ble 1 fi.size with
         | false => rw [hs] at h; exact h.elim
         | true =>
           have h1 := Nat.le_of_ble_eq_true hs
           unfold Instr.fieldAt
           refine FreeS.bindr (x := .struct fields) (fun w => run_underlying hu w) ?_
           dsimp only
           rw [hf]
           dsimp only
           refine FreeS.bind (FreeS.sureAddr _) fun a => FreeS.bind ?_ fun _ => FreeS.pure _
           unfold fieldPlace
           refine FreeS.bindr (x := fi.size) (fun w => by rw [hft]; exact run_size hL hfi w) ?_
           rw [if_neg (by omega)]
           exact FreeS.pure _
       · exact h.elim
     · exact h.elim
   · exact h.elim
 · exact h.elim
theorem zero_val (hL : LayOk P L) {t : TypeId} {i : TI} (h : layGet L t = some i) : ∃ z,∀ w,(zeroValue t).run P w = .ok z w := by
 obtain ⟨info,z,d,h1,h2,h3,h4,h5,h6,h7⟩ := fact_of hL h
 exact ⟨z,fun w => by simp [zeroValue,typeInfo,h1,h3]⟩
theorem FreeS.buildAt (hL : LayOk P L) {hh : List (Nat × AO)} {t : TypeId} {ps : List (Nat × AV)} {parts : Array (Nat × Value)} {K : AV → Prop} (h : abuild L hh t ps K) : FreeS P (Instr.build t parts) := by
 unfold abuild at h
 split at h
 · rename_i ti hti
   obtain ⟨z,hz⟩ := zero_val hL hti
   unfold Instr.build
   refine FreeS.bindr hz ?_
   split at h
   · rename_i fs hk
     obtain ⟨fields,hu,hmap⟩ := struct_fields hL hti hk
     refine FreeS.bindr (x := .struct fields) (fun w => run_underlying hu w) ?_
     dsimp only
     split at h
     · rename_i pl hplc
       rw [← hmap] at hplc
       refine FreeS.bindr (x := pl.toArray) (fun w => ?_) ?_
       · have hm := mapM_places hL w hplc
         rw [Array.mapM_eq_mapM_toList]
         simp only [Sem.run_map,hm,Result.andThen_ok]
       · split
         · exact FreeS.pure _
         · exact FreeS.halt _
     · exact h.elim
   · rename_i n e hk
     refine FreeS.bindr (x := .array n e) (fun w => run_underlying (array_of hL hti hk) w) ?_
     dsimp only
     refine FreeS.bind (FreeS.sizeOf _) fun _ => ?_
     split
     · exact FreeS.pure _
     · exact FreeS.halt _
   · exact h.elim
 · exact h.elim
theorem intT_of (hL : LayOk P L) {t : TypeId} (h : intT L t = true) : ∃ k,P.underlying t = some (.int k) := by
 unfold intT at h
 split at h
 · rename_i i hi
   split at h
   · rename_i k hk
     exact ⟨k,int_of hL hi hk⟩
   · cases h
 · cases h
theorem aslice_own {L : Lay} {st : AS} {t : TypeId} {id : Nat} {x : AV} {lo hi : Option AV} {mx : Option AV} {K : AV → AS → Prop} (hx : x = .own id) (h : aslice L st t x lo hi mx K) : ∃ e s n sc f,findObj id st.heap = some (.row e s n sc f) := by
 unfold aslice at h
 split at h
 · split at h
   all_goals first
     | (cases hx; done)
     | exact h.elim
     | skip
   cases hx
   split at h
   · rename_i hfo
     exact ⟨_,_,_,_,_,hfo⟩
   · exact h.elim
 · exact h.elim
theorem aop_pure (hL : LayOk P L) {W : Walk} (R : Rel g N bs ρ a w st) {o : Oper} {d : Nat} {K : AV → AS → Prop} (hp : pureAt L st o.op = true) (h : aop P L W d st o.op K) :
  ∃ x u st' ρ',K x st' ∧ Rel g N bs ρ' a w st' ∧ C2 (cxOf g w ρ' st'.heap) x u ∧ ∀ w',(execOp a.eval o).run P w' = .ok (.value u) w' := by
 have fin : ∀ {m : Sem Value},FreeS P m → (∀ w,(execOp a.eval o).run P w = (do pure (.value (← m)) : Sem Next).run P w) → (∃ x u,K x st ∧ C2 (cxOf g w ρ st.heap) x u ∧ (execOp a.eval o).run P w = .ok (.value u) w) → ∃ x u st' ρ',K x st' ∧ Rel g N bs ρ' a w st' ∧ C2 (cxOf g w ρ' st'.heap) x u ∧ ∀ w',(execOp a.eval o).run P w' = .ok (.value u) w' := by
  rintro m hm e ⟨x,u,h1,h2,h3⟩
  refine ⟨x,u,st,ρ,h1,R,h2,fun w' => ?_⟩
  rw [e] at h3 ⊢
  exact (FreeS.bind hm (fun _ => FreeS.pure _) w w' _ _ h3).2
 have plain : ∀ {u0 : Value},(execOp a.eval o = pure (.value u0)) → (∃ x u,K x st ∧ C2 (cxOf g w ρ st.heap) x u ∧ (execOp a.eval o).run P w = .ok (.value u) w) → ∃ x u st' ρ',K x st' ∧ Rel g N bs ρ' a w st' ∧ C2 (cxOf g w ρ' st'.heap) x u ∧ ∀ w',(execOp a.eval o).run P w' = .ok (.value u) w' := by
  rintro u0 e ⟨x,u,h1,h2,h3⟩
  refine ⟨x,u,st,ρ,h1,R,h2,fun w' => ?_⟩
  rw [e] at h3 ⊢
  simp only [Sem.run_pure] at h3 ⊢
  cases h3
  rfl
 have quiet : quietB o.op = true → ∃ x u,K x st ∧ C2 (cxOf g w ρ st.heap) x u ∧ (execOp a.eval o).run P w = .ok (.value u) w := fun hq => aop_quiet hL R hq h
 unfold pureAt at hp
 split at hp
 · rename_i x e
   exact plain (u0 := a.eval x) (by simp only [execOp,e]) (quiet (by rw [e]; rfl))
 · rename_i x e
   exact plain (u0 := a.eval x) (by simp only [execOp,e]) (quiet (by rw [e]; rfl))
 · rename_i c x y e
   refine fin (m := do pure (if ← asBool (a.eval c) then a.eval x else a.eval y)) (FreeS.bind (FreeS.asBool _) fun _ => FreeS.pure _) ?_ (quiet (by rw [e]; rfl))
   intro w
   simp only [execOp,e]
   cases hc : a.eval c <;> rfl
 · rename_i x i e
   exact fin (FreeS.extract (a.eval x) i) (fun _ => by simp only [execOp,e]) (quiet (by rw [e]; rfl))
 · rename_i t x i e
   have h' : afieldAddr L t (st.ev x) i (fun y => K y st) := by rw [e] at h; exact h
   exact fin (m := Instr.fieldAt t (a.eval x) i) (FreeS.fieldAt hL h') (fun _ => by simp only [execOp,e]) (quiet (by rw [e]; rfl))
 · rename_i t x i e
   exact fin (FreeS.indexAt t (a.eval x) (a.eval i)) (fun _ => by simp only [execOp,e]) (quiet (by rw [e]; rfl))
 · rename_i op t x e
   exact fin (FreeS.unary op (a.eval x)) (fun _ => by simp only [execOp,e]) (quiet (by rw [e]; rfl))
 · rename_i t parts e
   have h' : abuild L st.heap t (parts.toList.map fun p => (p.1,st.ev p.2)) (fun y => K y st) := by rw [e] at h; exact h
   exact fin (m := Instr.build t (parts.map fun (i,x) => (i,a.eval x))) (FreeS.buildAt hL h') (fun _ => by simp only [execOp,e]) (quiet (by rw [e]; rfl))
 · rename_i t x i e
   exact fin (FreeS.field t (a.eval x) i) (fun _ => by simp only [execOp,e]) (quiet (by rw [e]; rfl))
 · rename_i t x i e
   exact fin (FreeS.index t (a.eval x) (a.eval i)) (fun _ => by simp only [execOp,e]) (quiet (by rw [e]; rfl))
 · rename_i x e
   have hx := R.ev x
   have : ∃ b q,a.eval x = .pointer (some ⟨b,q,none⟩) := by
    cases hev : st.ev x with
    | box id off =>
      rw [hev] at hx
      obtain ⟨b,_,h⟩ : ∃ b,hdV (ρ id) = .pointer (some ⟨b,0,none⟩) ∧ a.eval x = .pointer (some ⟨b,off,none⟩) := hx
      exact ⟨b,off,h⟩
    | _ => rw [hev] at hp; cases hp
   obtain ⟨b,q,hb⟩ := this
   exact plain (u0 := a.eval x) (by simp only [execOp,e,hb]) (quiet (by rw [e]; rfl))
 · rename_i op t x y ty e
   refine fin (m := do eqGuard op t x y (a.eval x) (a.eval y); binOp op t (a.eval x) (a.eval y)) ?_ (fun _ => by simp only [execOp,e]) (quiet (by rw [e]; rfl))
   simp only [Bool.or_eq_true,Bool.and_eq_true] at hp
   rcases hp with ⟨h1,h2⟩ | ⟨h1,h2⟩
   · obtain ⟨k,n,e1⟩ := intB_val (R.ev x) h1
     obtain ⟨k',m,e2⟩ := intB_val (R.ev y) h2
     rw [e1,e2]
     exact FreeS.bind (FreeS.eqInt _ _ _ _ _ _ _ _) fun _ => FreeS.binInt _ _ _ _ _ _
   · obtain ⟨k,e1⟩ := strB_val (R.ev x) h1
     obtain ⟨k',e2⟩ := strB_val (R.ev y) h2
     rw [e1,e2]
     exact FreeS.bind (FreeS.eqStr _ _ _ _ _ _) fun _ => FreeS.binStr _ _ _ _
 · rename_i s t x e
   refine fin (m := convert s t (a.eval x)) ?_ (fun _ => by simp only [execOp,e]) (quiet (by rw [e]; rfl))
   simp only [Bool.and_eq_true] at hp
   obtain ⟨k,n,e1⟩ := intB_val (R.ev x) hp.1
   obtain ⟨k',hk⟩ := intT_of hL hp.2
   rw [e1]
   exact FreeS.convInt hk _ _
 · rename_i t x lo hi e
   have h' := h
   rw [e] at h'
   obtain ⟨z,u,st',ρ',h1,h2,h3,h4,h5⟩ := aslice_run (mx := none) hL R (R.ev x) h'
   refine ⟨z,u,st',ρ',h1,h2,h3,fun w' => ?_⟩
   have hval : (∃ A n c,a.eval x = .slice A n c) ∨ (∃ s,a.eval x = .string s) ∨ ∃ A,a.eval x = .pointer (some A) := by
    cases hev : st.ev x with
    | own id =>
      obtain ⟨e1,s1,n1,sc1,f1,hfo⟩ := aslice_own hev (show aslice L st t (st.ev x) (lo.map st.ev) (hi.map st.ev) none K from h')
      have hx := R.ev x
      rw [hev] at hx
      obtain ⟨us,hown,_⟩ := R.objs _ (findObj_mem hfo)
      have hown : w.ownsRow 0 e1 s1 (ρ id) n1 us := hown
      have hxv : a.eval x = ρ id := (C2.inv_own hx).trans (hdV_own hown)
      rcases hown.2 with ⟨hv,_⟩ | ⟨b,cap,cur,hv,_⟩ <;> exact .inl ⟨_,_,_,hxv.trans hv⟩
    | box id k =>
      have hx := R.ev x
      rw [hev] at hx
      obtain ⟨b,_,hv⟩ := C2.inv_box hx
      exact .inr (.inr ⟨_,hv⟩)
    | _ => exact (sliceB_val (R.ev x) (by rw [hev] at hp ⊢; exact hp)).imp_right .inl
   have := ((FreeS.slice (P := P) t hval (lo.map a.eval) (hi.map a.eval)) w w' _ _ h4).2
   simp only [execOp,e,Sem.run_bind,Option.map_none,this,Result.andThen_ok,Sem.run_pure]
 · rename_i t x e
   exact fin (m := Instr.arrayAt t (a.eval x)) (FreeS.arrayAt t (a.eval x)) (fun _ => by simp only [execOp,e]) (quiet (by rw [e]; rfl))
 · rename_i xs ts e
   split at hp
   · rename_i t x e1 e2
     have ht : ts = #[t] := by apply Array.ext'; simpa using e1
     have hx : xs = #[x] := by apply Array.ext'; simpa using e2
     subst ht hx
     refine fin (m := Builtin.len_ #[t] o.type #[a.eval x]) (FreeS.len _ _ (sliceB_val (R.ev x) hp)) ?_ (quiet (by rw [e]; rfl))
     intro w
     simp only [execOp,e,resolve,Sem.run_bind,Sem.run_pure,Result.andThen_ok,invoke]
     simp [builtin]
   · cases hp
 · cases hp
end
end Go.Proofs.YtimhagicagdkfaaGreat
namespace Go.Proofs.YtimhagicagdkfaaGreat
open Go.RowKit
def operandsL : Op → Option (List Operand)
  | .alloc _ => some []
  | .move x => some [x]
  | .assign x => some [x]
  | .box _ x => some [x]
  | .load _ x => some [x]
  | .nilCheck x => some [x]
  | .unOp _ _ x => some [x]
  | .convert _ _ x => some [x]
  | .sliceToArrayPointer _ x => some [x]
  | .fieldAddr _ x _ => some [x]
  | .field _ x _ => some [x]
  | .extract x _ => some [x]
  | .pick c a b => some [c,a,b]
  | .build _ ps => some (ps.toList.map (·.2))
  | .buildSlice _ _ ps => some (ps.toList.map (·.2))
  | .store _ a v => some [a,v]
  | .binOp _ _ a v _ => some [a,v]
  | .indexAddr _ a v => some [a,v]
  | .index _ a v => some [a,v]
  | .slice _ x l h m => some ([x] ++ l.toList ++ h.toList ++ m.toList)
  | .makeFunc _ f c => some (f.toList ++ c.toList)
  | .call { callee := .builtin _,args := xs, .. } => some xs.toList
  | .call { callee := .value f,args := xs, .. } => some (f :: xs.toList)
  | _ => none
theorem operandsL_ok {o : Op} {l : List Operand} (h : operandsL o = some l) : o.operands.toList = l := by
 unfold operandsL at h
 split at h <;> simp only [Option.some.injEq,reduceCtorEq] at h <;> subst h <;> simp [Op.operands,Call.operands]
def tmpIn (d : Nat) : List Operand → Bool
  | [] => false
  | .tmp t :: l => Nat.beq t d || tmpIn d l
  | _ :: l => tmpIn d l
theorem tmpIn_ok {d : Nat} : ∀ {l : List Operand},tmpIn d l = false → ∀ t,t ∈ (l.filterMap fun | .tmp t => some t | _ => none) → t ≠ d
  | [],_,t,ht => by simp at ht
  | x :: l,h,t,ht => by
    cases x with
    | tmp t' =>
      simp only [tmpIn,Bool.or_eq_false_iff] at h
      simp only [List.filterMap_cons,List.mem_cons] at ht
      rcases ht with rfl | ht
      · exact fun e => by rw [e] at h; simp at h
      · exact tmpIn_ok h.2 t ht
    | _ => exact tmpIn_ok (l := l) h t (by simpa using ht)
def looksB (ops : List Oper) (o : Oper) (d : Nat) : Bool :=
 (match operandsL o.op with | some l => tmpIn d l | none => true) ||
 (match o.guard with
  | some (j,_) => (match ops[j]? with | some oj => (match oj.dst with | some t => Nat.beq t d | none => false) | none => false)
  | none => false)
theorem looksB_ok {ops : List Oper} {o : Oper} {d : Nat} (h : looksB ops o d = false) : (o.looksAt ops.toArray).contains d = false := by
 simp only [looksB,Bool.or_eq_false_iff] at h
 obtain ⟨h1,h2⟩ := h
 rw [Bool.eq_false_iff]
 intro hc
 have hm : d ∈ o.looksAt ops.toArray := by simpa using hc
 unfold Oper.looksAt at hm
 rcases List.mem_append.1 hm with hm | hm
 · cases hl : operandsL o.op with
   | none => rw [hl] at h1; cases h1
   | some l =>
     rw [hl] at h1
     rw [operandsL_ok hl] at hm
     exact tmpIn_ok h1 d hm rfl
 · cases hg : o.guard with
   | none => rw [hg] at hm; simp at hm
   | some gd =>
     obtain ⟨j,wnt⟩ := gd
     rw [hg] at hm h2
     simp only [List.getElem?_toArray,Option.mem_toList] at hm
     dsimp only at h2
     cases hj : ops[j]? with
     | none => rw [hj] at hm; simp at hm
     | some oj =>
       rw [hj] at hm h2
       simp only [Option.bind_some] at hm
       dsimp only at h2
       rw [hm] at h2
       simp at h2
def dstIs (o : Oper) (d : Nat) : Bool := match o.dst with | some t => Nat.beq t d | none => false
def apartB (ops : List Oper) (x y : Oper) : Bool :=
 (match x.dst with | some d => !(looksB ops y d) && !(dstIs y d) | none => true) &&
 (match y.dst with | some d => !(looksB ops x d) | none => true)
theorem apartB_ok {ops : List Oper} {x y : Oper} (h : apartB ops x y = true) : x.apart ops.toArray y = true := by
 simp only [apartB,Bool.and_eq_true] at h
 obtain ⟨h1,h2⟩ := h
 unfold Oper.apart
 rw [Bool.and_eq_true]
 constructor
 · cases hx : x.dst with
   | none => rfl
   | some d =>
     rw [hx] at h1
     simp only [Bool.and_eq_true,Bool.not_eq_true'] at h1
     dsimp only
     rw [looksB_ok h1.1]
     have h3 := h1.2
     unfold dstIs at h3
     cases hy : y.dst with
     | none => rfl
     | some t =>
       rw [hy] at h3
       have : t ≠ d := fun e => by rw [e] at h3; simp at h3
       simp [this]
 · cases hy : y.dst with
   | none => rfl
   | some d =>
     rw [hy] at h2
     simp only [Bool.not_eq_true'] at h2
     dsimp only
     rw [looksB_ok h2]
     rfl
def memB (k : Nat) : List Nat → Bool
  | [] => false
  | j :: l => Nat.beq j k || memB k l
def Lst (n : Nat) (done : List Nat) (listed : Array Bool) : Prop := listed.size = n ∧ ∀ k,k < n → listed[k]? = some (memB k done)
theorem Lst.getF {n : Nat} {done : List Nat} {listed : Array Bool} (h : Lst n done listed) {k : Nat} (hk : k < n) (d : Bool) : listed.getD k d = memB k done := by
 have := h.2 k hk
 rw [Array.getD_eq_getD_getElem?,this]
 rfl
theorem Lst.set {n : Nat} {done : List Nat} {listed : Array Bool} (h : Lst n done listed) {i : Nat} (hi : i < n) : Lst n (i :: done) (listed.setIfInBounds i true) := by
 refine ⟨by simp [h.1],fun k hk => ?_⟩
 rw [Array.getElem?_setIfInBounds]
 by_cases e : i = k
 · subst e
   simp [h.1,hi,memB]
 · rw [if_neg e,h.2 k hk]
   simp [memB,beq_false e]
def edgesB (n : Nat) (done : List Nat) : List Edge → Bool
  | [] => true
  | e :: l => (!(Region.binds .any e) || (Nat.ble (e.on + 1) n && memB e.on done)) && edgesB n done l
theorem edgesB_ok {n : Nat} {done : List Nat} {listed : Array Bool} (h : Lst n done listed) : ∀ {l : List Edge},edgesB n done l = true ↔ ∀ e ∈ l,Region.binds .any e = true → listed.getD e.on false = true
  | [] => by simp [edgesB]
  | e :: l => by
    simp only [edgesB,Bool.and_eq_true,Bool.or_eq_true,Bool.not_eq_true',edgesB_ok h (l := l),List.mem_cons,forall_eq_or_imp]
    refine and_congr ⟨fun h1 hb => ?_,fun h1 => ?_⟩ Iff.rfl
    · rcases h1 with h1 | ⟨h1,h2⟩
      · rw [hb] at h1; cases h1
      · rw [h.getF (Nat.le_of_ble_eq_true h1)]; exact h2
    · cases hb : Region.binds .any e with
      | false => exact .inl rfl
      | true =>
        have h2 := h1 hb
        have hlt : e.on < n := by
         rcases Nat.lt_or_ge e.on n with h' | h'
         · exact h'
         · rw [Array.getD_eq_getD_getElem?,Array.getElem?_eq_none (by rw [h.1]; exact h')] at h2; cases h2
        exact .inr ⟨Nat.ble_eq_true_of_le hlt,by rw [← h.getF hlt false]; exact h2⟩
def rdyFrom (n : Nat) (done : List Nat) : Nat → List Oper → List Nat
  | _,[] => []
  | k,o :: r => bif !(memB k done) && edgesB n done o.after.toList then k :: rdyFrom n done (k + 1) r else rdyFrom n done (k + 1) r
theorem rdyFrom_mem {n : Nat} {done : List Nat} {j : Nat} : ∀ {l : List Oper} {k : Nat},j ∈ rdyFrom n done k l ↔ ∃ i o,j = k + i ∧ l[i]? = some o ∧ memB j done = false ∧ edgesB n done o.after.toList = true
  | [],k => by simp [rdyFrom]
  | o :: l,k => by
    have ih := rdyFrom_mem (n := n) (done := done) (j := j) (l := l) (k := k + 1)
    have key : (∃ i o',j = k + i ∧ (o :: l)[i]? = some o' ∧ memB j done = false ∧ edgesB n done o'.after.toList = true) ↔ (j = k ∧ memB j done = false ∧ edgesB n done o.after.toList = true) ∨ j ∈ rdyFrom n done (k + 1) l := by
     rw [ih]
     constructor
     · rintro ⟨i,o',h1,h2,h3⟩
       cases i with
       | zero => simp only [List.getElem?_cons_zero,Option.some.injEq] at h2; subst h2; exact .inl ⟨h1,h3⟩
       | succ i => exact .inr ⟨i,o',by omega,by simpa using h2,h3⟩
     · rintro (⟨h1,h3⟩ | ⟨i,o',h1,h2,h3⟩)
       · exact ⟨0,o,by omega,rfl,h3⟩
       · exact ⟨i + 1,o',by omega,by simpa using h2,h3⟩
    rw [key]
    simp only [rdyFrom]
    cases hb : (!(memB k done) && edgesB n done o.after.toList) with
    | true =>
      simp only [Bool.and_eq_true,Bool.not_eq_true'] at hb
      simp only [cond_true,List.mem_cons]
      constructor
      · rintro (rfl | h)
        · exact .inl ⟨rfl,hb⟩
        · exact .inr h
      · rintro (h | h)
        · exact .inl h.1
        · exact .inr h
    | false =>
      simp only [cond_false]
      constructor
      · exact .inr
      · rintro (⟨rfl,h1,h2⟩ | h)
        · rw [h1,h2] at hb; cases hb
        · exact h
theorem ready_iff {ops : List Oper} {done : List Nat} {listed : Array Bool} (h : Lst ops.length done listed) {j : Nat} : j ∈ Region.ready .any ops.toArray listed ↔ j ∈ rdyFrom ops.length done 0 ops := by
 rw [mem_ready,rdyFrom_mem]
 constructor
 · rintro ⟨h1,o,h2,h3⟩
   have h2 : ops[j]? = some o := by simpa using h2
   have hlt : j < ops.length := (List.getElem?_eq_some_iff.1 h2).1
   exact ⟨j,o,by omega,h2,by rw [← h.getF hlt true]; exact h1,(edgesB_ok h).2 fun e he => h3 e (by simpa using he)⟩
 · rintro ⟨i,o,h1,h2,h3,h4⟩
   obtain rfl : j = i := by omega
   have hlt : j < ops.length := (List.getElem?_eq_some_iff.1 h2).1
   exact ⟨by rw [h.getF hlt]; exact h3,o,by simpa using h2,fun e he => (edgesB_ok h).1 h4 e (by simpa using he)⟩
def waitsB (i : Nat) : List Edge → Bool
  | [] => false
  | e :: l => (Region.binds .any e && Nat.beq e.on i) || waitsB i l
theorem waitsB_ok {i : Nat} : ∀ {l : List Edge},waitsB i l = true → ∃ e ∈ l,Region.binds .any e = true ∧ e.on = i
  | [],h => by cases h
  | e :: l,h => by
    simp only [waitsB,Bool.or_eq_true,Bool.and_eq_true] at h
    rcases h with ⟨h1,h2⟩ | h
    · exact ⟨e,List.mem_cons_self,h1,Nat.eq_of_beq_eq_true h2⟩
    · obtain ⟨e',h1,h2⟩ := waitsB_ok h
      exact ⟨e',List.mem_cons_of_mem _ h1,h2⟩
def freeB (ops : List Oper) (done : List Nat) (i : Nat) (oi : Oper) : Nat → List Oper → Bool
  | _,[] => true
  | k,o :: r => (Nat.beq k i || memB k done || waitsB i o.after.toList || apartB ops oi o) && freeB ops done i oi (k + 1) r
theorem freeB_ok {ops : List Oper} {done : List Nat} {i : Nat} {oi : Oper} : ∀ {l : List Oper} {k : Nat},freeB ops done i oi k l = true → ∀ (j : Nat) (oj : Oper),l[j]? = some oj → k + j ≠ i → memB (k + j) done = false → (∀ e ∈ oj.after,Region.binds .any e = true → e.on ≠ i) → oi.apart ops.toArray oj = true
  | [],k,_,j,oj,hj => by simp at hj
  | o :: l,k,h,j,oj,hj => by
    simp only [freeB,Bool.and_eq_true,Bool.or_eq_true] at h
    obtain ⟨h1,h2⟩ := h
    intro hne hm hw
    cases j with
    | zero =>
      simp only [List.getElem?_cons_zero,Option.some.injEq] at hj
      subst hj
      rcases h1 with ((h1 | h1) | h1) | h1
      · exact absurd (Nat.eq_of_beq_eq_true h1) (by simpa using hne)
      · rw [Nat.add_zero] at hm; rw [hm] at h1; cases h1
      · obtain ⟨e,he,hb,hi⟩ := waitsB_ok h1
        exact absurd hi (hw e (by simpa using he) hb)
      · exact apartB_ok h1
    | succ j =>
      refine freeB_ok h2 j oj (by simpa using hj) (by omega) (by rw [show k + 1 + j = k + (j + 1) by omega]; exact hm) hw
def wantB (N : Nat) (st : AS) (ops : List Oper) (o : Oper) : Option Bool :=
 match o.guard with
 | none => some true
 | some (j,want) => match ops[j]? with
   | some oj => (match oj.dst with
     | some dj => bif Nat.ble (dj + 1) N then (match st.tmps dj with | .v (.bool b) => some (b == want) | .v (.tuple _) => some false | _ => none) else none
     | none => none)
   | none => none
def pickB (L : Lay) (N : Nat) (st : AS) (ops : List Oper) (done : List Nat) : List Nat → Option Nat
  | [] => none
  | i :: r => match ops[i]? with
    | some o => bif (match wantB N st ops o with | some true => pureAt L st o.op | some false => true | none => false) && freeB ops done i o 0 ops then some i else pickB L N st ops done r
    | none => pickB L N st ops done r
def aStep (P : Program) (L : Lay) (W : Walk) (N : Nat) (ops : List Oper) (o : Oper) (st : AS) (K : AS → Prop) : Prop :=
 match wantB N st ops o with
 | some true => aopD P L W o.dst st o.op (fun x st' => aput N st' o.dst x K)
 | some false => aput N st o.dst (.v undef) K
 | none => False
structure Both (A B : Prop) : Prop where
 one : A
 two : B
def allR (F : Nat → Prop) : List Nat → Prop
  | [] => True
  | [j] => F j
  | j :: l => Both (F j) (allR F l)
theorem allR_mem {F : Nat → Prop} : ∀ {l : List Nat},allR F l → ∀ j ∈ l,F j
  | [],_,j,hj => by cases hj
  | [i],h,j,hj => by rw [List.mem_singleton.1 hj]; exact h
  | i :: k :: l,h,j,hj => by
    rcases List.mem_cons.1 hj with rfl | hj
    · exact h.one
    · exact allR_mem h.two j hj
def aAny (P : Program) (L : Lay) (W : Walk) (N : Nat) (n : Nat) (ops : List Oper) (Q : AS → Prop) : Nat → List Nat → AS → Prop
  | 0,done,st => (match rdyFrom n done 0 ops with | [] => Q st | _ :: _ => False)
  | f + 1,done,st => match rdyFrom n done 0 ops with
    | [] => Q st
    | i :: r => match pickB L N st ops done (i :: r) with
      | some j => (match ops[j]? with | some o => aStep P L W N ops o st (aAny P L W N n ops Q f (j :: done)) | none => False)
      | none => allR (fun j => match ops[j]? with | some o => aStep P L W N ops o st (aAny P L W N n ops Q f (j :: done)) | none => False) (i :: r)
section
variable {P : Program} {L : Lay} {g : Base} {N : Nat} {bs : List (Array Value)} {ρ : Nat → Value} {a : Act} {w : World} {st : AS}
theorem wantB_ok (R : Rel g N bs ρ a w st) {ops : List Oper} {o : Oper} {b : Bool} (h : wantB N st ops o = some b) : Region.wanted o (yielded ops.toArray a.tmps) = b := by
 obtain ⟨dst,op,ty,pos,after,guard⟩ := o
 unfold wantB at h
 cases guard with
 | none => cases h; rfl
 | some gd =>
   obtain ⟨j,want⟩ := gd
   dsimp only at h
   split at h
   · rename_i oj hoj
     split at h
     · rename_i dj hdj
       cases hb : Nat.ble (dj + 1) N with
       | false => rw [hb] at h; cases h
       | true =>
         rw [hb,cond_true] at h
         have hlt := Nat.le_of_ble_eq_true hb
         have hd := R.tmps dj
         have hget : a.tmps[dj]? = some (a.tmps.getD dj undef) := by
          have : dj < a.tmps.size := by rw [R.size]; exact hlt
          simp [this]
         have hops : ((ops.toArray[j]?).bind (·.dst)) = some dj := by simp [hoj,hdj]
         split at h
         · rename_i b' eb
           rw [eb] at hd
           have hd := C2.inv_v hd
           have hy : yielded ops.toArray a.tmps j = some b' := by
            unfold yielded
            rw [hops]
            simp only [Option.bind_some,hget,hd]
           simp only [Option.some.injEq] at h
           simp only [Region.wanted,hy]
           rw [← h]
           cases b' <;> cases want <;> rfl
         · rename_i vs eb
           rw [eb] at hd
           have hd := C2.inv_v hd
           have hy : yielded ops.toArray a.tmps j = none := by
            unfold yielded
            rw [hops]
            simp only [Option.bind_some,hget,hd]
           cases h
           simp only [Region.wanted,hy]
           rfl
         · cases h
     · cases h
   · cases h
theorem pickB_ok {ops : List Oper} {done : List Nat} {j : Nat} : ∀ {l : List Nat},pickB L N st ops done l = some j → j ∈ l ∧ ∃ o,ops[j]? = some o ∧ freeB ops done j o 0 ops = true ∧ ((wantB N st ops o = some true ∧ pureAt L st o.op = true) ∨ wantB N st ops o = some false)
  | [],h => by cases h
  | i :: r,h => by
    have rest : pickB L N st ops done r = some j → j ∈ i :: r ∧ ∃ o,ops[j]? = some o ∧ freeB ops done j o 0 ops = true ∧ ((wantB N st ops o = some true ∧ pureAt L st o.op = true) ∨ wantB N st ops o = some false) := fun h =>
     ⟨List.mem_cons_of_mem _ (pickB_ok h).1,(pickB_ok h).2⟩
    simp only [pickB] at h
    cases ho : ops[i]? with
    | none => rw [ho] at h; exact rest h
    | some o =>
      rw [ho] at h
      dsimp only at h
      cases hw : wantB N st ops o with
      | none => rw [hw] at h; exact rest h
      | some b =>
        rw [hw] at h
        cases b with
        | true =>
          dsimp only at h
          cases hb : (pureAt L st o.op && freeB ops done i o 0 ops) with
          | false => rw [hb] at h; exact rest h
          | true =>
            rw [hb] at h
            simp only [cond_true,Option.some.injEq] at h
            subst h
            simp only [Bool.and_eq_true] at hb
            exact ⟨List.mem_cons_self,o,ho,hb.2, .inl ⟨hw,hb.1⟩⟩
        | false =>
          dsimp only at h
          cases hb : (true && freeB ops done i o 0 ops) with
          | false => rw [hb] at h; exact rest h
          | true =>
            rw [hb] at h
            simp only [cond_true,Option.some.injEq] at h
            subst h
            simp only [Bool.true_and] at hb
            exact ⟨List.mem_cons_self,o,ho,hb, .inr hw⟩
theorem aAny_snd (hL : LayOk P L) {W : Walk} (hW : WOk P W) {ops : List Oper} (hs : Region.noSelect ops.toArray = true) {Q : AS → Prop} {E : Exit → Act → World → Prop} (hE : ∀ e a w,e ≠ .normal → ¬ E e a w) (hQ : ∀ ρ a w st,Rel g N bs ρ a w st → Q st → E .normal a w) :
  ∀ (f : Nat) {done : List Nat} {listed : Array Bool} {ρ : Nat → Value} {a : Act} {w : World} {st : AS},Lst ops.length done listed → Rel g N bs ρ a w st → aAny P L W N ops.length ops Q f done st → wpAny P .any ops.toArray E f listed a w
  | 0,done,listed,ρ,a,w,st,hl,R,h => by
    simp only [aAny] at h
    split at h
    · rename_i e
      refine ⟨?_,hQ _ _ _ _ R h⟩
      cases hr : Region.ready .any ops.toArray listed with
      | nil => rfl
      | cons j r =>
        have : j ∈ rdyFrom ops.length done 0 ops := (ready_iff hl).1 (by rw [hr]; exact List.mem_cons_self)
        rw [e] at this
        cases this
    · exact h.elim
  | f + 1,done,listed,ρ,a,w,st,hl,R,h => by
    have ih := @aAny_snd hL W hW ops hs Q E hE hQ f
    simp only [aAny] at h
    split at h
    · rename_i e
      have hr : Region.ready .any ops.toArray listed = [] := by
       cases hr : Region.ready .any ops.toArray listed with
       | nil => rfl
       | cons j r =>
         have : j ∈ rdyFrom ops.length done 0 ops := (ready_iff hl).1 (by rw [hr]; exact List.mem_cons_self)
         rw [e] at this
         cases this
      exact wpAny_done hr (hQ _ _ _ _ R h) _
    · rename_i i r e
      have hne : Region.ready .any ops.toArray listed ≠ [] := fun h0 => by
       have : i ∈ Region.ready .any ops.toArray listed := (ready_iff hl).2 (by rw [e]; exact List.mem_cons_self)
       rw [h0] at this
       cases this
      split at h
      · rename_i j hp
        obtain ⟨hm,o,ho,hf,hw⟩ := pickB_ok hp
        rw [ho] at h
        dsimp only at h
        have hlt : j < ops.length := (List.getElem?_eq_some_iff.1 ho).1
        have hr : j ∈ Region.ready .any ops.toArray listed := (ready_iff hl).2 (by rw [e]; exact hm)
        have hoA : ops.toArray[j]? = some o := by simpa using ho
        have hfree : ∀ j' oj,ops.toArray[j']? = some oj → j' ≠ j → listed.getD j' true = false → (∀ e ∈ oj.after,Region.binds .any e = true → e.on ≠ j) → o.apart ops.toArray oj = true := by
         intro j' oj h1 h2 h3 h4
         have h1' : ops[j']? = some oj := by simpa using h1
         have hlt' : j' < ops.length := (List.getElem?_eq_some_iff.1 h1').1
         refine freeB_ok hf j' oj h1' (by omega) ?_ h4
         rw [Nat.zero_add,← hl.getF hlt' true]
         exact h3
        have take : ∀ {v : Value},Yields P ops.toArray o v a → wpAny P .any ops.toArray E f (listed.setIfInBounds j true) (a.put o.dst v) w → wpAny P .any ops.toArray E (f + 1) listed a w :=
         fun hy H => wpAny_first hoA (Region.noSelect_spec hs) (fun c a w h => absurd h (hE _ _ _ (by simp))) f listed a w hfree hr hy H
        unfold aStep at h
        rcases hw with ⟨hw,hpu⟩ | hw
        · rw [hw] at h
          dsimp only at h
          have go : ∀ d,aop P L W d st o.op (fun x st' => aput N st' o.dst x (aAny P L W N ops.length ops Q f (j :: done))) → wpAny P .any ops.toArray E (f + 1) listed a w := by
           intro d hd
           obtain ⟨x,u,st',ρ',h1,R1,h2,h3⟩ := aop_pure hL R hpu hd
           obtain ⟨st2,k2,R2⟩ := aput_snd R1 h2 h1
           exact take (.inl ⟨wantB_ok R hw,h3⟩) (ih (hl.set hlt) R2 k2)
          unfold aopD at h
          cases hd : o.dst with
          | none => rw [hd] at h; dsimp only at h; exact go 0 (by rw [hd]; exact h)
          | some d => rw [hd] at h; dsimp only at h; exact go d (by rw [hd]; exact h)
        · rw [hw] at h
          dsimp only at h
          obtain ⟨st2,k2,R2⟩ := aput_snd R (show C2 (cxOf g w ρ st.heap) (.v undef) undef from rfl) h
          exact take (.inr ⟨wantB_ok R hw,rfl⟩) (ih (hl.set hlt) R2 k2)
      · rw [← e] at h
        refine ⟨fun h0 => absurd h0 hne,fun j hj => ?_⟩
        have hjm := (ready_iff hl).1 hj
        have hF := allR_mem h j hjm
        cases ho : ops[j]? with
        | none => rw [ho] at hF; exact hF.elim
        | some o =>
          rw [ho] at hF
          dsimp only at hF
          have hlt : j < ops.length := (List.getElem?_eq_some_iff.1 ho).1
          have hoA : ops.toArray[j]? = some o := by simpa using ho
          unfold wpOp
          rw [hoA]
          dsimp only
          unfold aStep at hF
          split at hF
          · rename_i hw
            rw [wantB_ok R hw]
            simp only [if_true]
            refine .inl ?_
            have go : ∀ d,aop P L W d st o.op (fun x st' => aput N st' o.dst x (aAny P L W N ops.length ops Q f (j :: done))) → o.wp P a w (wpAny P .any ops.toArray E f (listed.setIfInBounds j true)) E := by
             intro d hd
             refine aop_snd hL hW R (d := d) hd ?_
             intro x st' u ρ' w' hx R' hc
             obtain ⟨st2,h2,R2⟩ := aput_snd R' hc hx
             exact ih (hl.set hlt) R2 h2
            unfold aopD at hF
            cases hd : o.dst with
            | none => rw [hd] at hF; dsimp only at hF; exact go 0 (by rw [hd]; exact hF)
            | some d => rw [hd] at hF; dsimp only at hF; exact go d (by rw [hd]; exact hF)
          · rename_i hw
            rw [wantB_ok R hw]
            simp only [Bool.false_eq_true,if_false]
            obtain ⟨st2,k2,R2⟩ := aput_snd R (show C2 (cxOf g w ρ st.heap) (.v undef) undef from rfl) hF
            exact ih (hl.set hlt) R2 k2
          · exact hF.elim
theorem ADraw.any (hL : LayOk P L) {W : Walk} (hW : WOk P W) {id : Nat} {ops : Array Oper} {K : AS → Prop} {st : AS} (hm : P.follows .mixedOrders = true) (hs : Region.noSelect ops = true) (h : aAny P L W N ops.toList.length ops.toList K ops.toList.length [] st) : ADraw P L W N id ops K st := by
 refine .sem fun g bs ρ a w E R hK => ?_
 refine Code.wp_mono (Q := fun e a w => e = .normal ∧ E .normal a w) (fun e a w h => by obtain ⟨rfl,h⟩ := h; exact h) ?_
 have e1 : ops.size = ops.toList.length := by simp
 refine wp_region_any hm ?_
 have hl : Lst ops.toList.length [] (Array.replicate ops.size false) := by
  refine ⟨by simp,fun k hk => ?_⟩
  rw [Array.getElem?_replicate,if_pos (by rw [e1]; exact hk)]
  rfl
 have R' : Rel g N bs ρ a w.drew st := R.world (Below.refl _ _).drew
 have := aAny_snd (g := g) (bs := bs) (N := N) hL hW (ops := ops.toList) (by simpa using hs) (Q := K) (E := fun e a w => e = .normal ∧ E .normal a w) (fun e a w hne h => hne h.1) (fun ρ a w st R h => ⟨rfl,hK ρ a w st R h⟩) ops.toList.length hl R' h
 rw [e1]
 simpa using this
theorem ADraw.cut (hL : LayOk P L) {W : Walk} (hW : WOk P W) {id : Nat} {ops : Array Oper} {K : AS → Prop} {st : AS} (S : AS) (hm : P.follows .mixedOrders = true) (hs : Region.noSelect ops = true) (h : aAny P L W N ops.toList.length ops.toList (fun st' => LeS st' S) ops.toList.length [] st) (hK : K S) : ADraw P L W N id ops K st := by
 have := ADraw.any (P := P) (L := L) (N := N) (id := id) hL hW hm hs h
 cases this with
 | quiet hm hB hq h =>
   refine .sem fun g bs ρ a w E R hE => ?_
   refine wp_region_quiet (C := fun w' => w' = w.drew) hm hB rfl ?_
   have R' : Rel g N bs ρ a w.drew st := R.world (Below.refl _ _).drew
   exact awpQ_snd hL (E := fun a w => E .normal a w) (ops := ops.toList) (fun a w1 st R h => hE _ _ _ _ (R.less h) hK) ops.toList hq R' h
 | sem h => exact .sem fun g bs ρ a w E R hE => h g bs ρ a w E R fun ρ a w st R h => hE _ _ _ _ (R.less h) hK
end
end Go.Proofs.YtimhagicagdkfaaGreat
namespace Go.Proofs.YtimhagicagdkfaaGreat
open Go.RowKit
def aOne (P : Program) (L : Lay) (W : Walk) (N : Nat) (n : Nat) (ops : List Oper) (Q : AS → Prop) : Nat → List Nat → AS → Prop
  | 0,_,st => Q st
  | f + 1,done,st => match rdyFrom n done 0 ops with
    | [] => Q st
    | i :: r => match pickB L N st ops done (i :: r) with
      | some j => (match ops[j]? with | some o => aStep P L W N ops o st (aOne P L W N n ops Q f (j :: done)) | none => False)
      | none => (match ops[i]? with | some o => aStep P L W N ops o st (aOne P L W N n ops Q f (i :: done)) | none => False)
def slotsOf (st : AS) (N : Nat) : Nat → Nat → (List (Nat × AV) → Prop) → Prop
  | 0,_,K => K []
  | f + 1,k,K => bif Nat.ble N k then K [] else match st.tmps k with
    | .junk => slotsOf st N f (k + 1) K
    | .v (.tuple _) => slotsOf st N f (k + 1) K
    | .v x => slotsOf st N f (k + 1) (fun l => K ((k, .v x) :: l))
    | .agg cs => slotsOf st N f (k + 1) (fun l => K ((k, .agg cs) :: l))
    | .tup vs => slotsOf st N f (k + 1) (fun l => K ((k, .tup vs) :: l))
    | .sl s m sc g => slotsOf st N f (k + 1) (fun l => K ((k, .sl s m sc g) :: l))
    | .own i => slotsOf st N f (k + 1) (fun l => K ((k, .own i) :: l))
    | .eown i s j m => slotsOf st N f (k + 1) (fun l => K ((k, .eown i s j m) :: l))
    | .osl i s j m => slotsOf st N f (k + 1) (fun l => K ((k, .osl i s j m) :: l))
    | .box i m => slotsOf st N f (k + 1) (fun l => K ((k, .box i m) :: l))
    | .cf g i m => slotsOf st N f (k + 1) (fun l => K ((k, .cf g i m) :: l))
    | .el cs m => slotsOf st N f (k + 1) (fun l => K ((k, .el cs m) :: l))
    | .fn g cs => slotsOf st N f (k + 1) (fun l => K ((k, .fn g cs) :: l))
theorem slotsOf_ex {st : AS} {N : Nat} : ∀ {f k : Nat} {K : List (Nat × AV) → Prop},slotsOf st N f k K → ∃ l,K l
  | 0,_,_,h => ⟨[],h⟩
  | f + 1,k,K,h => by
    simp only [slotsOf] at h
    cases hb : Nat.ble N k with
    | true => rw [hb] at h; exact ⟨[],h⟩
    | false =>
      rw [hb] at h
      simp only [cond_false] at h
      split at h <;> (obtain ⟨l,hl⟩ := slotsOf_ex h; exact ⟨_,hl⟩)
def slotsAt (st : AS) : List (Nat × AV) → List AV
  | [] => []
  | p :: l => st.tmps p.1 :: slotsAt st l
def valsOf : List (Nat × AV) → List AV
  | [] => []
  | p :: l => p.2 :: valsOf l
def objsAt (st : AS) : List (Nat × AO) → List (Option AO)
  | [] => []
  | p :: l => findObj p.1 st.heap :: objsAt st l
def objsOf : List (Nat × AO) → List (Option AO)
  | [] => []
  | p :: l => some p.2 :: objsOf l
theorem slots_all {st : AS} : ∀ {l : List (Nat × AV)},slotsAt st l = valsOf l → ∀ t,ofL l t = .junk ∨ AEq (st.tmps t) (ofL l t)
  | [],_,t => .inl rfl
  | p :: l,h,t => by
    simp only [slotsAt,valsOf,List.cons.injEq] at h
    simp only [ofL]
    cases hb : Nat.beq t p.1 with
    | true =>
      obtain rfl := Nat.eq_of_beq_eq_true hb
      rw [h.1]
      exact .inr (AEq.refl _)
    | false => exact slots_all h.2 t
theorem objs_all {st : AS} : ∀ {l : List (Nat × AO)},objsAt st l = objsOf l → ∀ p ∈ l,∃ o,findObj p.1 st.heap = some o ∧ OEq o p.2
  | [],_,p,hp => by cases hp
  | q :: l,h,p,hp => by
    simp only [objsAt,objsOf,List.cons.injEq] at h
    rcases List.mem_cons.1 hp with rfl | hp
    · exact ⟨_,h.1,OEq.refl _⟩
    · exact objs_all h.2 p hp
def backOf (F : Nat) : List (List (Nat × AV)) → (List (List (Nat × AV)) → Prop) → Prop
  | [],K => K []
  | f :: fs,K => slotsOf ⟨f,[],[],0⟩ F F 0 (fun l => backOf F fs (fun ls => K (l :: ls)))
theorem backOf_ex {F : Nat} : ∀ {fs : List (List (Nat × AV))} {K : List (List (Nat × AV)) → Prop},backOf F fs K → ∃ ls,K ls
  | [],_,h => ⟨[],h⟩
  | f :: fs,K,h => by
    obtain ⟨l,h⟩ := slotsOf_ex h
    obtain ⟨ls,h⟩ := backOf_ex h
    exact ⟨_,h⟩
def backAt : List (List (Nat × AV)) → List (List (Nat × AV)) → List (List AV)
  | [],[] => []
  | f :: fs,l :: ls => slotsAt ⟨f,[],[],0⟩ l :: backAt fs ls
  | _ :: _,[] => [[]]
  | [],_ :: _ => [[]]
def backVals : List (List (Nat × AV)) → List (List AV)
  | [] => []
  | l :: ls => valsOf l :: backVals ls
def heapOf : List (Nat × AO) → (List (Nat × AO) → Prop) → Prop
  | [],K => K []
  | p :: l,K => match p.2 with
    | .box t cs => heapOf l (fun h => K ((p.1, .box t cs) :: h))
    | .row e s n sc f => heapOf l (fun h => K ((p.1, .row e s n sc f) :: h))
    | .mp t ks rs => heapOf l (fun h => K ((p.1, .mp t ks rs) :: h))
    | .obs o => heapOf l (fun h => K ((p.1, .obs o) :: h))
    | .rn e cs => heapOf l (fun h => K ((p.1, .rn e cs) :: h))
theorem heapOf_ex : ∀ {l : List (Nat × AO)} {K : List (Nat × AO) → Prop},heapOf l K → ∃ h,K h
  | [],_,h => ⟨[],h⟩
  | p :: l,K,h => by
    simp only [heapOf] at h
    split at h <;> (obtain ⟨l,h⟩ := heapOf_ex h; exact ⟨_,h⟩)
inductive LeC (st : AS) (l : List (Nat × AV)) (h : List (Nat × AO)) (ls : List (List (Nat × AV))) : Prop where
  | mk (hl : st.back.length = ls.length) (hb : backAt st.back ls = backVals ls) (hn : nodupB (h.map (·.1)) = true) (ht : slotsAt st l = valsOf l) (hh : objsAt st h = objsOf h) : LeC st l h ls
theorem back_all : ∀ {fs : List (List (Nat × AV))} {ls : List (List (Nat × AV))},fs.length = ls.length → backAt fs ls = backVals ls → BackLe fs ls
  | [],[],_,_ => trivial
  | f :: fs,l :: ls,hl,h => by
    simp only [backAt,backVals,List.cons.injEq] at h
    exact ⟨slots_all (st := ⟨f,[],[],0⟩) h.1,back_all (by simpa using hl) h.2⟩
  | [],_ :: _,hl,_ => by simp at hl
  | _ :: _,[],hl,_ => by simp at hl
theorem LeC.les {st : AS} {b : Nat} {l : List (Nat × AV)} {hs : List (Nat × AO)} {ls : List (List (Nat × AV))} (h : LeC st l hs ls) : LeS st ⟨l,hs,ls,b⟩ := by
 obtain ⟨hl,hb,hn,ht,hh⟩ := h
 exact ⟨slots_all ht,objs_all hh,nodup_of hn,back_all hl hb⟩
section
variable {P : Program} {L : Lay} {g : Base} {N : Nat} {bs : List (Array Value)} {ρ : Nat → Value} {a : Act} {w : World} {st : AS}
theorem wp_const {o : Oper} {G : Prop} (h : o.wp P a w (fun _ _ => G) (fun _ _ _ => G)) : G := by
 unfold Oper.wp at h
 cases e : (execOp a.eval o).run P w with
 | ok n w' =>
   rw [e] at h
   cases n <;> simp only [Oper.upon] at h
   all_goals first
     | exact h
     | exact h.elim
     | (obtain ⟨v,w'',r,_⟩ := h default []; exact r)
     | (obtain ⟨en,w'',fr,r,_⟩ := h []
        cases en with
        | returned v => exact r
        | panicked c => exact r
        | outgrown => obtain ⟨_,_,r⟩ := r; exact r)
 | halt x w' =>
   rw [e] at h
   cases x <;> simp only [Oper.upon] at h
   exact h
theorem aOne_ex (hL : LayOk P L) {W : Walk} (hW : WOk P W) {ops : List Oper} {Q : AS → Prop} : ∀ (f : Nat) {done : List Nat} {ρ : Nat → Value} {a : Act} {w : World} {st : AS},Rel g N bs ρ a w st → aOne P L W N ops.length ops Q f done st → ∃ S,Q S
  | 0,done,ρ,a,w,st,R,h => ⟨st,h⟩
  | f + 1,done,ρ,a,w,st,R,h => by
    have ih := @aOne_ex hL W hW ops Q f
    have step : ∀ {o : Oper} {d : List Nat},aStep P L W N ops o st (aOne P L W N ops.length ops Q f d) → ∃ S,Q S := by
     intro o d h
     unfold aStep at h
     split at h
     · have go : ∀ k,aop P L W k st o.op (fun x st' => aput N st' o.dst x (aOne P L W N ops.length ops Q f d)) → ∃ S,Q S := by
        intro k hk
        refine wp_const (P := P) (o := o) (a := a) (w := w) (aop_snd hL hW R (d := k) hk ?_)
        intro x st' u ρ' w' hx R' hc
        obtain ⟨st2,h2,R2⟩ := aput_snd R' hc hx
        exact ih R2 h2
       unfold aopD at h
       cases hd : o.dst with
       | none => rw [hd] at h; dsimp only at h; exact go 0 (by rw [hd]; exact h)
       | some k => rw [hd] at h; dsimp only at h; exact go k (by rw [hd]; exact h)
     · obtain ⟨st2,k2,R2⟩ := aput_snd R (show C2 (cxOf g w ρ st.heap) (.v undef) undef from rfl) h
       exact ih R2 k2
     · exact h.elim
    simp only [aOne] at h
    split at h
    · exact ⟨st,h⟩
    · split at h
      · split at h
        · exact step h
        · exact h.elim
      · split at h
        · exact step h
        · exact h.elim
theorem ADraw.lex (F : Nat) (hL : LayOk P L) {W : Walk} (hW : WOk P W) {id : Nat} {ops : Array Oper} {K : AS → Prop} {st : AS} (hm : P.follows .mixedOrders = true) (hs : Region.noSelect ops = true)
  (h : aOne P L W N ops.toList.length ops.toList (fun S => slotsOf S N 400 0 fun l => heapOf S.heap fun hs => backOf F S.back fun ls => Both (aAny P L W N ops.toList.length ops.toList (fun st' => LeC st' l hs ls) ops.toList.length [] st) (K ⟨l,hs,ls,S.base⟩)) ops.toList.length [] st) : ADraw P L W N id ops K st := by
 refine .sem fun g bs ρ a w E R hE => ?_
 obtain ⟨S,h1⟩ := aOne_ex hL hW ops.toList.length R h
 obtain ⟨l,h1⟩ := slotsOf_ex h1
 obtain ⟨hs',h1⟩ := heapOf_ex h1
 obtain ⟨ls,h1,hK⟩ := backOf_ex h1
 have := ADraw.any (P := P) (L := L) (N := N) (id := id) hL hW hm hs h1
 cases this with
 | quiet hm hB hq h =>
   refine wp_region_quiet (C := fun w' => w' = w.drew) hm hB rfl ?_
   have R' : Rel g N bs ρ a w.drew st := R.world (Below.refl _ _).drew
   exact awpQ_snd hL (E := fun a w => E .normal a w) (ops := ops.toList) (fun a w1 st R h => hE _ _ _ _ (R.less h.les) hK) ops.toList hq R' h
 | sem h => exact h g bs ρ a w E R fun ρ a w st R h => hE _ _ _ _ (R.less h.les) hK
end
end Go.Proofs.YtimhagicagdkfaaGreat
namespace Go.Proofs.YtimhagicagdkfaaGreat
open Go.RowKit
section
variable {P : Program} {ops : Array Oper} {Q : Exit → Act → World → Prop} {T : List (Nat × List Nat)}
def YieldsAt (P : Program) (ops : Array Oper) (o : Oper) (v : Value) (a : Act) (w : World) : Prop :=
 (Region.wanted o (yielded ops a.tmps) = true ∧ (execOp a.eval o).run P w = .ok (.value v) w) ∨ (Region.wanted o (yielded ops a.tmps) = false ∧ v = undef)
theorem YieldsAt.of_same {o : Oper} {v : Value} {a a' : Act} {w : World} (hy : YieldsAt P ops o v a w) (he : execOp a'.eval o = execOp a.eval o) (hw : Region.wanted o (yielded ops a'.tmps) = Region.wanted o (yielded ops a.tmps)) : YieldsAt P ops o v a' w := by
 unfold YieldsAt at *
 rw [he,hw]
 exact hy
theorem YieldsAt.put {o : Oper} {v : Value} {a : Act} {w : World} (hs : ∀ cs b,o.op ≠ .select cs b) {dst : Option Tmp} {u : Value} (h : ∀ d,dst = some d → d ∉ o.looksAt ops) : YieldsAt P ops o v (a.put dst u) w ↔ YieldsAt P ops o v a w := by
 have e1 := execOp_put (ops := ops) o hs a dst u h
 have e2 := wanted_put (ops := ops) o a dst u h
 unfold YieldsAt
 rw [e1,e2]
theorem YieldsAt.wpOp {i : Nat} {o : Oper} {v : Value} {a : Act} {w : World} (hi : ops[i]? = some o) (hy : YieldsAt P ops o v a w) {K : Act → World → Prop} (h : K (a.put o.dst v) w) : wpOp P ops Q i K a w := by
 unfold Go.wpOp
 simp only [hi]
 rcases hy with ⟨hw,hv⟩ | ⟨hw,rfl⟩
 · simp only [hw,if_true,Oper.wp,hv,Oper.upon]; exact .inl h
 · simp only [hw,Bool.false_eq_true,if_false]; exact h
def alive (T : List (Nat × List Nat)) (listed : Array Bool) (p : Nat) : Prop := ∀ k l,(k,l) ∈ T → listed.getD k false = true → p ∉ l
def Obl (P : Program) (ops : Array Oper) (T : List (Nat × List Nat)) (listed : Array Bool) (pend : List (Nat × Value)) (a : Act) (w : World) : Prop :=
 ∀ p ∈ pend,alive T listed p.1 → ∀ o,ops[p.1]? = some o → YieldsAt P ops o p.2 a w
def wpAnyX (P : Program) (ops : Array Oper) (Q : Exit → Act → World → Prop) (T : List (Nat × List Nat)) : Nat → Array Bool → List (Nat × Value) → Act → World → Prop
  | 0,listed,_,a,w => Region.ready .any ops listed = [] ∧ Q .normal a w
  | f + 1,listed,pend,a,w => (Region.ready .any ops listed = [] → Q .normal a w) ∧ ∀ j ∈ Region.ready .any ops listed,wpOp P ops Q j (fun a' w' => Obl P ops T (listed.setIfInBounds j true) pend a' w' ∧ wpAnyX P ops Q T f (listed.setIfInBounds j true) pend a' w') a w
theorem wpAnyX.less : ∀ {f : Nat} {listed : Array Bool} {pend pend' : List (Nat × Value)} {a : Act} {w : World},(∀ p ∈ pend',p ∈ pend) → wpAnyX P ops Q T f listed pend a w → wpAnyX P ops Q T f listed pend' a w
  | 0,_,_,_,_,_,_,h => h
  | _ + 1,_,_,_,_,_,hs,h => ⟨h.1,fun j hj => wpOp_mono (fun _ _ k => ⟨fun p hp => k.1 p (hs p hp),wpAnyX.less hs k.2⟩) (h.2 j hj)⟩
theorem wpAnyX.any : ∀ {f : Nat} {listed : Array Bool} {pend : List (Nat × Value)} {a : Act} {w : World},wpAnyX P ops Q T f listed pend a w → wpAny P .any ops Q f listed a w
  | 0,_,_,_,_,h => h
  | _ + 1,_,_,_,_,h => ⟨h.1,fun j hj => wpOp_mono (fun _ _ k => wpAnyX.any k.2) (h.2 j hj)⟩
def Closed (T : List (Nat × List Nat)) (listed : Array Bool) : Prop := ∀ k l,(k,l) ∈ T → listed.getD k false = true → ∀ p ∈ l,listed.getD p false = true
theorem wpOp_putX {j : Nat} {oi oj : Oper} {v : Value} (hj : ops[j]? = some oj) (h1 : ∀ d,oi.dst = some d → d ∉ oj.looksAt ops) (h2 : ∀ d,oi.dst = some d → oj.dst ≠ some d)
  (hsj : ∀ cs b,oj.op ≠ .select cs b) (hQ : ∀ c a w,Q (.panic c) (a.put oi.dst v) w → Q (.panic c) a w) {K : Act → World → Prop} {a : Act} {w : World}
  (h : wpOp P ops Q j K (a.put oi.dst v) w) : wpOp P ops Q j (fun a' w' => K (a'.put oi.dst v) w') a w := by
 unfold wpOp at *
 simp only [hj] at *
 rw [wanted_put oj a oi.dst v h1] at h
 split
 · rename_i hw
   simp only [hw,if_true] at h
   rcases h with h | ⟨hasks,hlets⟩
   case inr => exact .inr ⟨by unfold Oper.asks at *; rw [execOp_put oj hsj a oi.dst v h1] at hasks; exact hasks,hlets⟩
   refine .inl ?_
   unfold Oper.wp at *
   rw [execOp_put oj hsj a oi.dst v h1] at h
   generalize (execOp a.eval oj).run P w = r at *
   cases r with
   | ok n w' =>
     cases n <;> simp only [Oper.upon] at h ⊢
     case value u => rw [← Act.put_comm a v u h2]; exact h
     case skip => rw [← Act.put_comm a v undef h2]; exact h
     case defer d =>
      rw [← Act.put_comm _ v undef h2,← Act.put_defers]
      exact h
     case enter f args =>
      refine Calls.mono h fun e w'' he => ?_
      cases e with
      | returned u => dsimp only at he ⊢; rw [← Act.put_comm a v u h2]; exact he
      | panicked c => exact hQ _ _ _ he
      | outgrown => exact he
     case row row args => exact Rows.mono h fun u w'' he => by rw [← Act.put_comm a v u h2]; exact he
   | halt x w' =>
     cases x <;> simp only [Oper.upon] at h ⊢
     case panic u => exact hQ _ _ _ h
 · rename_i hw
   simp only [hw] at h
   rw [← Act.put_comm a v undef h2]; exact h
def addP (pu : Bool) (x : Nat × Value) (pend : List (Nat × Value)) : List (Nat × Value) := match pu with | true => pend | false => x :: pend
def Blind (ops : Array Oper) (listed : Array Bool) (pend : List (Nat × Value)) : Prop :=
 ∀ p ∈ pend,∀ o,ops[p.1]? = some o → ∀ k ok,ops[k]? = some ok → listed.getD k true = false → ∀ d,ok.dst = some d → d ∉ o.looksAt ops
theorem wpAnyX_first {i : Nat} {oi : Oper} {v : Value} (hi : ops[i]? = some oi) (hsel : ∀ (j : Nat) (o : Oper) cs b,ops[j]? = some o → o.op ≠ .select cs b)
  (hQ : ∀ c a w,Q (.panic c) (a.put oi.dst v) w → Q (.panic c) a w) (hT : ∀ l,(i,l) ∈ T → False) {U : List (Nat × List Nat)} (hTU : ∀ x ∈ T,x ∈ U) (hTr : ∀ (k : Nat) (l : List Nat) (listed : Array Bool),(k,l) ∈ U → Closed U listed → k ∈ Region.ready .any ops listed → ∀ p ∈ l,listed.getD p false = true) (pu : Bool) :
  ∀ (fuel : Nat) (listed : Array Bool) (pend : List (Nat × Value)) (a : Act) (w : World),
   (∀ j oj,ops[j]? = some oj → j ≠ i → listed.getD j true = false → (∀ d,oi.dst = some d → oj.dst ≠ some d) ∧ ((∀ e ∈ oj.after,Region.binds .any e = true → e.on ≠ i) → (∀ d,oj.dst = some d → d ∉ oi.looksAt ops) ∧ ∀ d,oi.dst = some d → d ∉ oj.looksAt ops)) →
   (∀ d,oi.dst = some d → d ∉ oi.looksAt ops) →
   i ∈ Region.ready .any ops listed → Closed U listed → Blind ops listed pend → Obl P ops T listed pend a w → YieldsAt P ops oi v a w → (pu = true → Yields P ops oi v a) →
   wpAnyX P ops Q T fuel (listed.setIfInBounds i true) (addP pu (i,v) pend) (a.put oi.dst v) w → wpAnyX P ops Q T (fuel + 1) listed pend a w := by
 intro fuel
 have hsub : ∀ (pend : List (Nat × Value)),∀ p ∈ pend,p ∈ (addP pu (i,v) pend) := by
  intro pend p hp
  cases pu
  · exact List.mem_cons_of_mem _ hp
  · exact hp
 have self : ∀ (listed : Array Bool) (pend : List (Nat × Value)) (a : Act) (w : World),i ∈ Region.ready .any ops listed → Blind ops listed pend → Obl P ops T listed pend a w → Obl P ops T (listed.setIfInBounds i true) pend (a.put oi.dst v) w := by
  intro listed pend a w hr hB hO p hp hal o ho
  have hal' : alive T listed p.1 := fun k l hk hl => hal k l hk (getD_set_true hl)
  have := hO p hp hal' o ho
  exact (YieldsAt.put (fun cs b => hsel _ _ cs b ho) fun d hd => hB p hp o ho i oi hi (mem_ready.1 hr).1 d hd).2 this
 induction fuel with
 | zero =>
   intro listed pend a w _ _ hr _ hB hO hy _ H
   refine ⟨fun h => (by rw [h] at hr; cases hr),fun j hj => ?_⟩
   by_cases hji : j = i
   · subst hji; exact hy.wpOp hi ⟨self listed pend a w hr hB hO,wpAnyX.less (hsub pend) H⟩
   · have := ready_mono hj hji
     rw [H.1] at this
     cases this
 | succ fuel ih =>
   intro listed pend a w hfree hself hr hC hB hO hy hpu H
   refine ⟨fun h => (by rw [h] at hr; cases hr),fun j hj => ?_⟩
   by_cases hji : j = i
   · subst hji; exact hy.wpOp hi ⟨self listed pend a w hr hB hO,wpAnyX.less (hsub pend) H⟩
   · have h1 := H.2 j (ready_mono hj hji)
     obtain ⟨hjun,oj,hoj,hall⟩ := mem_ready.1 hj
     have hiun := (mem_ready.1 hr).1
     have hifalse : listed.getD i false = false := by
      rcases Nat.lt_or_ge i listed.size with h' | h'
      · simp [h'] at hiun ⊢; exact hiun
      · simp [Array.getElem?_eq_none h']
     have hnot : ∀ e ∈ oj.after,Region.binds .any e = true → e.on ≠ i := fun e he hb heq => by
      have h1 := hall e he hb
      rw [heq,hifalse] at h1
      cases h1
     obtain ⟨f2,f3⟩ := hfree j oj hoj hji hjun
     obtain ⟨f1,hb3⟩ := f3 hnot
     have hji' : i < ops.size := (Array.getElem?_eq_some_iff.1 hi).1
     have hClosed' : Closed U (listed.setIfInBounds j true) := by
      intro k l hk hl p hp
      by_cases hkj : k = j
      · subst hkj
        exact getD_set_true (hTr k l listed hk hC hj p hp)
      · rw [getD_set_ne false (Ne.symm hkj)] at hl
        exact getD_set_true (hC k l hk hl p hp)
     have hBlind' : Blind ops (listed.setIfInBounds j true) pend := fun p hp o ho k ok hk hun d hd => by
      refine hB p hp o ho k ok hk ?_ d hd
      by_cases hkj : j = k
      · subst hkj; exact hjun
      · rw [getD_set_ne true hkj] at hun; exact hun
     -- what is kept of i's own promise while j comes up
     have hkeepY : ∀ (a' : Act) (u : Value),Yields P ops oi v a' → Yields P ops oi v (a'.put oj.dst u) := fun a' u hy => hy.of_same (execOp_put oi (fun cs b => hsel i oi cs b hi) a' oj.dst u f1) (wanted_put oi a' oj.dst u f1)
     have h2 := wpOp_putX hoj hb3 f2 (fun cs b => hsel j oj cs b hoj) hQ h1
     have halive : ∀ p,alive T (listed.setIfInBounds j true) p → alive T ((listed.setIfInBounds i true).setIfInBounds j true) p := by
      intro p hal k l hk hl
      by_cases hki : k = i
      · subst hki; exact (hT l hk).elim
      · refine hal k l hk ?_
        rw [Array.setIfInBounds_comm _ _ (Ne.symm hji),getD_set_ne false (Ne.symm hki)] at hl
        exact hl
     have haliveI : alive T ((listed.setIfInBounds i true).setIfInBounds j true) i := by
      refine halive i fun k l hk hl hin => ?_
      have h0 := hClosed' k l (hTU _ hk) hl i hin
      rw [getD_set_ne false hji,hifalse] at h0
      cases h0
     have hfree' : ∀ k ok,ops[k]? = some ok → k ≠ i → (listed.setIfInBounds j true).getD k true = false → (∀ d,oi.dst = some d → ok.dst ≠ some d) ∧ ((∀ e ∈ ok.after,Region.binds .any e = true → e.on ≠ i) → (∀ d,ok.dst = some d → d ∉ oi.looksAt ops) ∧ ∀ d,oi.dst = some d → d ∉ ok.looksAt ops) := fun k ok hk hki hun => by
      refine hfree k ok hk hki ?_
      by_cases hjk : j = k
      · subst hjk; exact hjun
      · rw [getD_set_ne true hjk] at hun; exact hun
     -- j comes up: the state behind it
     have fin : ∀ (a' : Act) (w' : World),(pu = true → Yields P ops oi v a') → (Obl P ops T ((listed.setIfInBounds i true).setIfInBounds j true) (addP pu (i,v) pend) (a'.put oi.dst v) w' ∧ wpAnyX P ops Q T fuel ((listed.setIfInBounds i true).setIfInBounds j true) (addP pu (i,v) pend) (a'.put oi.dst v) w') →
       Obl P ops T (listed.setIfInBounds j true) pend a' w' ∧ wpAnyX P ops Q T (fuel + 1) (listed.setIfInBounds j true) pend a' w' := by
      rintro a' w' hpu' ⟨k1,k2⟩
      have kO : Obl P ops T (listed.setIfInBounds j true) pend a' w' := by
       intro p hp hal o ho
       have := k1 p (hsub pend p hp) (halive p.1 hal) o ho
       exact (YieldsAt.put (fun cs b => hsel _ _ cs b ho) fun d hd => hB p hp o ho i oi hi hiun d hd).1 this
      refine ⟨kO,?_⟩
      have hyi : YieldsAt P ops oi v a' w' := by
       cases hp : pu with
       | true =>
         rcases hpu' hp with ⟨q1,q2⟩ | q
         · exact .inl ⟨q1,q2 w'⟩
         · exact .inr q
       | false =>
         rw [hp] at k1
         exact (YieldsAt.put (fun cs b => hsel _ _ cs b hi) hself).1 (k1 (i,v) List.mem_cons_self haliveI oi hi)
      refine ih (listed.setIfInBounds j true) pend a' w' hfree' hself (ready_mono hr (Ne.symm hji)) hClosed' hBlind' kO hyi hpu' ?_
      rw [Array.setIfInBounds_comm _ _ hji]
      exact k2
     cases hp : pu with
     | false => exact wpOp_mono (fun a' w' h3 => fin a' w' (fun e => by rw [hp] at e; cases e) h3) h2
     | true =>
       have h2' := wpOp_put (v := v) hoj (Oper.apart_of hb3 f2 f1) (fun cs b => hsel i oi cs b hi) (fun cs b => hsel j oj cs b hoj) hQ (hpu hp) h1
       exact wpOp_mono (fun a' w' h3 => fin a' w' (fun _ => h3.1) h3.2) h2'
where
 Oper.apart_of {x y : Oper} (h1 : ∀ d,x.dst = some d → d ∉ y.looksAt ops) (h2 : ∀ d,x.dst = some d → y.dst ≠ some d) (h3 : ∀ d,y.dst = some d → d ∉ x.looksAt ops) : x.apart ops y = true := by
  unfold Oper.apart
  rw [Bool.and_eq_true]
  constructor
  · cases hx : x.dst with
    | none => rfl
    | some d => simpa using ⟨h1 d hx,h2 d hx⟩
  · cases hy : y.dst with
    | none => rfl
    | some d => simpa using h3 d hy
end
end Go.Proofs.YtimhagicagdkfaaGreat
namespace Go.Proofs.YtimhagicagdkfaaGreat
open Go.RowKit
def edgeIs (p : Nat) : List Edge → Bool
  | [] => false
  | e :: l => (Region.binds .any e && Nat.beq e.on p) || edgeIs p l
def edgeVia (U : List (Nat × List Nat)) (p : Nat) : List Edge → Bool
  | [] => false
  | e :: l => (Region.binds .any e && U.any (fun x => Nat.beq x.1 e.on && memB p x.2)) || edgeVia U p l
def closB (ops : List Oper) (U : List (Nat × List Nat)) : Bool :=
 U.all fun x => match ops[x.1]? with | some o => x.2.all fun p => edgeIs p o.after.toList || edgeVia U p o.after.toList | none => false
def free2B (ops : List Oper) (done : List Nat) (i : Nat) (oi : Oper) : Nat → List Oper → Bool
  | _,[] => true
  | k,o :: r => (Nat.beq k i || memB k done || ((match oi.dst with | some d => !(dstIs o d) | none => true) && (waitsB i o.after.toList || ((match o.dst with | some d => !(looksB ops oi d) | none => true) && (match oi.dst with | some d => !(looksB ops o d) | none => true))))) && free2B ops done i oi (k + 1) r
def blindB (ops : List Oper) (done : List Nat) (i : Nat) (oi : Oper) : Nat → List Oper → Bool
  | _,[] => true
  | k,o :: r => (Nat.beq k i || memB k done || (match o.dst with | some d => !(looksB ops oi d) | none => true)) && blindB ops done i oi (k + 1) r
def freeOp : Op → Bool
  | .move _ => true
  | .assign _ => true
  | .pick .. => true
  | .extract .. => true
  | .fieldAddr .. => true
  | .indexAddr .. => true
  | .unOp .. => true
  | .build .. => true
  | _ => false
def actsOf : List (Nat × Option (List Nat)) → List (Nat × List Nat)
  | [] => []
  | (i,some l) :: r => (i,l) :: actsOf r
  | (_,none) :: r => actsOf r
def isOne (i : Nat) : List Nat → Bool
  | [k] => Nat.beq k i
  | _ => false
def nilB : List Nat → Bool
  | [] => true
  | _ => false
def schB (ops : List Oper) (T : List (Nat × List Nat)) : List (Nat × Option (List Nat)) → List Nat → Bool
  | [],done => nilB (rdyFrom ops.length done 0 ops)
  | (i,none) :: r,done => (match ops[i]? with
    | some o => memB i (rdyFrom ops.length done 0 ops) && free2B ops done i o 0 ops && (freeOp o.op || blindB ops done i o 0 ops) && (match o.dst with | some d => !(looksB ops o d) | none => false) && !(T.any fun x => Nat.beq x.1 i)
    | none => false) && schB ops T r (i :: done)
  | (i,some _) :: r,done => isOne i (rdyFrom ops.length done 0 ops) && schB ops T r (i :: done)
def subT : List (Nat × List Nat) → List (Nat × List Nat) → Bool
  | [],_ => true
  | x :: T,U => U.any (fun y => Nat.beq x.1 y.1 && (x.2 == y.2)) && subT T U
def schedB (ops : List Oper) (sc : List (Nat × Option (List Nat))) (U : List (Nat × List Nat)) : Bool :=
 closB ops U && subT (actsOf sc) U && schB ops (actsOf sc) sc []
def det0 : AV → Bool
  | .v _ => true
  | .own _ => true
  | .eown .. => true
  | .box .. => true
  | .cf .. => true
  | _ => false
def det1 : AV → Bool
  | .agg cs => cs.all det0
  | x => det0 x
structure Still (A B : AV) (K : Prop) : Prop where
 mk ::
 eq : A = B
 det : det1 A = true
 k : K
def reCh (P : Program) (L : Lay) (W : Walk) (N : Nat) (ops : List Oper) : List Nat → AS → Prop → Prop
  | [],_,K => K
  | p :: r,st,K => match ops[p]? with
    | some o => (match o.dst with
      | some d => aop P L W d st o.op (fun y _ => Still y (st.tmps d) (reCh P L W N ops r st K))
      | none => False)
    | none => False
def outOf (l : List Nat) : List Nat → List Nat
  | [] => []
  | p :: r => bif memB p l then outOf l r else p :: outOf l r
inductive ACallK (P : Program) (d : Nat) (f : FuncId) (avs : List AV) (st : AS) (K : AV → AS → Prop) : Prop where
  | plain (bs : List AV) (r : AV) (hs : ASpec P f bs r []) (hsub : SubL st.heap avs bs) (hr : ok2 none r = true) : K r (bif noSl2 r then st else frzL st avs) → ACallK P d f avs st K
  | fresh (bs : List AV) (r : AV) (e : TypeId) (s n : Nat) (sc : Bool) (g : Nat → List AV) (hs : ASpec P f bs r [(d, .row e s n sc g)]) (hsub : SubL st.heap avs bs) (hr : ok2 (some d) r = true) :
     K r ((bif noSl2 r && sc then st else frzL st avs).obj d d (.row e s n sc g)) → ACallK P d f avs st K
def keepOp (L : Lay) (st : AS) : Op → Bool
  | .load t p => match layGet L t with
    | some i => (match st.ev p with
      | .box id k => (match findObj id st.heap with
        | some (.box _ cs) => Nat.ble (k + (bif i.isAgg then i.size else 1)) cs.length
        | _ => false)
      | _ => false)
    | none => false
  | _ => false
def keepB (L : Lay) (st : AS) (ops : List Oper) (p : Nat) : Bool := match ops[p]? with | some o => keepOp L st o.op | none => false
def noKeep (L : Lay) (st : AS) (ops : List Oper) : List Nat → List Nat
  | [] => []
  | p :: r => bif keepB L st ops p then noKeep L st ops r else p :: noKeep L st ops r
def aKeep (P : Program) (L : Lay) (W : Walk) (N : Nat) (ops : List Oper) (o : Oper) (pl : List Nat) (st : AS) (K : AS → Prop) : Prop :=
 match wantB N st ops o with
 | some true => (match o.op with
   | .call c => (match c.callee with
     | .value x => (match (st.ev x).refn with
       | .fn g caps => nameOf st (fun d => ACallK P d g (c.args.toList.map st.ev ++ caps) st (fun x st' => aput N st' o.dst x (fun st2 => reCh P L W N ops (noKeep L st ops pl) st2 (K st2))))
       | _ => False)
     | _ => False)
   | _ => False)
 | some false => aput N st o.dst (.v undef) (fun st2 => reCh P L W N ops (noKeep L st ops pl) st2 (K st2))
 | none => False
def aSch (P : Program) (L : Lay) (W : Walk) (N : Nat) (ops : List Oper) (kp : Bool) (Q : AS → Prop) : List (Nat × Option (List Nat)) → List Nat → AS → Prop
  | [],_,st => Q st
  | (i,none) :: r,pend,st => match ops[i]? with
    | some o => (match wantB N st ops o with
      | some true => (match pureAt L st o.op with
        | true => aopD P L W o.dst st o.op (fun x st' => aput N st' o.dst x (aSch P L W N ops kp Q r pend))
        | false => (match quietB o.op with
          | true => aopD P L W o.dst st o.op (fun x st' => aput N st' o.dst x (aSch P L W N ops kp Q r (i :: pend)))
          | false => False))
      | some false => aput N st o.dst (.v undef) (aSch P L W N ops kp Q r pend)
      | none => False)
    | none => False
  | (i,some l) :: r,pend,st => match ops[i]? with
    | some o => (match kp with
      | true => aKeep P L W N ops o (outOf l pend) st (aSch P L W N ops kp Q r (outOf l pend))
      | false => aStep P L W N ops o st (fun st' => reCh P L W N ops (outOf l pend) st' (aSch P L W N ops kp Q r (outOf l pend) st')))
    | none => False
section
variable {P : Program} {L : Lay} {g : Base} {N : Nat} {bs : List (Array Value)} {ρ : Nat → Value} {a : Act} {w : World} {st : AS}
theorem det0_eq {X : CX} {y : AV} {u v : Value} (h : det0 y = true) (hu : C0 X y u) (hv : C0 X y v) : u = v := by
 cases y with
 | v x => exact Eq.trans (show u = x from hu) (show v = x from hv).symm
 | own id => exact Eq.trans (show u = hdV (X.ρ id) from hu) (show v = hdV (X.ρ id) from hv).symm
 | eown id s i k =>
   obtain ⟨b,n,c,h1,rfl⟩ := hu
   obtain ⟨b',n',c',h2,rfl⟩ := hv
   rw [h1] at h2
   cases h2
   rfl
 | osl id s i k => cases h
 | box id off =>
   obtain ⟨b,h1,rfl⟩ := hu
   obtain ⟨b',h2,rfl⟩ := hv
   rw [h1] at h2
   cases h2
   rfl
 | cf gg id off =>
   obtain ⟨b,h1,rfl⟩ := hu
   obtain ⟨b',h2,rfl⟩ := hv
   rw [h1] at h2
   cases h2
   rfl
 | _ => cases h
theorem det1_eq {X : CX} {y : AV} {u v : Value} (h : det1 y = true) (hu : C2 X y u) (hv : C2 X y v) : u = v := by
 cases y with
 | agg cs =>
   obtain ⟨us,rfl,h1⟩ := hu
   obtain ⟨vs,rfl,h2⟩ := hv
   have : us = vs := by
    apply List.ext_getElem?
    intro i
    by_cases hi : i < cs.length
    · have hx : cs[i]? = some cs[i] := List.getElem?_eq_getElem hi
      obtain ⟨u,e1,k1⟩ := h1.get hx
      obtain ⟨v,e2,k2⟩ := h2.get hx
      rw [e1,e2,det0_eq (List.all_eq_true.1 h _ (List.getElem_mem hi)) k1 k2]
    · rw [List.getElem?_eq_none (by rw [← h1.1]; omega),List.getElem?_eq_none (by rw [← h2.1]; omega)]
   rw [this]
 | v x => exact det0_eq (X := X) (y := .v x) h hu hv
 | own id => exact det0_eq (X := X) (y := .own id) h hu hv
 | eown id s i k => exact det0_eq (X := X) (y := .eown id s i k) h hu hv
 | osl id s i k => exact det0_eq (X := X) (y := .osl id s i k) h hu hv
 | box id off => exact det0_eq (X := X) (y := .box id off) h hu hv
 | cf gg id off => exact det0_eq (X := X) (y := .cf gg id off) h hu hv
 | _ => cases h
theorem edgeIs_ok {p : Nat} : ∀ {l : List Edge},edgeIs p l = true → ∃ e ∈ l,Region.binds .any e = true ∧ e.on = p
  | [],h => by cases h
  | e :: l,h => by
    simp only [edgeIs,Bool.or_eq_true,Bool.and_eq_true] at h
    rcases h with ⟨h1,h2⟩ | h
    · exact ⟨e,List.mem_cons_self,h1,Nat.eq_of_beq_eq_true h2⟩
    · obtain ⟨e',h1,h2⟩ := edgeIs_ok h
      exact ⟨e',List.mem_cons_of_mem _ h1,h2⟩
theorem memB_ok {p : Nat} : ∀ {l : List Nat},memB p l = true ↔ p ∈ l
  | [] => by simp [memB]
  | q :: l => by
    simp only [memB,Bool.or_eq_true,List.mem_cons,memB_ok (l := l)]
    refine or_congr ⟨fun h => (Nat.eq_of_beq_eq_true h).symm,fun h => by rw [h]; simp⟩ Iff.rfl
theorem edgeVia_ok {U : List (Nat × List Nat)} {p : Nat} : ∀ {l : List Edge},edgeVia U p l = true → ∃ e ∈ l,Region.binds .any e = true ∧ ∃ x ∈ U,x.1 = e.on ∧ p ∈ x.2
  | [],h => by cases h
  | e :: l,h => by
    simp only [edgeVia,Bool.or_eq_true,Bool.and_eq_true,List.any_eq_true] at h
    rcases h with ⟨h1,x,hx,h2,h3⟩ | h
    · exact ⟨e,List.mem_cons_self,h1,x,hx,Nat.eq_of_beq_eq_true h2,memB_ok.1 h3⟩
    · obtain ⟨e',h1,h2⟩ := edgeVia_ok h
      exact ⟨e',List.mem_cons_of_mem _ h1,h2⟩
theorem closB_ok {ops : List Oper} {U : List (Nat × List Nat)} (h : closB ops U = true) (k : Nat) (l : List Nat) (listed : Array Bool) (hk : (k,l) ∈ U) (hC : Closed U listed) (hr : k ∈ Region.ready .any ops.toArray listed) : ∀ p ∈ l,listed.getD p false = true := by
 intro p hp
 have := List.all_eq_true.1 h _ hk
 dsimp only at this
 obtain ⟨_,o,ho,hall⟩ := mem_ready.1 hr
 have ho : ops[k]? = some o := by simpa using ho
 rw [ho] at this
 dsimp only at this
 have := List.all_eq_true.1 this p hp
 rw [Bool.or_eq_true] at this
 rcases this with h1 | h1
 · obtain ⟨e,he,hb,rfl⟩ := edgeIs_ok h1
   exact hall e (by simpa using he) hb
 · obtain ⟨e,he,hb,⟨k',l'⟩,hx,e1,h3⟩ := edgeVia_ok h1
   have h2 := hall e (by simpa using he) hb
   dsimp only at e1 h3
   rw [← e1] at h2
   exact hC k' l' hx h2 p h3
theorem subT_ok {T U : List (Nat × List Nat)} (h : subT T U = true) : ∀ x ∈ T,x ∈ U := by
 induction T with
 | nil => intro x hx; cases hx
 | cons y T ih =>
   simp only [subT,Bool.and_eq_true,List.any_eq_true] at h
   obtain ⟨⟨z,hz,h1,h2⟩,h3⟩ := h
   intro x hx
   rcases List.mem_cons.1 hx with rfl | hx
   · have e1 := Nat.eq_of_beq_eq_true h1
     have e2 := eq_of_beq h2
     have : x = z := Prod.ext e1 e2
     rw [this]; exact hz
   · exact ih h3 x hx
theorem free2B_ok {ops : List Oper} {done : List Nat} {i : Nat} {oi : Oper} : ∀ {l : List Oper} {k : Nat},free2B ops done i oi k l = true → ∀ (j : Nat) (oj : Oper),l[j]? = some oj → k + j ≠ i → memB (k + j) done = false →
  (∀ d,oi.dst = some d → oj.dst ≠ some d) ∧ ((∀ e ∈ oj.after,Region.binds .any e = true → e.on ≠ i) → (∀ d,oj.dst = some d → d ∉ oi.looksAt ops.toArray) ∧ ∀ d,oi.dst = some d → d ∉ oj.looksAt ops.toArray)
  | [],k,_,j,oj,hj => by simp at hj
  | o :: l,k,h,j,oj,hj => by
    simp only [free2B,Bool.and_eq_true,Bool.or_eq_true] at h
    obtain ⟨h1,h2⟩ := h
    intro hne hm
    cases j with
    | zero =>
      simp only [List.getElem?_cons_zero,Option.some.injEq] at hj
      subst hj
      rcases h1 with (h1 | h1) | ⟨h1,h3⟩
      · exact absurd (Nat.eq_of_beq_eq_true h1) (by simpa using hne)
      · rw [Nat.add_zero] at hm; rw [hm] at h1; cases h1
      · refine ⟨fun d hd => ?_,fun hw => ?_⟩
        · rw [hd] at h1
          simp only [Bool.not_eq_true'] at h1
          intro e
          unfold dstIs at h1
          rw [e] at h1
          simp at h1
        · rcases h3 with h4 | ⟨h3,h4⟩
          · obtain ⟨e,he,hb,hi⟩ := waitsB_ok h4
            exact absurd hi (hw e (by simpa using he) hb)
          · refine ⟨fun d hd => ?_,fun d hd => ?_⟩
            · rw [hd] at h3
              simp only [Bool.not_eq_true'] at h3
              have := looksB_ok h3
              simpa using this
            · rw [hd] at h4
              simp only [Bool.not_eq_true'] at h4
              have := looksB_ok h4
              simpa using this
    | succ j =>
      exact free2B_ok h2 j oj (by simpa using hj) (by omega) (by rw [show k + 1 + j = k + (j + 1) by omega]; exact hm)
theorem blindB_ok {ops : List Oper} {done : List Nat} {i : Nat} {oi : Oper} : ∀ {l : List Oper} {k : Nat},blindB ops done i oi k l = true → ∀ (j : Nat) (oj : Oper),l[j]? = some oj → k + j ≠ i → memB (k + j) done = false → ∀ d,oj.dst = some d → d ∉ oi.looksAt ops.toArray
  | [],k,_,j,oj,hj => by simp at hj
  | o :: l,k,h,j,oj,hj => by
    simp only [blindB,Bool.and_eq_true,Bool.or_eq_true] at h
    obtain ⟨h1,h2⟩ := h
    intro hne hm d hd
    cases j with
    | zero =>
      simp only [List.getElem?_cons_zero,Option.some.injEq] at hj
      subst hj
      rcases h1 with (h1 | h1) | h1
      · exact absurd (Nat.eq_of_beq_eq_true h1) (by simpa using hne)
      · rw [Nat.add_zero] at hm; rw [hm] at h1; cases h1
      · rw [hd] at h1
        simp only [Bool.not_eq_true'] at h1
        have := looksB_ok h1
        simpa using this
    | succ j =>
      exact blindB_ok h2 j oj (by simpa using hj) (by omega) (by rw [show k + 1 + j = k + (j + 1) by omega]; exact hm) d hd
theorem freeOp_pure {op : Op} (h : freeOp op = true) (L : Lay) (st : AS) : pureAt L st op = true := by
 cases op <;> first | rfl | cases h
theorem isOne_ok {i : Nat} {l : List Nat} (h : isOne i l = true) : l = [i] := by
 unfold isOne at h
 split at h
 · rw [Nat.eq_of_beq_eq_true h]
 · cases h
theorem actsOf_mem : ∀ {sc : List (Nat × Option (List Nat))} {k : Nat} {l : List Nat},(k,some l) ∈ sc → (k,l) ∈ actsOf sc
  | [],_,_,h => by cases h
  | (i,none) :: r,k,l,h => by
    rcases List.mem_cons.1 h with h | h
    · cases h
    · show (k,l) ∈ actsOf r
      exact actsOf_mem h
  | (i,some m) :: r,k,l,h => by
    rcases List.mem_cons.1 h with h | h
    · cases h; exact List.mem_cons_self
    · exact List.mem_cons_of_mem _ (actsOf_mem h)
theorem outOf_mem {l : List Nat} {p : Nat} : ∀ {q : List Nat},p ∈ q → p ∉ l → p ∈ outOf l q
  | [],h,_ => by cases h
  | x :: q,h,hn => by
    simp only [outOf]
    cases hb : memB x l with
    | true =>
      rcases List.mem_cons.1 h with rfl | h
      · exact absurd (memB_ok.1 hb) hn
      · exact outOf_mem h hn
    | false =>
      rcases List.mem_cons.1 h with rfl | h
      · exact List.mem_cons_self
      · exact List.mem_cons_of_mem _ (outOf_mem h hn)
theorem outOf_sub {l : List Nat} {p : Nat} : ∀ {q : List Nat},p ∈ outOf l q → p ∈ q
  | [],h => h
  | x :: q,h => by
    simp only [outOf] at h
    cases hb : memB x l with
    | true => rw [hb] at h; exact List.mem_cons_of_mem _ (outOf_sub h)
    | false =>
      rw [hb] at h
      rcases List.mem_cons.1 h with rfl | h
      · exact List.mem_cons_self
      · exact List.mem_cons_of_mem _ (outOf_sub h)
theorem reCh_ok (hL : LayOk P L) {W : Walk} {ops : List Oper} {K : Prop} (R : Rel g N bs ρ a w st) : ∀ {l : List Nat},(∀ p ∈ l,∃ o,ops[p]? = some o ∧ quietB o.op = true) → reCh P L W N ops l st K → K ∧ ∀ p ∈ l,∃ o d,ops[p]? = some o ∧ o.dst = some d ∧ (execOp a.eval o).run P w = .ok (.value (a.tmps.getD d undef)) w
  | [],_,h => ⟨h,fun p hp => by cases hp⟩
  | p :: r,hq,h => by
    simp only [reCh] at h
    split at h
    · rename_i o ho
      obtain ⟨o',ho',hqo⟩ := hq p List.mem_cons_self
      rw [ho] at ho'
      cases ho'
      split at h
      · rename_i d hd
        obtain ⟨y,u,hs,hc,hrun⟩ := aop_quiet hL R (o := o) hqo h
        obtain ⟨e,hdet,hr⟩ := hs
        obtain ⟨hK,hall⟩ := reCh_ok hL R (fun p hp => hq p (List.mem_cons_of_mem _ hp)) hr
        refine ⟨hK,fun q hq' => ?_⟩
        rcases List.mem_cons.1 hq' with rfl | hq'
        · refine ⟨o,d,ho,hd,?_⟩
          have ht := R.tmps d
          rw [← e] at ht
          rw [hrun,det1_eq hdet hc ht]
        · exact hall q hq'
      · exact h.elim
    · exact h.elim
theorem getD_put_ne {a : Act} {dst : Option Tmp} {u : Value} {d : Nat} (h : ∀ t,dst = some t → t ≠ d) : (a.put dst u).tmps.getD d undef = a.tmps.getD d undef := by
 cases dst with
 | none => rfl
 | some t =>
   have := h t rfl
   simp [Act.put,Array.getElem?_setIfInBounds_ne this]
def Slots (ops : List Oper) (done : List Nat) (pend : List (Nat × Value)) (a : Act) : Prop :=
 ∀ p ∈ pend,∃ o d,ops[p.1]? = some o ∧ quietB o.op = true ∧ o.dst = some d ∧ a.tmps.getD d undef = p.2 ∧ ∀ k ok,ops[k]? = some ok → memB k done = false → ok.dst ≠ some d
theorem ld_keep (hL : LayOk P L) {t : TypeId} {i : TI} (hi : layGet L t = some i) {k n : Nat} (hn : k + (bif i.isAgg then i.size else 1) ≤ n) {b : Nat} {us : List Value} (hl : us.length = n) :
  ∃ u,∀ W : World,(∀ (j : Nat) (y : Value),us[j]? = some y → W.cell? ⟨b,0 + j,none⟩ = some y) → (loadVar t ⟨b,0 + k,none⟩).run P W = .ok u W := by
 cases hg : i.isAgg with
 | true =>
   rw [hg] at hn
   simp only [cond_true] at hn
   refine ⟨.agg ((us.drop k).take i.size).toArray,fun W hc => ?_⟩
   have hlen : ((us.drop k).take i.size).length = i.size := by rw [List.length_take,List.length_drop]; omega
   have hl := run_loadCells_list (P := P) W ⟨b,0 + k,none⟩ ((us.drop k).take i.size) (fun j v hv => by
    rw [Addr.add_lit]
    rw [List.getElem?_take] at hv
    split at hv
    · rw [List.getElem?_drop] at hv
      rw [Nat.add_assoc]
      exact hc _ _ hv
    · cases hv)
   rw [hlen] at hl
   simp only [loadVar,Sem.run_bind,run_isAgg' hL hi,hg,Result.andThen_ok,if_true,run_size hL hi,hl,Sem.run_pure]
 | false =>
   rw [hg] at hn
   simp only [cond_false] at hn
   refine ⟨us[k]'(by omega),fun W hc => ?_⟩
   have := hc k _ (List.getElem?_eq_getElem (show k < us.length by omega))
   rw [Nat.zero_add] at this ⊢
   simp [loadVar,Sem.run_bind,run_isAgg' hL hi,hg,this]
theorem keep_load (hL : LayOk P L) (R : Rel g N bs ρ a w st) {o : Oper} (h : keepOp L st o.op = true) : ∃ u,∀ W : World,Below w.heap.size w W → (execOp a.eval o).run P W = .ok (.value u) W := by
 unfold keepOp at h
 split at h
 · rename_i t p e
   split at h
   · rename_i i hi
     split at h
     · rename_i id k ep
       split at h
       · rename_i t' cs hf
         have hn := Nat.le_of_ble_eq_true h
         have hp := R.ev p
         rw [ep] at hp
         obtain ⟨b,hb,hpv⟩ := C2.inv_box hp
         obtain ⟨b',us,e',hh,ha⟩ := R.objs _ (findObj_mem hf)
         have hb : hdV (ρ id) = _ := hb
         have e' : ρ id = _ := e'
         rw [e'] at hb
         cases hb
         have hh : w.heap[b]? = _ := hh
         have hlt : b < w.heap.size := (Array.getElem?_eq_some_iff.1 hh).1
         obtain ⟨u,hu⟩ := ld_keep (P := P) hL hi hn (b := b) (us := us) ha.1.symm
         refine ⟨u,fun W hB => ?_⟩
         have hW : W.heap[b]? = _ := (hB.block b hlt).trans hh
         have hr := hu W (fun j y hy => by
          rw [Nat.zero_add,cell_of_row _ _ _ _ _ _ hW]
          simpa using hy)
         rw [Nat.zero_add] at hr
         have : (Instr.loadAt t (a.eval p)).run P W = .ok u W := by
          rw [hpv]
          simpa [Instr.loadAt,Instr.sureAddr] using hr
         simp [execOp,e,this]
       · cases h
     · cases h
   · cases h
 · cases h
theorem noKeep_mem {L : Lay} {ops : List Oper} {p : Nat} : ∀ {l : List Nat},p ∈ l → keepB L st ops p = true ∨ p ∈ noKeep L st ops l
  | [],h => by cases h
  | q :: l,h => by
    unfold noKeep
    cases hb : keepB L st ops q with
    | true =>
      rcases List.mem_cons.1 h with rfl | h
      · exact .inl hb
      · exact noKeep_mem h
    | false =>
      rcases List.mem_cons.1 h with rfl | h
      · exact .inr List.mem_cons_self
      · exact (noKeep_mem h).imp id fun h => List.mem_cons_of_mem _ h
theorem noKeep_sub {L : Lay} {ops : List Oper} {p : Nat} : ∀ {l : List Nat},p ∈ noKeep L st ops l → p ∈ l
  | [],h => h
  | q :: l,h => by
    unfold noKeep at h
    cases hb : keepB L st ops q with
    | true => rw [hb] at h; exact List.mem_cons_of_mem _ (noKeep_sub h)
    | false =>
      rw [hb] at h
      rcases List.mem_cons.1 h with rfl | h
      · exact List.mem_cons_self
      · exact List.mem_cons_of_mem _ (noKeep_sub h)
theorem acallK_run (R : Rel g N bs ρ a w st) {f : FuncId} {avs : List AV} {args : List Value} (hargs : All2 (C2 (cxOf g w ρ st.heap)) avs args) {K : AV → AS → Prop} {d : Nat} (h : ACallK P d f avs st K) :
  Enters P f ∧ Calls P f args.toArray w fun e w' => ∃ u x st' ρ',e = .returned u ∧ K x st' ∧ Rel g N bs ρ' a w' st' ∧ C2 (cxOf g w' ρ' st'.heap) x u ∧ Below w.heap.size w w' := by
 have mid : ∀ (frozen : Bool),∃ k : Nat → Prop,∃ st1,st1 = (bif frozen then st else frzL st avs) ∧ Rel g N bs ρ a w st1 ∧ (∀ b,k b → b < w.heap.size) ∧ (∀ b,keepOf g w ρ st.heap b → k b) ∧ (∀ x ∈ avs,Reads st ρ w k x ∧ ∀ cs,x = .agg cs → ∀ c ∈ cs,Reads st ρ w k c) ∧ (frozen = false → ∀ b,k b → keepOf g w ρ st1.heap b) := by
  intro frozen
  cases frozen with
  | true =>
    refine ⟨fun b => b < w.heap.size,st,rfl,R,fun b h => h,fun b h => h.1,fun x hx => ?_,fun h => by cases h⟩
    have rd : ∀ y : AV,Reads st ρ w (fun b => b < w.heap.size) y := fun y id e s n sc f hy hf =>
     row_reads R hf (fun b h => h.1) (fun b hb => (R.lt_block (mem_blocks.2 ⟨_,findObj_mem hf,hb⟩)).1)
    exact ⟨rd x,fun cs e c hc => rd c⟩
  | false =>
    obtain ⟨R1,h1,k1⟩ := frzL_ok avs R
    exact ⟨keepOf g w ρ (frzL st avs).heap,frzL st avs,rfl,R1,fun b h => h.1,h1.keep,k1,fun _ b h => h⟩
 cases h with
 | plain bb r hs hsub hr hK =>
   obtain ⟨k,st1,e1,R1,hk1,hk2,hk3,hk4⟩ := mid (noSl2 r)
   rw [← e1] at hK
   refine ⟨hs.1,(hs.2 w k args hk1 (subL_ok hk2 hsub hk3 hargs)).mono ?_⟩
   rintro e w' ⟨u,ρc,rfl,hb,hc,_,_,_⟩
   refine ⟨u,r,st1,ρ,rfl,hK,R1.world hb,?_,hb⟩
   refine ok2_over (X := cxOf (base0 w k) w' ρc []) (d := none) hr ?_ rfl (fun i h => by cases h) hc
   cases hq : noSl2 r with
   | true => exact .inl rfl
   | false =>
     refine .inr fun b hbk => ?_
     have hkb : b < w.heap.size → keepOf g w ρ st1.heap b := fun h => hk4 hq b ((hbk.2.1 h).elim id False.elim)
     refine ⟨hbk.1,fun hlt => (hkb (by have := R.below.size; omega)).2.1 hlt,fun hin => ?_⟩
     have := (R1.lt_block hin).1
     exact (hkb this).2.2 hin
 | fresh bb r e s n sc f' hs hsub hr hK =>
   obtain ⟨k,st1,e1,R1,hk1,hk2,hk3,hk4⟩ := mid (noSl2 r && sc)
   rw [← e1] at hK
   refine ⟨hs.1,(hs.2 w k args hk1 (subL_ok hk2 hsub hk3 hargs)).mono ?_⟩
   rintro e0 w' ⟨u,ρc,rfl,hb,hc,ho,hnd,hnew⟩
   obtain ⟨us,hown,hs0,hfl,hsc,ha⟩ := ho _ (List.mem_singleton.2 rfl)
   have hown : w'.ownsRow 0 e s (ρc d) n us := hown
   have hBw := R.below.size
   have hkeep : (noSl2 r && sc) = false → ∀ b,keepOf (base0 w k) w' ρc [(d, .row e s n sc f')] b → keepOf g w' (reρ ρ d (ρc d)) (st1.obj d d (.row e s n sc f')).heap b := by
    intro hq b hbk
    have hkb : b < w.heap.size → keepOf g w ρ st1.heap b := fun h => hk4 hq b ((hbk.2.1 h).elim id False.elim)
    refine ⟨hbk.1,fun hlt => (hkb (by omega)).2.1 hlt,fun hin => ?_⟩
    have hbl : blocksOf (reρ ρ d (ρc d)) (st1.obj d d (.row e s n sc f')).heap = blks (ρc d) ++ blocksOf ρ (gone d d st1.heap) := by
     show blocksOf _ (_ :: _) = _
     rw [blocks_cons,blocks_reρ,blocks_scrub]
     · simp [reρ]
     · intro p hp
       simp only [scrubH,List.mem_map] at hp
       obtain ⟨q,hq,rfl⟩ := hp
       exact (mem_gone.1 hq).2.1
    rw [hbl,List.mem_append] at hin
    rcases hin with h1 | h1
    · exact hbk.2.2 (by rw [blocks_cons]; exact List.mem_append_left _ h1)
    · have hin' := blocks_filter_sub h1
      exact (hkb (R1.lt_block hin').1).2.2 hin'
   have hblk : ∀ b ∈ blks (ρc d),w.heap.size ≤ b := fun b hb' => hnew b (mem_blocks.2 ⟨_,List.mem_singleton.2 rfl,hb'⟩)
   have R2 : Rel g N bs (reρ ρ d (ρc d)) a w' (st1.obj d d (.row e s n sc f')) := by
    refine R1.obj d d (R.below.then hb hBw) hb.size (fun b hlt _ => hb.block b hlt) (fun b hb' => .inl (hblk b hb')) (fun hE => ?_) (nodup_own hown)
    refine ⟨us,by simpa [cxOf,reρ] using hown,hs0,hfl,hsc,?_⟩
    cases hq : (noSl2 r && sc) with
    | true =>
      simp only [Bool.and_eq_true] at hq
      refine ⟨ha.1,fun i x u hx hu => ?_⟩
      obtain ⟨y,rfl⟩ := hsc hq.2 x (List.mem_of_getElem? hx)
      have := ha.2 i _ u hx hu
      cases this with
      | v _ h1 => exact .v _ h1
    | false => exact ha.imp fun _ _ => PC.mono (hkeep hq) fun _ _ => rfl
   refine ⟨u,r,_,_,rfl,hK,R2,?_,hb⟩
   refine ok2_over (X := cxOf (base0 w k) w' ρc [(d, .row e s n sc f')]) (d := some d) hr ?_ rfl (fun i h => by cases h; simp [cxOf,reρ]) hc
   cases hq : (noSl2 r && sc) with
   | true => simp only [Bool.and_eq_true] at hq; exact .inl hq.1
   | false => exact .inr (hkeep hq)
theorem akeep_snd (R : Rel g N bs ρ a w st) {o : Oper} {c : Call} (e : o.op = .call c) {x : Operand} (ec : c.callee = .value x) {gg : FuncId} {caps : List AV} (ex : (st.ev x).refn = .fn gg caps) {d : Nat} {K : AV → AS → Prop} {next : Act → World → Prop} {Q : Exit → Act → World → Prop}
  (h : ACallK P d gg (c.args.toList.map st.ev ++ caps) st K) (hk : ∀ x st' u ρ' w',K x st' → Rel g N bs ρ' a w' st' → C2 (cxOf g w' ρ' st'.heap) x u → Below w.heap.size w w' → next (a.put o.dst u) w') : o.wp P a w next Q := by
 have hx := refn_ok (R.ev x)
 rw [ex] at hx
 obtain ⟨us,hv,ha⟩ := C2.inv_fn hx
 have hargs := (evs_all R c.args.toList).app (caps_all ha)
 obtain ⟨hent,hcall⟩ := acallK_run R hargs h
 have hrun : (execOp a.eval o).run P w = .ok (.enter gg (c.args.toList.map a.eval ++ us).toArray) w := by
  have hcf := run_callFunc hent (c.args.toList.map a.eval ++ us).toArray w
  have eq : (c.args.toList.map a.eval ++ us).toArray = (#[] ++ c.args.map a.eval) ++ us.toArray := by
   apply Array.ext'; simp
  rw [eq] at hcf ⊢
  simp only [execOp,e,resolve,ec,Deferred.ofValue,hv,Sem.run_bind,Sem.run_pure,Result.andThen_ok,invoke]
  exact hcf
 unfold Oper.wp
 rw [hrun,Oper.upon_enter]
 refine hcall.mono ?_
 rintro e' w' ⟨u,y,st',ρ',rfl,h1,h2,h3,h4⟩
 exact hk _ _ _ _ _ h1 h2 h3 h4
theorem aSch_snd (hL : LayOk P L) {W : Walk} (hW : WOk P W) {ops : List Oper} (hs : Region.noSelect ops.toArray = true) {kp : Bool} {Q : AS → Prop} {E : Exit → Act → World → Prop} (hE : ∀ e a w,e ≠ .normal → ¬ E e a w) (hQ : ∀ ρ a w st,Rel g N bs ρ a w st → Q st → E .normal a w)
  {T U : List (Nat × List Nat)} (hTU : ∀ x ∈ T,x ∈ U) (hU : closB ops U = true) :
  ∀ (sc : List (Nat × Option (List Nat))) {done : List Nat} {listed : Array Bool} {pend : List (Nat × Value)} {pl : List Nat} {ρ : Nat → Value} {a : Act} {w : World} {st : AS},
   (∀ k l,(k,some l) ∈ sc → (k,l) ∈ T) → schB ops T sc done = true → Lst ops.length done listed → Closed U listed → Blind ops.toArray listed pend → Slots ops done pend a → Obl P ops.toArray T listed pend a w → (∀ p ∈ pend,alive T listed p.1 → p.1 ∈ pl) → (∀ p ∈ pl,∃ o,ops[p]? = some o ∧ quietB o.op = true) →
   Rel g N bs ρ a w st → aSch P L W N ops kp Q sc pl st → wpAnyX P ops.toArray E T sc.length listed pend a w
  | [],done,listed,pend,pl,ρ,a,w,st,_,hsch,hl,_,_,_,_,_,_,R,h => by
    refine ⟨?_,hQ _ _ _ _ R h⟩
    have e : rdyFrom ops.length done 0 ops = [] := by
     simp only [schB] at hsch
     cases hr : rdyFrom ops.length done 0 ops with
     | nil => rfl
     | cons x l => rw [hr] at hsch; cases hsch
    cases hr : Region.ready .any ops.toArray listed with
    | nil => rfl
    | cons j r =>
      have : j ∈ rdyFrom ops.length done 0 ops := (ready_iff hl).1 (by rw [hr]; exact List.mem_cons_self)
      rw [e] at this
      cases this
  | (i,none) :: r,done,listed,pend,pl,ρ,a,w,st,hTs,hsch,hl,hC,hB,hS,hO,hpl,hpq,R,h => by
    have ih := @aSch_snd hL W hW ops hs kp Q E hE hQ T U hTU hU r
    simp only [schB,Bool.and_eq_true] at hsch
    obtain ⟨hi,hrest⟩ := hsch
    simp only [aSch] at h
    split at hi
    · rename_i o ho
      rw [ho] at h
      dsimp only at h
      simp only [Bool.and_eq_true] at hi
      obtain ⟨⟨⟨⟨hm,hf⟩,hbl⟩,hself⟩,hT⟩ := hi
      have hlt : i < ops.length := (List.getElem?_eq_some_iff.1 ho).1
      have hoA : ops.toArray[i]? = some o := by simpa using ho
      have hr : i ∈ Region.ready .any ops.toArray listed := (ready_iff hl).2 (memB_ok.1 hm)
      have hsel := Region.noSelect_spec hs
      have hT' : ∀ l,(i,l) ∈ T → False := by
       intro l hx
       simp only [Bool.not_eq_true',List.any_eq_false] at hT
       have := hT _ hx
       simp at this
      have hself' : ∀ d,o.dst = some d → d ∉ o.looksAt ops.toArray := by
       intro d hd
       rw [hd] at hself
       simp only [Bool.not_eq_true'] at hself
       simpa using looksB_ok hself
      have hfree : ∀ j oj,ops.toArray[j]? = some oj → j ≠ i → listed.getD j true = false → (∀ d,o.dst = some d → oj.dst ≠ some d) ∧ ((∀ e ∈ oj.after,Region.binds .any e = true → e.on ≠ i) → (∀ d,oj.dst = some d → d ∉ o.looksAt ops.toArray) ∧ ∀ d,o.dst = some d → d ∉ oj.looksAt ops.toArray) := by
       intro j oj h1 h2 h3
       have h1' : ops[j]? = some oj := by simpa using h1
       have hlt' : j < ops.length := (List.getElem?_eq_some_iff.1 h1').1
       exact free2B_ok hf j oj h1' (by omega) (by rw [Nat.zero_add,← hl.getF hlt' true]; exact h3)
      have hun : memB i done = false := by
       rw [← hl.getF hlt true]
       exact (mem_ready.1 hr).1
      have hblind : blindB ops done i o 0 ops = true → ∀ j oj,ops.toArray[j]? = some oj → j ≠ i → listed.getD j true = false → ∀ d,oj.dst = some d → d ∉ o.looksAt ops.toArray := by
       intro hbl j oj h1 h2 h3
       have h1' : ops[j]? = some oj := by simpa using h1
       have hlt' : j < ops.length := (List.getElem?_eq_some_iff.1 h1').1
       exact blindB_ok hbl j oj h1' (by omega) (by rw [Nat.zero_add,← hl.getF hlt' true]; exact h3)
      have hClosed' : Closed U (listed.setIfInBounds i true) := by
       intro k l hk hll p hp
       by_cases hki : k = i
       · subst hki
         exact getD_set_true (closB_ok hU k l listed hk hC hr p hp)
       · rw [getD_set_ne false (Ne.symm hki)] at hll
         exact getD_set_true (hC k l hk hll p hp)
      have hal : ∀ p,alive T (listed.setIfInBounds i true) p → alive T listed p := fun p hp k l hk hll => hp k l hk (getD_set_true hll)
      have hal2 : ∀ p,alive T listed p → alive T (listed.setIfInBounds i true) p := fun p hp k l hk hll => by
       by_cases hki : k = i
       · subst hki; exact (hT' l hk).elim
       · rw [getD_set_ne false (Ne.symm hki)] at hll
         exact hp k l hk hll
      have unl : ∀ k,(listed.setIfInBounds i true).getD k true = false → listed.getD k true = false := by
       intro k hk
       by_cases hki : i = k
       · subst hki
         have hsz : i < listed.size := by rw [hl.1]; exact hlt
         simp [hsz] at hk
       · rw [getD_set_ne true hki] at hk; exact hk
      have memi : ∀ k,memB k (i :: done) = false → memB k done = false := by
       intro k hk
       simp only [memB,Bool.or_eq_false_iff] at hk
       exact hk.2
      -- the step: the value v,whether it needs nothing of the memory
      have step : ∀ (v : Value) (pu : Bool) (pl' : List Nat) (ρ' : Nat → Value) (st' : AS),YieldsAt P ops.toArray o v a w → (pu = true → Yields P ops.toArray o v a) → (∀ p ∈ pl,p ∈ pl') → (pu = false → i ∈ pl' ∧ quietB o.op = true ∧ blindB ops done i o 0 ops = true ∧ ∃ d,o.dst = some d ∧ d < N) → (∀ p ∈ pl',∃ o,ops[p]? = some o ∧ quietB o.op = true) → Rel g N bs ρ' (a.put o.dst v) w st' → aSch P L W N ops kp Q r pl' st' → wpAnyX P ops.toArray E T (r.length + 1) listed pend a w := by
       intro v pu pl' ρ' st' hy hpu hsub hin hq' R' h'
       refine wpAnyX_first hoA hsel (fun c a w h => absurd h (hE _ _ _ (by simp))) hT' hTU (fun k l listed hk hC hr => closB_ok hU k l listed hk hC hr) pu r.length listed pend a w hfree hself' hr hC hB hO hy hpu ?_
       have hB' : Blind ops.toArray (listed.setIfInBounds i true) (addP pu (i,v) pend) := by
        intro p hp o' ho' k ok hk hku d hd
        have hku' := unl k hku
        have hki : k ≠ i := by
         rintro rfl
         have hsz : k < listed.size := by rw [hl.1]; exact hlt
         simp [hsz] at hku
        have old : p ∈ pend → d ∉ o'.looksAt ops.toArray := fun hp => hB p hp o' ho' k ok hk hku' d hd
        cases hpu' : pu with
        | true => rw [hpu'] at hp; exact old hp
        | false =>
          rw [hpu'] at hp
          rcases List.mem_cons.1 hp with rfl | hp
          · dsimp only at ho'
            rw [hoA] at ho'
            cases ho'
            exact hblind (hin hpu').2.2.1 k ok hk hki hku' d hd
          · exact old hp
       have hS' : Slots ops (i :: done) (addP pu (i,v) pend) (a.put o.dst v) := by
        intro p hp
        have old : p ∈ pend → ∃ o' d,ops[p.1]? = some o' ∧ quietB o'.op = true ∧ o'.dst = some d ∧ (a.put o.dst v).tmps.getD d undef = p.2 ∧ ∀ k ok,ops[k]? = some ok → memB k (i :: done) = false → ok.dst ≠ some d := by
         intro hp
         obtain ⟨o',d,h1,h2,h3,h4,h5⟩ := hS p hp
         refine ⟨o',d,h1,h2,h3,?_,fun k ok hk hkd => h5 k ok hk (memi k hkd)⟩
         rw [getD_put_ne fun t ht e => h5 i o ho hun (by rw [ht,e])]
         exact h4
        cases hpu' : pu with
        | true => rw [hpu'] at hp; exact old hp
        | false =>
          rw [hpu'] at hp
          rcases List.mem_cons.1 hp with rfl | hp
          · obtain ⟨_,hq,_,d,hd,hdN⟩ := hin hpu'
            refine ⟨o,d,ho,hq,hd,?_,fun k ok hk hkd => ?_⟩
            · rw [hd]
              have : d < a.tmps.size := by rw [R.size]; exact hdN
              simp [Act.put,this]
            · have hlt' : k < ops.length := (List.getElem?_eq_some_iff.1 hk).1
              have hki : k ≠ i := by
               rintro rfl
               simp [memB] at hkd
              exact (hfree k ok (by simpa using hk) hki (by rw [hl.getF hlt' true]; exact memi k hkd)).1 d hd
          · exact old hp
       have hO' : Obl P ops.toArray T (listed.setIfInBounds i true) (addP pu (i,v) pend) (a.put o.dst v) w := by
        intro p hp hap o' ho'
        have old : p ∈ pend → YieldsAt P ops.toArray o' p.2 (a.put o.dst v) w := fun hp =>
         (YieldsAt.put (fun cs b => hsel _ _ cs b ho') fun d hd => hB p hp o' ho' i o hoA (mem_ready.1 hr).1 d hd).2 (hO p hp (hal _ hap) o' ho')
        cases hpu' : pu with
        | true => rw [hpu'] at hp; exact old hp
        | false =>
          rw [hpu'] at hp
          rcases List.mem_cons.1 hp with rfl | hp
          · dsimp only at ho'
            rw [hoA] at ho'
            cases ho'
            exact (YieldsAt.put (fun cs b => hsel _ _ cs b hoA) hself').2 hy
          · exact old hp
       refine ih (fun k l hk => hTs k l (List.mem_cons_of_mem _ hk)) hrest (hl.set hlt) hClosed' hB' hS' hO' ?_ hq' R' h'
       intro p hp hap
       have old : p ∈ pend → p.1 ∈ pl' := fun hp => hsub _ (hpl p hp (hal _ hap))
       cases hpu' : pu with
       | true => rw [hpu'] at hp; exact old hp
       | false =>
         rw [hpu'] at hp
         rcases List.mem_cons.1 hp with rfl | hp
         · exact (hin hpu').1
         · exact old hp
      split at h
      · rename_i hw
        have hwant := wantB_ok R hw
        split at h
        · rename_i hpu
          have go : ∀ d,aop P L W d st o.op (fun x st' => aput N st' o.dst x (aSch P L W N ops kp Q r pl)) → wpAnyX P ops.toArray E T (r.length + 1) listed pend a w := by
           intro d hd
           obtain ⟨x,u,st',ρ',h1,R1,h2,h3⟩ := aop_pure hL R hpu hd
           obtain ⟨st2,k2,R2⟩ := aput_snd R1 h2 h1
           exact step u true pl _ st2 (.inl ⟨hwant,h3 w⟩) (fun _ => .inl ⟨hwant,h3⟩) (fun _ h => h) (fun e => by cases e) hpq R2 k2
          unfold aopD at h
          cases hd : o.dst with
          | none => rw [hd] at h; dsimp only at h; exact go 0 (by rw [hd]; exact h)
          | some d => rw [hd] at h; dsimp only at h; exact go d (by rw [hd]; exact h)
        · rename_i hnp
          have hbl' : blindB ops done i o 0 ops = true := by
           rcases Bool.or_eq_true _ _ ▸ hbl with h1 | h1
           · rw [freeOp_pure h1 L st] at hnp; cases hnp
           · exact h1
          cases hq : quietB o.op with
          | false => rw [hq] at h; exact h.elim
          | true =>
          rw [hq] at h
          dsimp only at h
          unfold aopD at h
          cases hd : o.dst with
          | none =>
            rw [hd] at hself
            cases hself
          | some d =>
            rw [hd] at h
            dsimp only at h
            obtain ⟨x,u,h1,h2,h3⟩ := aop_quiet hL R (o := o) hq h
            have hdN : d < N := by
             unfold aput at h1
             dsimp only at h1
             cases hb : Nat.ble (d + 1) N with
             | false => rw [hb] at h1; exact h1.elim
             | true => exact Nat.le_of_ble_eq_true hb
            obtain ⟨st2,k2,R2⟩ := aput_snd R h2 h1
            exact step u false (i :: pl) ρ st2 (.inl ⟨hwant,h3⟩) (fun e => by cases e) (fun _ h => List.mem_cons_of_mem _ h) (fun _ => ⟨List.mem_cons_self,hq,hbl',d,hd,hdN⟩) (fun p hp => by
             rcases List.mem_cons.1 hp with rfl | hp
             · exact ⟨o,ho,hq⟩
             · exact hpq p hp) (by rw [hd]; exact R2) k2
      · rename_i hw
        have hwant := wantB_ok R hw
        obtain ⟨st2,k2,R2⟩ := aput_snd R (show C2 (cxOf g w ρ st.heap) (.v undef) undef from rfl) h
        exact step undef true pl ρ st2 (.inr ⟨hwant,rfl⟩) (fun _ => .inr ⟨hwant,rfl⟩) (fun _ h => h) (fun e => by cases e) hpq R2 k2
      · exact h.elim
    · cases hi
  | (i,some l) :: r,done,listed,pend,pl,ρ,a,w,st,hTs,hsch,hl,hC,hB,hS,hO,hpl,hpq,R,h => by
    have ih := @aSch_snd hL W hW ops hs kp Q E hE hQ T U hTU hU r
    simp only [schB,Bool.and_eq_true] at hsch
    obtain ⟨hi,hrest⟩ := hsch
    have e := isOne_ok hi
    have hr : i ∈ Region.ready .any ops.toArray listed := (ready_iff hl).2 (by rw [e]; exact List.mem_cons_self)
    refine ⟨fun h0 => (by rw [h0] at hr; cases hr),fun j hj => ?_⟩
    have hji : j = i := by
     have := (ready_iff hl).1 hj
     rw [e] at this
     exact List.mem_singleton.1 this
    subst hji
    simp only [aSch] at h
    split at h
    · rename_i o ho
      have hlt : j < ops.length := (List.getElem?_eq_some_iff.1 ho).1
      have hoA : ops.toArray[j]? = some o := by simpa using ho
      have hsel := Region.noSelect_spec hs
      have hun : memB j done = false := by
       rw [← hl.getF hlt true]
       exact (mem_ready.1 hj).1
      have hjT : (j,l) ∈ T := hTs j l List.mem_cons_self
      have hClosed' : Closed U (listed.setIfInBounds j true) := by
       intro k l hk hll p hp
       by_cases hki : k = j
       · subst hki
         exact getD_set_true (closB_ok hU k l listed hk hC hr p hp)
       · rw [getD_set_ne false (Ne.symm hki)] at hll
         exact getD_set_true (hC k l hk hll p hp)
      have hB' : Blind ops.toArray (listed.setIfInBounds j true) pend := by
       intro p hp o' ho' k ok hk hku d hd
       refine hB p hp o' ho' k ok hk ?_ d hd
       by_cases hki : j = k
       · subst hki; exact (mem_ready.1 hj).1
       · rw [getD_set_ne true hki] at hku; exact hku
      have hsz : j < listed.size := by rw [hl.1]; exact hlt
      have hal : ∀ p,alive T (listed.setIfInBounds j true) p → alive T listed p ∧ p ∉ l := fun p hp => ⟨fun k l hk hll => hp k l hk (getD_set_true hll),hp j l hjT (by simp [hsz])⟩
      -- behind the step
      have fin0 : ∀ (u : Value) (ρ' : Nat → Value) (w' : World) (st' : AS),Rel g N bs ρ' (a.put o.dst u) w' st' → (∀ p ∈ outOf l pl,∀ o2 d,ops[p]? = some o2 → o2.dst = some d → (∀ v,(execOp a.eval o2).run P w = .ok (.value v) w → v = (a.put o.dst u).tmps.getD d undef → (execOp (a.put o.dst u).eval o2 = execOp a.eval o2) → (execOp (a.put o.dst u).eval o2).run P w' = .ok (.value v) w')) → aSch P L W N ops kp Q r (outOf l pl) st' → Obl P ops.toArray T (listed.setIfInBounds j true) pend (a.put o.dst u) w' ∧ wpAnyX P ops.toArray E T r.length (listed.setIfInBounds j true) pend (a.put o.dst u) w' := by
       intro u ρ' w' st' R' hre hK
       have hpq' : ∀ p ∈ outOf l pl,∃ o,ops[p]? = some o ∧ quietB o.op = true := fun p hp => hpq p (outOf_sub hp)
       have hS' : Slots ops (j :: done) pend (a.put o.dst u) := by
        intro p hp
        obtain ⟨o',d,h1,h2,h3,h4,h5⟩ := hS p hp
        refine ⟨o',d,h1,h2,h3,?_,fun k ok hk hkd => h5 k ok hk ?_⟩
        · rw [getD_put_ne fun t ht e => h5 j o ho hun (by rw [ht,e])]
          exact h4
        · simp only [memB,Bool.or_eq_false_iff] at hkd
          exact hkd.2
       have hin : ∀ p ∈ pend,alive T (listed.setIfInBounds j true) p.1 → p.1 ∈ outOf l pl := fun p hp hap => outOf_mem (hpl p hp (hal _ hap).1) (hal _ hap).2
       have hO' : Obl P ops.toArray T (listed.setIfInBounds j true) pend (a.put o.dst u) w' := by
        intro p hp hap o' ho'
        have ho2 : ops[p.1]? = some o' := by simpa using ho'
        obtain ⟨o3,d3,q1,q2,q3,q4,q5⟩ := hS' p hp
        rw [ho2] at q1
        obtain rfl : o' = o3 := by simpa using q1
        have := hO p hp (hal _ hap).1 o' ho'
        have hd' : ∀ d,o.dst = some d → d ∉ o'.looksAt ops.toArray := fun d hd => hB p hp o' ho' j o hoA (mem_ready.1 hj).1 d hd
        have hw' := wanted_put (ops := ops.toArray) o' a o.dst u hd'
        have he' := execOp_put (ops := ops.toArray) o' (fun cs b => hsel _ _ cs b ho') a o.dst u hd'
        rcases this with ⟨h1,h2⟩ | ⟨h1,h2⟩
        · exact .inl ⟨by rw [hw']; exact h1,hre p.1 (hin p hp hap) o' d3 ho2 q3 _ h2 q4.symm he'⟩
        · exact .inr ⟨by rw [hw']; exact h1,h2⟩
       exact ⟨hO',ih (fun k l hk => hTs k l (List.mem_cons_of_mem _ hk)) hrest (hl.set hlt) hClosed' hB' hS' hO' hin hpq' R' hK⟩
      have reOk : ∀ (u : Value) (ρ' : Nat → Value) (w' : World) (st' : AS) (l' : List Nat) {K : Prop},Rel g N bs ρ' (a.put o.dst u) w' st' → (∀ p ∈ l',p ∈ outOf l pl) → reCh P L W N ops l' st' K → K ∧ ∀ p ∈ l',∀ o2 d,ops[p]? = some o2 → o2.dst = some d → (∀ v,(execOp a.eval o2).run P w = .ok (.value v) w → v = (a.put o.dst u).tmps.getD d undef → (execOp (a.put o.dst u).eval o2 = execOp a.eval o2) → (execOp (a.put o.dst u).eval o2).run P w' = .ok (.value v) w') := by
       intro u ρ' w' st' l' K R' hsub hk
       obtain ⟨hK,hre⟩ := reCh_ok hL R' (fun p hp => hpq p (outOf_sub (hsub p hp))) hk
       refine ⟨hK,fun p hp o2 d h1 h2 v _ h4 _ => ?_⟩
       obtain ⟨o3,d3,k1,k2,k3⟩ := hre p hp
       rw [h1] at k1
       obtain rfl : o2 = o3 := by simpa using k1
       rw [h2] at k2
       obtain rfl : d = d3 := by simpa using k2
       rw [k3,h4]
      have fin : ∀ (u : Value) (ρ' : Nat → Value) (w' : World) (st' : AS),Rel g N bs ρ' (a.put o.dst u) w' st' → reCh P L W N ops (outOf l pl) st' (aSch P L W N ops kp Q r (outOf l pl) st') → Obl P ops.toArray T (listed.setIfInBounds j true) pend (a.put o.dst u) w' ∧ wpAnyX P ops.toArray E T r.length (listed.setIfInBounds j true) pend (a.put o.dst u) w' := by
       intro u ρ' w' st' R' hk
       obtain ⟨hK,hre⟩ := reOk u ρ' w' st' _ R' (fun p hp => hp) hk
       exact fin0 u ρ' w' st' R' hre hK
      have finK : ∀ (u : Value) (ρ' : Nat → Value) (w' : World) (st' : AS),Rel g N bs ρ' (a.put o.dst u) w' st' → Below w.heap.size w w' → reCh P L W N ops (noKeep L st ops (outOf l pl)) st' (aSch P L W N ops kp Q r (outOf l pl) st') → Obl P ops.toArray T (listed.setIfInBounds j true) pend (a.put o.dst u) w' ∧ wpAnyX P ops.toArray E T r.length (listed.setIfInBounds j true) pend (a.put o.dst u) w' := by
       intro u ρ' w' st' R' hBw hk
       obtain ⟨hK,hre⟩ := reOk u ρ' w' st' _ R' (fun p hp => noKeep_sub hp) hk
       refine fin0 u ρ' w' st' R' (fun p hp o2 d h1 h2 v h3 h4 h5 => ?_) hK
       rcases noKeep_mem (L := L) (st := st) (ops := ops) hp with hkp | hnk
       · unfold keepB at hkp
         rw [h1] at hkp
         obtain ⟨v',hv'⟩ := keep_load (P := P) hL R (o := o2) hkp
         have e1 := hv' w (Below.refl _ _)
         rw [e1] at h3
         have e2 : v' = v := by simpa using h3
         rw [h5,hv' w' hBw,e2]
       · exact hre p hnk o2 d h1 h2 v h3 h4 h5
      unfold wpOp
      rw [hoA]
      dsimp only
      cases kp with
      | true =>
        dsimp only at h
        unfold aKeep at h
        split at h
        · rename_i hw
          rw [wantB_ok R hw]
          simp only [if_true]
          refine .inl ?_
          split at h
          · rename_i c ec
            split at h
            · rename_i x ex
              split at h
              · rename_i gg caps ev
                rw [nameOf_eq] at h
                refine akeep_snd R ec ex ev h ?_
                intro x st' u ρ' w' hx R' hc hBw
                obtain ⟨st2,h2,R2⟩ := aput_snd R' hc hx
                exact finK u ρ' w' st2 R2 hBw h2
              · exact h.elim
            · exact h.elim
          · exact h.elim
        · rename_i hw
          rw [wantB_ok R hw]
          simp only [Bool.false_eq_true,if_false]
          obtain ⟨st2,k2,R2⟩ := aput_snd R (show C2 (cxOf g w ρ st.heap) (.v undef) undef from rfl) h
          exact finK undef ρ w st2 R2 (Below.refl _ _) k2
        · exact h.elim
      | false =>
        dsimp only at h
        unfold aStep at h
        split at h
        · rename_i hw
          rw [wantB_ok R hw]
          simp only [if_true]
          refine .inl ?_
          have go : ∀ d,aop P L W d st o.op (fun x st' => aput N st' o.dst x (fun st' => reCh P L W N ops (outOf l pl) st' (aSch P L W N ops false Q r (outOf l pl) st'))) → o.wp P a w (fun a' w' => Obl P ops.toArray T (listed.setIfInBounds j true) pend a' w' ∧ wpAnyX P ops.toArray E T r.length (listed.setIfInBounds j true) pend a' w') E := by
           intro d hd
           refine aop_snd hL hW R (d := d) hd ?_
           intro x st' u ρ' w' hx R' hc
           obtain ⟨st2,h2,R2⟩ := aput_snd R' hc hx
           exact fin u ρ' w' st2 R2 h2
          unfold aopD at h
          cases hd : o.dst with
          | none => rw [hd] at h; dsimp only at h; exact go 0 (by rw [hd]; exact h)
          | some d => rw [hd] at h; dsimp only at h; exact go d (by rw [hd]; exact h)
        · rename_i hw
          rw [wantB_ok R hw]
          simp only [Bool.false_eq_true,if_false]
          obtain ⟨st2,k2,R2⟩ := aput_snd R (show C2 (cxOf g w ρ st.heap) (.v undef) undef from rfl) h
          exact fin undef ρ w st2 R2 k2
        · exact h.elim
    · exact h.elim
theorem ADraw.schedG (kp : Bool) (hL : LayOk P L) {W : Walk} (hW : WOk P W) (sc : List (Nat × Option (List Nat))) (U : List (Nat × List Nat)) {id : Nat} {ops : Array Oper} {K : AS → Prop} {st : AS} (hm : P.follows .mixedOrders = true) (hs : (Region.noSelect ops && Nat.beq sc.length ops.size && schedB ops.toList sc U) = true)
  (h : aSch P L W N ops.toList kp K sc [] st) : ADraw P L W N id ops K st := by
 refine .sem fun g bs ρ a w E R hK => ?_
 simp only [Bool.and_eq_true,schedB] at hs
 obtain ⟨⟨hns,hlen⟩,⟨hU,hTU⟩,hsch⟩ := hs
 refine Code.wp_mono (Q := fun e a w => e = .normal ∧ E .normal a w) (fun e a w h => by obtain ⟨rfl,h⟩ := h; exact h) ?_
 have e1 : ops.size = ops.toList.length := by simp
 refine wp_region_any hm ?_
 have hl : Lst ops.toList.length [] (Array.replicate ops.size false) := by
  refine ⟨by simp,fun k hk => ?_⟩
  rw [Array.getElem?_replicate,if_pos (by rw [e1]; exact hk)]
  rfl
 have hnone : ∀ k,(Array.replicate ops.size false).getD k false = false := by
  intro k
  rw [Array.getD_eq_getD_getElem?,Array.getElem?_replicate]
  split <;> rfl
 have R' : Rel g N bs ρ a w.drew st := R.world (Below.refl _ _).drew
 have := aSch_snd (g := g) (bs := bs) (N := N) hL hW (ops := ops.toList) (by simpa using hns) (Q := K) (E := fun e a w => e = .normal ∧ E .normal a w) (fun e a w hne h => hne h.1) (fun ρ a w st R h => ⟨rfl,hK ρ a w st R h⟩) (subT_ok hTU) hU sc (pend := []) (pl := [])
  (fun k l h => actsOf_mem h) hsch hl (fun k l hk hll => by rw [hnone] at hll; cases hll) (fun p hp => by cases hp) (fun p hp => by cases hp) (fun p hp => by cases hp) (fun p hp => by cases hp) (fun p hp => by cases hp) R' h
 have h3 := this.any
 have e2 : sc.length = ops.size := Nat.eq_of_beq_eq_true hlen
 rw [e2] at h3
 simpa using h3
theorem ADraw.sched (hL : LayOk P L) {W : Walk} (hW : WOk P W) (sc : List (Nat × Option (List Nat))) (U : List (Nat × List Nat)) {id : Nat} {ops : Array Oper} {K : AS → Prop} {st : AS} (hm : P.follows .mixedOrders = true) (hs : (Region.noSelect ops && Nat.beq sc.length ops.size && schedB ops.toList sc U) = true)
  (h : aSch P L W N ops.toList false K sc [] st) : ADraw P L W N id ops K st := .schedG false hL hW sc U hm hs h
theorem ADraw.keep (hL : LayOk P L) {W : Walk} (hW : WOk P W) (sc : List (Nat × Option (List Nat))) (U : List (Nat × List Nat)) {id : Nat} {ops : Array Oper} {K : AS → Prop} {st : AS} (hm : P.follows .mixedOrders = true) (hs : (Region.noSelect ops && Nat.beq sc.length ops.size && schedB ops.toList sc U) = true)
  (h : aSch P L W N ops.toList true K sc [] st) : ADraw P L W N id ops K st := .schedG true hL hW sc U hm hs h
end
end Go.Proofs.YtimhagicagdkfaaGreat
