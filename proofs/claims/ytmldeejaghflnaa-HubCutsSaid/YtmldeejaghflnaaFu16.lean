/-
  Contracts of the walk: HbM, HbT, HbW.
-/
import Derived.Test.YtmldeejaghflnaaFu15
import Derived.Test.YtmldeejaghflnaaFu14
/-
 The post: what Push leaves,and answers.
-/
namespace Go.Proofs.Ytmldeejaghflnaa
open Go.RowKit
def pushP (most : Int) (r : Nat) (l : List Ev) (p : Pt) : Pt × Int × Int :=
 if (putS most (p.sh.getD r default) l).2 = 0 then
  (cutP ⟨modN (fun _ => (putS most (p.sh.getD r default) l).1) r p.sh,p.told⟩ r,(cutS (putS most (p.sh.getD r default) l).1 (leastP p.told r)).len,0)
 else (p,0,(putS most (p.sh.getD r default) l).2)
theorem putS_err {most : Int} {s : Shf} {l : List Ev} (h : (putS most s l).2 ≠ 0) : (putS most s l).1 = s := by
 revert h
 unfold putS
 split <;> (try split) <;> (try split) <;> simp
theorem ALoop.cnt {body : (AExit → AS → Prop) → AS → Prop} {Q : AExit → AS → Prop} {sl : List (Nat × AV)} {h : List (Nat × AO)} {bk : List (List (Nat × AV))} {b : Nat} (t n : Nat) (h0 : LeR [] ⟨(t, .v (.int .i64 0)) :: sl,h,bk,b⟩ ⟨(t, .v (.int .i64 ((0 : Nat) : Int))) :: sl,h,bk,b⟩)
  (hb : ∀ x : { j : Nat // j ≤ n },body (fun e st' => match e with | .normal => ∃ (y : { j : Nat // j ≤ n }) (σ : List (Nat × Nat)),LeR σ st' ⟨(t, .v (.int .i64 (y.1 : Int))) :: sl,h,bk,b⟩ ∧ n - y.1 < n - x.1 | .exit i => Q (.exit i) st' | .ret => Q .ret st') ⟨(t, .v (.int .i64 (x.1 : Int))) :: sl,h,bk,b⟩) : ALoop body Q ⟨(t, .v (.int .i64 0)) :: sl,h,bk,b⟩ :=
 ALoop.mk { j : Nat // j ≤ n } (fun j => ⟨(t, .v (.int .i64 (j.1 : Int))) :: sl,h,bk,b⟩) (fun j => n - j.1) ⟨0,Nat.zero_le _⟩ [] h0 hb
structure EvB (l : List Ev) : Prop where
 h : l.length ≤ 1000000
 n : ∀ j,0 ≤ (l.getD j default).n ∧ (l.getD j default).n ≤ 1000000000
set_option maxHeartbeats 16000000 in
set_option maxRecDepth 100000 in
theorem pt_push_err (most : Int) (p : Pt) (r : Nat) (hp : PtB p) (hr : r < p.sh.length) (l : List Ev) (x : Int) (hl : EvB l) (hs : ShB (p.sh.getD r default)) (hall : ∀ j,j < l.length → (l.getD j default).r = (r : Int)) (hput : putS most (p.sh.getD r default) l = (p.sh.getD r default,x)) (hx : x ≠ 0) :
  MSpec Try.prog 37 (ptH most p ()) [.box 0 0, .v (.int .i64 (r : Int)), .sl 12 l.length true (evF l)] (.tup [.v (.int .i64 0), .v (.int .i64 x)]) (ptH most p ()) := by
 refine Pt.casesR (C := fun p r => (ShB (p.sh.getD r default)) → (∀ j,j < l.length → (l.getD j default).r = (r : Int)) → (putS most (p.sh.getD r default) l = (p.sh.getD r default,x)) → (x ≠ 0) → MSpec Try.prog 37 (ptH most p ()) [.box 0 0, .v (.int .i64 (r : Int)), .sl 12 l.length true (evF l)] (.tup [.v (.int .i64 0), .v (.int .i64 x)]) (ptH most p ())) p r hp hr ?_ ?_ ?_ ?_ ?_ ?_ ?_ ?_ ?_ ?_ ?_ ?_ ?_ ?_ ?_ hs hall hput hx
 all_goals
  intros
  rename_i hs hall hput hx
  dsimp only [ptH,ptB,clRow,ptrs,shs,List.length,List.getD_cons_zero,List.getD_cons_succ] at *
  refine mspec_of lay_ok 68736763591 40 Try.func37 rfl rfl rfl ?_
  repeat' ((conv => whnf); first | refine K1.a ?_ | refine K1.b ?_ | refine K1.c ?_ | refine K1.d ?_ | refine K1.e ?_ | refine K1.f ?_ | refine ACall.into 19 _ _ Try.func66 rfl rfl rfl ?_ | refine Spl.yes (by decide) ?_ | refine Spl.no (by decide) ?_ | refine Spl.mk (fun _ => ?_) (fun _ => ?_) | refine SNil.mk (fun _ => ?_) ?_ | refine K1.g ?_ | refine ASl.frz ?_ | refine Wr.b64 ?_ | refine Wr.bu64 ?_ | refine Wr.bu32 ?_ | refine Wr.bu8 ?_ | refine K1.u8 ?_ | refine K1.u64 ?_ | refine K1.u32 ?_ | refine K1.h ?_ | refine K1.i ?_ | refine K1.q ?_ | refine K1.j ?_ | refine K1.k ?_ | refine BSpl.dec (fun _ => ?_) (fun _ => ?_) | refine K1.l ?_ | refine K1.n ?_ | refine BSpl.mk (fun _ => ?_) (fun _ => ?_))
  conv => whnf
  refine ALoop.cnt 17 l.length ?_ ?_
  · refine LeR.mk' [] _ _ _ rfl ?_ ?_ rfl
    all_goals repeat' first | exact trivial | refine ⟨AEq.refl _,?_⟩ | refine ⟨⟨_,rfl,OEq.refl _⟩,?_⟩
  have hlh := hl.h
  rintro ⟨j,hj⟩
  dsimp only
  by_cases hjl : j < l.length
  · have hr := hall j hjl
    rw [show j = (j : Int).toNat by omega] at hr
    repeat' ((conv => whnf); first | refine K1.a ?_ | refine K1.b ?_ | refine K1.c ?_ | refine K1.d ?_ | refine K1.e ?_ | refine K1.f ?_ | refine Spl.mk (fun _ => ?_) (fun _ => ?_) | refine SNil.mk (fun _ => ?_) ?_ | refine K1.g ?_ | refine ASl.frz ?_ | refine Wr.b64 ?_ | refine Wr.bu64 ?_ | refine Wr.bu32 ?_ | refine Wr.bu8 ?_ | refine K1.u8 ?_ | refine K1.u64 ?_ | refine K1.u32 ?_ | refine K1.h ?_ | refine K1.i ?_ | refine K1.q ?_ | refine K1.j ?_ | refine K1.k ?_ | refine BSpl.dec (fun _ => ?_) (fun _ => ?_) | refine K1.l ?_ | refine K1.n ?_ | refine BSpl.mk (fun _ => ?_) (fun _ => ?_))
    all_goals (conv => whnf)
    refine ⟨⟨j + 1,hjl⟩,[],LeR.mk' [] _ _ _ rfl ?_ ?_ rfl,by show l.length - (j + 1) < l.length - j; omega⟩
    all_goals repeat' first | exact trivial | refine ⟨AEq.refl _,?_⟩ | refine ⟨⟨_,rfl,OEq.refl _⟩,?_⟩
  · have hput' := sh_put_m _ _ _ _ _ hs.b0 hs.b1 hs.k hl.h hl.n hput
    repeat' ((conv => whnf); first | refine K1.a ?_ | refine K1.b ?_ | refine K1.c ?_ | refine K1.d ?_ | refine K1.e ?_ | refine K1.f ?_ | refine ACall.chgR 1 [(0,_)] (hput') rfl ⟨rfl,trivial⟩ rfl rfl ?_ | refine InA.mk (by decide) ?_ | refine Spl.mk (fun _ => ?_) (fun _ => ?_) | refine SNil.mk (fun _ => ?_) ?_ | refine K1.g ?_ | refine ASl.frz ?_ | refine Wr.b64 ?_ | refine Wr.bu64 ?_ | refine Wr.bu32 ?_ | refine Wr.bu8 ?_ | refine K1.u8 ?_ | refine K1.u64 ?_ | refine K1.u32 ?_ | refine K1.h ?_ | refine K1.i ?_ | refine K1.q ?_ | refine K1.j ?_ | refine K1.k ?_ | refine BSpl.dec (fun _ => ?_) (fun _ => ?_) | refine K1.l ?_ | refine K1.n ?_ | refine BSpl.mk (fun _ => ?_) (fun _ => ?_))
    all_goals (conv => whnf)
    refine ⟨[],rfl,rfl,?_,rfl,rfl,AEq.refl _⟩
    repeat' first | exact trivial | refine ⟨⟨_,rfl,OEq.refl _⟩,?_⟩
set_option maxHeartbeats 16000000 in
set_option maxRecDepth 100000 in
theorem pt_push_ok (most : Int) (p : Pt) (r : Nat) (hp : PtB p) (hr : r < p.sh.length) (l : List Ev) (s' : Shf) (hl : EvB l) (hs : ShB (p.sh.getD r default)) (hall : ∀ j,j < l.length → (l.getD j default).r = (r : Int)) (hput : putS most (p.sh.getD r default) l = (s',0)) (hc : MSpec Try.prog 68 (ptH most ⟨modN (fun _ => s') r p.sh,p.told⟩ ()) [.box 0 0, .v (.int .i64 (r : Int))] (.tup []) (ptH most (cutP ⟨modN (fun _ => s') r p.sh,p.told⟩ r) ())) (hln : MSpec Try.prog 42 [(0, .obs (shO most (cutS s' (leastP p.told r))))] [.box 0 0] (.v (.int .i64 (cutS s' (leastP p.told r)).len)) [(0, .obs (shO most (cutS s' (leastP p.told r))))]) :
  MSpec Try.prog 37 (ptH most p ()) [.box 0 0, .v (.int .i64 (r : Int)), .sl 12 l.length true (evF l)] (.tup [.v (.int .i64 (cutS s' (leastP p.told r)).len), .v (.int .i64 0)]) (ptH most (cutP ⟨modN (fun _ => s') r p.sh,p.told⟩ r) ()) := by
 refine Pt.casesR (C := fun p r => (ShB (p.sh.getD r default)) → (∀ j,j < l.length → (l.getD j default).r = (r : Int)) → (putS most (p.sh.getD r default) l = (s',0)) → (MSpec Try.prog 68 (ptH most ⟨modN (fun _ => s') r p.sh,p.told⟩ ()) [.box 0 0, .v (.int .i64 (r : Int))] (.tup []) (ptH most (cutP ⟨modN (fun _ => s') r p.sh,p.told⟩ r) ())) → (MSpec Try.prog 42 [(0, .obs (shO most (cutS s' (leastP p.told r))))] [.box 0 0] (.v (.int .i64 (cutS s' (leastP p.told r)).len)) [(0, .obs (shO most (cutS s' (leastP p.told r))))]) → MSpec Try.prog 37 (ptH most p ()) [.box 0 0, .v (.int .i64 (r : Int)), .sl 12 l.length true (evF l)] (.tup [.v (.int .i64 (cutS s' (leastP p.told r)).len), .v (.int .i64 0)]) (ptH most (cutP ⟨modN (fun _ => s') r p.sh,p.told⟩ r) ())) p r hp hr ?_ ?_ ?_ ?_ ?_ ?_ ?_ ?_ ?_ ?_ ?_ ?_ ?_ ?_ ?_ hs hall hput hc hln
 all_goals
  intros
  rename_i hs hall hput hc hln
  dsimp only [ptH,ptB,clRow,ptrs,shs,List.length,cutP,modN,List.getD_cons_zero,List.getD_cons_succ] at *
  refine mspec_of lay_ok 68736763591 40 Try.func37 rfl rfl rfl ?_
  repeat' ((conv => whnf); first | refine K1.a ?_ | refine K1.b ?_ | refine K1.c ?_ | refine K1.d ?_ | refine K1.e ?_ | refine K1.f ?_ | refine ACall.into 19 _ _ Try.func66 rfl rfl rfl ?_ | refine Spl.yes (by decide) ?_ | refine Spl.no (by decide) ?_ | refine Spl.mk (fun _ => ?_) (fun _ => ?_) | refine SNil.mk (fun _ => ?_) ?_ | refine K1.g ?_ | refine ASl.frz ?_ | refine Wr.b64 ?_ | refine Wr.bu64 ?_ | refine Wr.bu32 ?_ | refine Wr.bu8 ?_ | refine K1.u8 ?_ | refine K1.u64 ?_ | refine K1.u32 ?_ | refine K1.h ?_ | refine K1.i ?_ | refine K1.q ?_ | refine K1.j ?_ | refine K1.k ?_ | refine BSpl.dec (fun _ => ?_) (fun _ => ?_) | refine K1.l ?_ | refine K1.n ?_ | refine BSpl.mk (fun _ => ?_) (fun _ => ?_))
  conv => whnf
  refine ALoop.cnt 17 l.length ?_ ?_
  · refine LeR.mk' [] _ _ _ rfl ?_ ?_ rfl
    all_goals repeat' first | exact trivial | refine ⟨AEq.refl _,?_⟩ | refine ⟨⟨_,rfl,OEq.refl _⟩,?_⟩
  have hlh := hl.h
  rintro ⟨j,hj⟩
  dsimp only
  by_cases hjl : j < l.length
  · have hr := hall j hjl
    rw [show j = (j : Int).toNat by omega] at hr
    repeat' ((conv => whnf); first | refine K1.a ?_ | refine K1.b ?_ | refine K1.c ?_ | refine K1.d ?_ | refine K1.e ?_ | refine K1.f ?_ | refine Spl.mk (fun _ => ?_) (fun _ => ?_) | refine SNil.mk (fun _ => ?_) ?_ | refine K1.g ?_ | refine ASl.frz ?_ | refine Wr.b64 ?_ | refine Wr.bu64 ?_ | refine Wr.bu32 ?_ | refine Wr.bu8 ?_ | refine K1.u8 ?_ | refine K1.u64 ?_ | refine K1.u32 ?_ | refine K1.h ?_ | refine K1.i ?_ | refine K1.q ?_ | refine K1.j ?_ | refine K1.k ?_ | refine BSpl.dec (fun _ => ?_) (fun _ => ?_) | refine K1.l ?_ | refine K1.n ?_ | refine BSpl.mk (fun _ => ?_) (fun _ => ?_))
    all_goals (conv => whnf)
    refine ⟨⟨j + 1,hjl⟩,[],LeR.mk' [] _ _ _ rfl ?_ ?_ rfl,by show l.length - (j + 1) < l.length - j; omega⟩
    all_goals repeat' first | exact trivial | refine ⟨AEq.refl _,?_⟩ | refine ⟨⟨_,rfl,OEq.refl _⟩,?_⟩
  · have hput' := sh_put_m _ _ _ _ _ hs.b0 hs.b1 hs.k hl.h hl.n hput
    repeat' ((conv => whnf); first | refine K1.a ?_ | refine K1.b ?_ | refine K1.c ?_ | refine K1.d ?_ | refine K1.e ?_ | refine K1.f ?_ | refine ACall.chgR 1 [(0,_)] (hput') rfl ⟨rfl,trivial⟩ rfl rfl ?_ | refine ACall.chgR 99 [(0,_),(10,_),(11,_),(20,_)] (hc) rfl ⟨rfl,rfl,rfl,rfl,trivial⟩ rfl rfl ?_ | refine ACall.chgR 99 [(0,_),(10,_),(11,_),(20,_),(21,_)] (hc) rfl ⟨rfl,rfl,rfl,rfl,rfl,trivial⟩ rfl rfl ?_ | refine ACall.chgR 99 [(0,_),(10,_),(11,_),(20,_),(21,_),(22,_)] (hc) rfl ⟨rfl,rfl,rfl,rfl,rfl,rfl,trivial⟩ rfl rfl ?_ | refine ACall.chgR 99 [(0,_),(10,_),(11,_),(20,_),(21,_),(22,_),(23,_)] (hc) rfl ⟨rfl,rfl,rfl,rfl,rfl,rfl,rfl,trivial⟩ rfl rfl ?_ | refine ACall.chgR 99 [(0,_),(10,_),(11,_),(20,_),(21,_),(22,_),(23,_),(24,_)] (hc) rfl ⟨rfl,rfl,rfl,rfl,rfl,rfl,rfl,rfl,trivial⟩ rfl rfl ?_ | refine ACall.chgR 1 [(0,_)] (hln) rfl ⟨rfl,trivial⟩ rfl rfl ?_ | refine InA.mk (by decide) ?_ | refine Spl.mk (fun _ => ?_) (fun _ => ?_) | refine SNil.mk (fun _ => ?_) ?_ | refine K1.g ?_ | refine ASl.frz ?_ | refine Wr.b64 ?_ | refine Wr.bu64 ?_ | refine Wr.bu32 ?_ | refine Wr.bu8 ?_ | refine K1.u8 ?_ | refine K1.u64 ?_ | refine K1.u32 ?_ | refine K1.h ?_ | refine K1.i ?_ | refine K1.q ?_ | refine K1.j ?_ | refine K1.k ?_ | refine BSpl.dec (fun _ => ?_) (fun _ => ?_) | refine K1.l ?_ | refine K1.n ?_ | refine BSpl.mk (fun _ => ?_) (fun _ => ?_))
    all_goals (conv => whnf)
    refine ⟨[],rfl,rfl,?_,rfl,rfl,AEq.refl _⟩
    repeat' first | exact trivial | refine ⟨⟨_,rfl,OEq.refl _⟩,?_⟩
theorem pt_cut_h (most : Int) (p : Pt) (r : Nat) (hp : PtB p) (hr : r < p.sh.length) : MSpec Try.prog 68 (ptH most p ()) [.box 0 0, .v (.int .i64 (r : Int))] (.tup []) (ptH most (cutP p r) ()) := by
 refine Pt.casesR (C := fun p r => MSpec Try.prog 68 (ptH most p ()) [.box 0 0, .v (.int .i64 (r : Int))] (.tup []) (ptH most (cutP p r) ())) p r hp hr ?_ ?_ ?_ ?_ ?_ ?_ ?_ ?_ ?_ ?_ ?_ ?_ ?_ ?_ ?_
 · intro s0 t0 g0
   exact pt_cut_1_0 most s0 t0 g0
 · intro s0 s1 t0 t1 g0 g1
   exact pt_cut_2_0 most s0 s1 t0 t1 g0
 · intro s0 s1 t0 t1 g0 g1
   exact pt_cut_2_1 most s0 s1 t0 t1 g1
 · intro s0 s1 s2 t0 t1 t2 g0 g1 g2
   exact pt_cut_3_0 most s0 s1 s2 t0 t1 t2 g0
 · intro s0 s1 s2 t0 t1 t2 g0 g1 g2
   exact pt_cut_3_1 most s0 s1 s2 t0 t1 t2 g1
 · intro s0 s1 s2 t0 t1 t2 g0 g1 g2
   exact pt_cut_3_2 most s0 s1 s2 t0 t1 t2 g2
 · intro s0 s1 s2 s3 t0 t1 t2 t3 g0 g1 g2 g3
   exact pt_cut_4_0 most s0 s1 s2 s3 t0 t1 t2 t3 g0
 · intro s0 s1 s2 s3 t0 t1 t2 t3 g0 g1 g2 g3
   exact pt_cut_4_1 most s0 s1 s2 s3 t0 t1 t2 t3 g1
 · intro s0 s1 s2 s3 t0 t1 t2 t3 g0 g1 g2 g3
   exact pt_cut_4_2 most s0 s1 s2 s3 t0 t1 t2 t3 g2
 · intro s0 s1 s2 s3 t0 t1 t2 t3 g0 g1 g2 g3
   exact pt_cut_4_3 most s0 s1 s2 s3 t0 t1 t2 t3 g3
 · intro s0 s1 s2 s3 s4 t0 t1 t2 t3 t4 g0 g1 g2 g3 g4
   exact pt_cut_5_0 most s0 s1 s2 s3 s4 t0 t1 t2 t3 t4 g0
 · intro s0 s1 s2 s3 s4 t0 t1 t2 t3 t4 g0 g1 g2 g3 g4
   exact pt_cut_5_1 most s0 s1 s2 s3 s4 t0 t1 t2 t3 t4 g1
 · intro s0 s1 s2 s3 s4 t0 t1 t2 t3 t4 g0 g1 g2 g3 g4
   exact pt_cut_5_2 most s0 s1 s2 s3 s4 t0 t1 t2 t3 t4 g2
 · intro s0 s1 s2 s3 s4 t0 t1 t2 t3 t4 g0 g1 g2 g3 g4
   exact pt_cut_5_3 most s0 s1 s2 s3 s4 t0 t1 t2 t3 t4 g3
 · intro s0 s1 s2 s3 s4 t0 t1 t2 t3 t4 g0 g1 g2 g3 g4
   exact pt_cut_5_4 most s0 s1 s2 s3 s4 t0 t1 t2 t3 t4 g4
theorem modN_len {α : Type} (f : α → α) : ∀ (r : Nat) (l : List α),(modN f r l).length = l.length
  | r,[] => by cases r <;> rfl
  | 0,_ :: _ => rfl
  | r + 1,x :: l => by show (modN f r l).length + 1 = _; rw [modN_len f r l]; rfl
theorem modN_mem {α : Type} {f : α → α} : ∀ {r : Nat} {l : List α} {y : α},y ∈ modN f r l → y ∈ l ∨ ∃ x ∈ l,y = f x
  | r,[],_,h => by cases r <;> cases h
  | 0,x :: l,y,h => by
    rcases List.mem_cons.1 h with rfl | h
    · exact .inr ⟨x,List.mem_cons_self,rfl⟩
    · exact .inl (List.mem_cons_of_mem _ h)
  | r + 1,x :: l,y,h => by
    rcases List.mem_cons.1 h with rfl | h
    · exact .inl List.mem_cons_self
    · rcases modN_mem h with h | ⟨z,hz,rfl⟩
      · exact .inl (List.mem_cons_of_mem _ h)
      · exact .inr ⟨z,List.mem_cons_of_mem _ hz,rfl⟩
theorem PtB.get {p : Pt} (hp : PtB p) {r : Nat} (hr : r < p.sh.length) : ShB (p.sh.getD r default) := hp.s _ (by rw [List.getD,List.getElem?_eq_getElem hr]; exact List.getElem_mem hr)
theorem PtB.set {p : Pt} (hp : PtB p) {s : Shf} (hs : ShB s) (r : Nat) : PtB ⟨modN (fun _ => s) r p.sh,p.told⟩ :=
 ⟨by rw [modN_len]; exact hp.h1,by rw [modN_len]; exact hp.h5,by rw [modN_len]; exact hp.t,fun x hx => by
  rcases modN_mem hx with h | ⟨_,_,rfl⟩
  · exact hp.s _ h
  · exact hs⟩
theorem cutP_B {p : Pt} (hp : PtB p) (r : Nat) : PtB (cutP p r) :=
 ⟨by show 1 ≤ (modN _ _ _).length; rw [modN_len]; exact hp.h1,by show (modN _ _ _).length ≤ 5; rw [modN_len]; exact hp.h5,by show _ = (modN _ _ _).length; rw [modN_len]; exact hp.t,fun x hx => by
  rcases modN_mem hx with h | ⟨y,hy,rfl⟩
  · exact hp.s _ h
  · exact cutS_B (hp.s _ hy) _⟩
theorem pt_push_m (most : Int) (p p' : Pt) (r : Nat) (hp : PtB p) (hr : r < p.sh.length) (l : List Ev) (hl : EvB l) (hall : ∀ j,j < l.length → (l.getD j default).r = (r : Int)) (hs : ShB (putS most (p.sh.getD r default) l).1) (u x : Int) (h : pushP most r l p = (p',u,x)) :
  MSpec Try.prog 37 [(0, .obs (ptO most p))] [.box 0 0, .v (.int .i64 (r : Int)), .sl 12 l.length true (evF l)] (.tup [.v (.int .i64 u), .v (.int .i64 x)]) [(0, .obs (ptO most p'))] := by
 refine pt_opn (ho := []) ⟨_,_,Try.func37,rfl,rfl⟩ ?_ rfl
 rw [List.append_nil]
 obtain ⟨⟨s',y⟩,hput⟩ : ∃ q,putS most (p.sh.getD r default) l = q := ⟨_,rfl⟩
 unfold pushP at h
 rw [hput] at h hs
 by_cases hy : y = 0
 · subst hy
   rw [if_pos rfl] at h
   cases h
   exact pt_push_ok most p r hp hr l s' hl (hp.get hr) hall hput (pt_cut_h most _ r (hp.set hs r) (by show r < (modN _ _ _).length; rw [modN_len]; exact hr)) (sh_len_b most _ (cutS_B hs _))
 · have he : s' = p.sh.getD r default := by have := putS_err (most := most) (s := p.sh.getD r default) (l := l) (by rw [hput]; exact hy); rw [hput] at this; exact this
   rw [if_neg hy] at h
   cases h
   rw [he] at hput
   exact pt_push_err most p r hp hr l y hl (hp.get hr) hall hput hy
end Go.Proofs.Ytmldeejaghflnaa

/-
 The hub: Crash and Start: what its disk says.
-/
namespace Go.Proofs.Ytmldeejaghflnaa
open Go.RowKit
def hbG (i j : Nat) (h : Hb) : List (Nat × AO) := [(0,hbB h.up h.c (.box 8 0) (.box j 0)),(8,dkB (.own i) h.d),(i,bRow h.d.bs),(j, .obs (ptO h.c.w h.p))]
theorem hb_closeG (i j : Nat) (h : Hb) : Closes (hbG i j h) 0 (hbO h) :=
 Closes.imp (hb_close h) fun X hnd hok => by
  have h0 := hok _ List.mem_cons_self
  have h8 := hok (8,dkB (.own i) h.d) (by simp [hbG])
  have h9 := hok (j, .obs (ptO h.c.w h.p)) (by simp [hbG])
  have h11 := hok (i,bRow h.d.bs) (by simp [hbG])
  have e : blocksOf (atV (atV X.ρ 10 (X.ρ i)) 9 (X.ρ j)) (hbH h ()) = blocksOf X.ρ (hbG i j h) := rfl
  refine ⟨atV (atV X.ρ 10 (X.ρ i)) 9 (X.ρ j),rfl,by rw [e]; exact hnd,fun b hb => by rw [e] at hb; exact hb,fun q hq => ?_⟩
  simp only [hbH,List.mem_cons,List.not_mem_nil,or_false] at hq
  rcases hq with rfl | rfl | rfl | rfl
  · obtain ⟨b,us,g1,g2,g3,g4⟩ := h0
    exact ⟨b,us,g1,g2,g3,fun i x u hx hu => by
     match i,hx with
     | 0,hx => cases hx; exact g4 0 _ u rfl hu
     | 1,hx => cases hx; exact g4 1 _ u rfl hu
     | 2,hx => cases hx; exact g4 2 _ u rfl hu
     | 3,hx => cases hx; exact g4 3 _ u rfl hu
     | 4,hx => cases hx; exact g4 4 _ u rfl hu
     | 5,hx => cases hx; exact g4 5 _ u rfl hu
     | 6,hx => cases hx; exact g4 6 _ u rfl hu
     | 7,hx => cases hx; exact g4 7 _ u rfl hu
     | 8,hx => cases hx; exact g4 8 _ u rfl hu⟩
  · obtain ⟨b,us,g1,g2,g3,g4⟩ := h8
    exact ⟨b,us,g1,g2,g3,fun i x u hx hu => by
     match i,hx with
     | 0,hx => cases hx; exact g4 0 _ u rfl hu
     | 1,hx => cases hx; exact g4 1 _ u rfl hu
     | 2,hx => cases hx; exact g4 2 _ u rfl hu
     | 3,hx => cases hx; exact g4 3 _ u rfl hu⟩
  · exact h11
  · exact h9
theorem hb_opnG (i j : Nat) {f : FuncId} {h h' : Hb} {avs : List AV} {r : AV} {ho : List (Nat × AO)} (hE : Enters Try.prog f) (hm : MSpec Try.prog f (hbH h ()) avs r (hbG i j h' ++ ho))
  (hb : (avs.all (refQ1 (fun _ => false) 0) && refQ2 (fun i => hasN i ho) 0 r && closedH ho ho && !(hasN 0 ho)) = true) : MSpec Try.prog f [(0, .obs (hbO h))] avs r ((0, .obs (hbO h')) :: ho) :=
 MSpec.opn hE (Opens.pack (hbH h)) (fun _ => ⟨_,hb_closeG i j h',rfl,rfl,hm⟩) hb
def stepP (most : Int) (p : Pt) (x : Rc) : Pt := if x.k = 5 then (pushP most x.r.toNat x.ev p).1 else if x.k = 6 then ackP p x.r.toNat x.c else p
def replay (most : Int) (n : Nat) (l : List Rc) : Pt := l.foldl (stepP most) (pt0 n)
structure RcG (most : Int) (p : Pt) (x : Rc) : Prop where
 k : x.k = 5 ∨ x.k = 6
 r0 : 0 ≤ x.r
 r : x.r.toNat < p.sh.length
 ev : EvB x.ev
 all : x.k = 5 → ∀ j,j < x.ev.length → (x.ev.getD j default).r = x.r
 put : x.k = 5 → ShB (putS most (p.sh.getD x.r.toNat default) x.ev).1
def Chain (most : Int) : Pt → List Rc → Prop
  | _,[] => True
  | p,x :: l => RcG most p x ∧ Chain most (stepP most p x) l
theorem cutAll_len (told : List Clk) : ∀ (l : List Shf) (i : Nat),(cutAll told i l).length = l.length
  | [],_ => rfl
  | s :: l,i => by show (cutAll told (i + 1) l).length + 1 = _; rw [cutAll_len told l]; rfl
theorem cutAll_B (told : List Clk) : ∀ (l : List Shf) (i : Nat),(∀ s ∈ l,ShB s) → ∀ s ∈ cutAll told i l,ShB s
  | [],_,_,s,hs => by cases hs
  | x :: l,i,h,s,hs => by
    rcases List.mem_cons.1 hs with rfl | hs
    · exact cutS_B (h x List.mem_cons_self) _
    · exact cutAll_B told l (i + 1) (fun y hy => h y (List.mem_cons_of_mem _ hy)) s hs
theorem ackP_B {p : Pt} (hp : PtB p) (r : Nat) (c : Clk) : PtB (ackP p r c) ∧ (ackP p r c).sh.length = p.sh.length := by
 have h1 : (ackP p r c).sh.length = p.sh.length := cutAll_len _ _ _
 exact ⟨⟨by rw [h1]; exact hp.h1,by rw [h1]; exact hp.h5,by rw [h1]; show (modN _ _ _).length = _; rw [modN_len]; exact hp.t,cutAll_B _ _ _ hp.s⟩,h1⟩
theorem pushP_B {most : Int} {p : Pt} (hp : PtB p) {r : Nat} {l : List Ev} (hs : ShB (putS most (p.sh.getD r default) l).1) : PtB (pushP most r l p).1 ∧ (pushP most r l p).1.sh.length = p.sh.length := by
 unfold pushP
 split
 · exact ⟨cutP_B (hp.set hs r) r,by show (modN _ _ (modN _ _ _)).length = _; rw [modN_len,modN_len]⟩
 · exact ⟨hp,rfl⟩
theorem stepP_B {most : Int} {p : Pt} (hp : PtB p) {x : Rc} (hx : RcG most p x) : PtB (stepP most p x) ∧ (stepP most p x).sh.length = p.sh.length := by
 unfold stepP
 split
 · rename_i h; exact pushP_B hp (hx.put h)
 · split
   · exact ackP_B hp _ _
   · exact ⟨hp,rfl⟩
theorem pt0_B {n : Nat} (h1 : 1 ≤ n) (h5 : n ≤ 5) : PtB (pt0 n) ∧ (pt0 n).sh.length = n := by
 have e : (pt0 n).sh.length = n := List.length_replicate
 refine ⟨⟨by rw [e]; exact h1,by rw [e]; exact h5,by rw [e]; exact List.length_replicate,fun s hs => ?_⟩,e⟩
 obtain rfl := List.eq_of_mem_replicate hs
 exact ⟨by simp,by simp⟩
theorem chain_at {most : Int} : ∀ {l : List Rc} {p : Pt},PtB p → Chain most p l → ∀ j,j < l.length → PtB ((l.take j).foldl (stepP most) p) ∧ ((l.take j).foldl (stepP most) p).sh.length = p.sh.length ∧ RcG most ((l.take j).foldl (stepP most) p) (l.getD j default)
  | [],_,_,_,j,hj => by simp at hj
  | x :: l,p,hp,hc,0,_ => ⟨hp,rfl,hc.1⟩
  | x :: l,p,hp,hc,j + 1,hj => by
    have h1 := stepP_B hp hc.1
    have := chain_at h1.1 hc.2 j (by simpa using hj)
    rw [h1.2] at this
    exact this
theorem fold_snoc {most : Int} {l : List Rc} {p : Pt} {j : Nat} (hj : j < l.length) : (l.take (j + 1)).foldl (stepP most) p = stepP most ((l.take j).foldl (stepP most) p) (l.getD j default) := by
 rw [List.take_succ_eq_append_getElem hj,List.foldl_append]
 simp [List.getD,hj]
set_option maxHeartbeats 16000000 in
set_option maxRecDepth 100000 in
theorem hb_start_m (h : Hb) (n : Nat) (hn : h.c.n = (n : Int)) (h1 : 1 ≤ n) (h5 : n ≤ 5) (hup : h.up = false) (l : List Rc) (t : List UInt8) (hr : Recs h.d.bs l t) (hc : Chain h.c.w (pt0 n) l) (hl : h.d.bs.length ≤ 1000000000) :
  MSpec Try.prog 18 [(0, .obs (hbO h))] [.box 0 0] (.v (.int .i64 0)) [(0, .obs (hbO ⟨true,h.c,replay h.c.w n l,⟨rcsB l,false,false,h.d.keep⟩⟩))] := by
 refine hb_opnG 11 12 (ho := []) ⟨_,_,Try.func18,rfl,rfl⟩ ?_ rfl
 rw [List.append_nil]
 have hnew := pt_new_m h.c n hn h1 h5
 have hcl := fun d => clone_own d h.d.bs (IsB.bytes _) rfl hl
 have hall := all_spec h.d.bs (IsB.bytes _) rfl hl hr
 have hbl : (rcsB l).length ≤ h.d.bs.length := by rw [hr.eq,List.length_append]; omega
 have htk : h.d.bs.take (rcsB l).length = rcsB l := by conv => lhs; rw [hr.eq]
                                                       rw [List.take_left]
 have htr := dk_trim_m ⟨h.d.bs,false,false,h.d.keep⟩ (rcsB l).length hbl hl
 dsimp only at htr
 rw [htk] at htr
 have hll := rcsB_len l
 obtain ⟨up,cf,p,d⟩ := h
 obtain ⟨bs,down,cut,keep⟩ := d
 obtain ⟨cn,cw,cq,ch,cl,cp⟩ := cf
 dsimp only [hbH,hbG,hbB,dkB,bRow,Cfg.av,Cfg.cs] at *
 subst hup
 generalize rcsB l = w at *
 refine mspec_of lay_ok 1100348391957 40 Try.func18 rfl rfl rfl ?_
 repeat' ((conv => whnf); first | refine K1.a ?_ | refine K1.b ?_ | refine K1.c ?_ | refine K1.d ?_ | refine K1.e ?_ | refine K1.f ?_ | refine ACall.chgR 0 [] (hnew) rfl trivial rfl rfl ?_ | refine ACall.fresh _ _ _ _ _ _ _ (hcl _) (SubL.cons (.eq _) .nil) rfl ?_ | refine ACall.plain _ _ (hall) (SubL.cons (.eq _) .nil) rfl ?_ | refine ACall.chgR 2 [(0,_),(1,_)] (htr) rfl ⟨rfl,rfl,trivial⟩ rfl rfl ?_ | refine ACall.into 133 _ _ Try.func33 rfl rfl rfl ?_ | refine ACall.into 61 _ _ Try.func36 rfl rfl rfl ?_ | refine ACall.into 1 _ _ Try.func62 rfl rfl rfl ?_ | refine ACall.into 5 _ _ Try.func64 rfl rfl rfl ?_ | refine Spl.mk (fun _ => ?_) (fun _ => ?_) | refine SNil.mk (fun _ => ?_) ?_ | refine K1.g ?_ | refine ASl.frz ?_ | refine Wr.b64 ?_ | refine Wr.bu64 ?_ | refine Wr.bu32 ?_ | refine Wr.bu8 ?_ | refine K1.u8 ?_ | refine K1.u64 ?_ | refine K1.u32 ?_ | refine K1.h ?_ | refine K1.i ?_ | refine K1.q ?_ | refine ADraw.sched (id := 9) lay_ok (awp_snd lay_ok _) [(0,none),(1,none),(2,none),(3,none),(4,none),(5,none),(6,none),(7,none),(8,some [7,5,3,1])] [(2,[1]),(3,[1]),(8,[7,5,3,1])] follows_ok (by kernel_rfl) ?_ | refine ADraw.sched (id := 11) lay_ok (awp_snd lay_ok _) [(0,none),(1,none),(2,none),(3,none),(4,none),(5,none),(6,none),(7,none),(8,some [7,5,3,1])] [(2,[1]),(3,[1]),(8,[7,5,3,1])] follows_ok (by kernel_rfl) ?_ | refine K1.j ?_ | refine K1.k ?_ | refine BSpl.dec (fun _ => ?_) (fun _ => ?_) | refine K1.l ?_ | refine K1.n ?_ | refine BSpl.mk (fun _ => ?_) (fun _ => ?_))
 all_goals (conv => whnf)
 refine ALoop.mk { j : Nat // j ≤ l.length } (fun j => ⟨[(23, .v (.int .i64 (j.1 : Int))),(22, .v (.int .i64 (l.length : Int))),(21, .sl 9 l.length false (rcF l)),(0, .box 0 0),(2, .v (.int .i64 0))],
   [(8, .box 117 [.own 42, .v (.bool false), .v (.bool false), .v (.int .i64 keep)]),(42, .row 5 1 w.length true (bytesF w)),(40, .obs (ptO cw ((l.take j.1).foldl (stepP cw) (pt0 n)))),(0, .box 63 [.v (.bool false), .box 8 0, .v (.int .i64 cn), .v (.int .i64 cw), .v (.int .i64 cq), .v (.int .i64 ch), .v (.int .i64 cl), .v (.int .i64 cp), .box 40 0])],
   [[(0, .box 0 0),(1, .box 8 0),(2, .own 10),(3, .own 9)]],50⟩) (fun j => l.length - j.1) ⟨0,Nat.zero_le _⟩ _
  (LeR.mk' [] _ _ _ rfl ⟨AEq.int rfl,AEq.refl _,AEq.refl _,AEq.refl _,AEq.refl _,trivial⟩ ⟨⟨_,rfl,OEq.refl _⟩,⟨_,rfl,OEq.refl _⟩,⟨_,rfl,OEq.refl _⟩,⟨_,rfl,OEq.refl _⟩,trivial⟩ rfl) ?_
 rintro ⟨j,hj⟩
 dsimp only
 by_cases hjl : j < l.length
 · obtain ⟨hpb,hpl,hG⟩ := chain_at (pt0_B h1 h5).1 hc j hjl
   have hsn := fold_snoc (most := cw) (p := pt0 n) hjl
   rw [show l.getD j default = l.getD (j : Int).toNat default from rfl] at hG hsn
   generalize (l.take j).foldl (stepP cw) (pt0 n) = q at hpb hpl hG hsn ⊢
   have hr0 := hG.r0
   have hrr : (((l.getD (j : Int).toNat default).r.toNat : Nat) : Int) = (l.getD (j : Int).toNat default).r := by omega
   rcases hG.k with hk | hk
   · obtain ⟨⟨p',u,y⟩,hp⟩ : ∃ z,pushP cw (l.getD (j : Int).toNat default).r.toNat (l.getD (j : Int).toNat default).ev q = z := ⟨_,rfl⟩
     have hpush := pt_push_m cw q p' _ hpb hG.r _ hG.ev (fun i hi => by rw [hrr]; exact hG.all hk i hi) (hG.put hk) u y hp
     rw [hrr] at hpush
     have hst : stepP cw q (l.getD (j : Int).toNat default) = p' := by unfold stepP; rw [if_pos hk,hp]
     rw [hst] at hsn
     repeat' ((conv => whnf); first | refine K1.a ?_ | refine K1.b ?_ | refine K1.c ?_ | refine K1.d ?_ | refine K1.e ?_ | refine K1.f ?_ | refine ACall.chgR 1 [(0,_)] (hpush) rfl ⟨rfl,trivial⟩ rfl rfl ?_ | refine Spl.mk (fun _ => ?_) (fun _ => ?_) | refine SNil.mk (fun _ => ?_) ?_ | refine K1.g ?_ | refine ASl.frz ?_ | refine Wr.b64 ?_ | refine Wr.bu64 ?_ | refine Wr.bu32 ?_ | refine Wr.bu8 ?_ | refine K1.u8 ?_ | refine K1.u64 ?_ | refine K1.u32 ?_ | refine K1.h ?_ | refine K1.i ?_ | refine K1.q ?_ | refine ADraw.sched (id := 9) lay_ok (awp_snd lay_ok _) [(0,none),(1,none),(2,none),(3,none),(4,none),(5,none),(6,none),(7,none),(8,some [7,5,3,1])] [(2,[1]),(3,[1]),(8,[7,5,3,1])] follows_ok (by kernel_rfl) ?_ | refine ADraw.sched (id := 11) lay_ok (awp_snd lay_ok _) [(0,none),(1,none),(2,none),(3,none),(4,none),(5,none),(6,none),(7,none),(8,some [7,5,3,1])] [(2,[1]),(3,[1]),(8,[7,5,3,1])] follows_ok (by kernel_rfl) ?_ | refine K1.j ?_ | refine K1.k ?_ | refine BSpl.dec (fun _ => ?_) (fun _ => ?_) | refine K1.l ?_ | refine K1.n ?_ | refine BSpl.mk (fun _ => ?_) (fun _ => ?_))
     all_goals (conv => whnf)
     refine ⟨⟨j + 1,hjl⟩,_,LeR.mk' [] _ _ _ rfl ⟨AEq.int rfl,AEq.refl _,AEq.refl _,AEq.refl _,AEq.refl _,trivial⟩ ⟨⟨_,rfl,OEq.refl _⟩,⟨_,rfl,OEq.refl _⟩,⟨_,rfl,?_⟩,⟨_,rfl,OEq.refl _⟩,trivial⟩ rfl,by show l.length - (j + 1) < l.length - j; omega⟩
     show OEq _ (.obs (ptO cw ((l.take (j + 1)).foldl (stepP cw) (pt0 n))))
     rw [hsn]
     exact OEq.refl _
   · have hack := pt_ack_m cw q hpb _ (l.getD (j : Int).toNat default).c hG.r
     rw [hrr] at hack
     have hst : stepP cw q (l.getD (j : Int).toNat default) = ackP q (l.getD (j : Int).toNat default).r.toNat (l.getD (j : Int).toNat default).c := by unfold stepP; rw [if_neg (by omega),if_pos hk]
     rw [hst] at hsn
     dsimp only [clC] at hack
     repeat' ((conv => whnf); first | refine K1.a ?_ | refine K1.b ?_ | refine K1.c ?_ | refine K1.d ?_ | refine K1.e ?_ | refine K1.f ?_ | refine ACall.chgR 1 [(0,_)] (hack) rfl ⟨rfl,trivial⟩ rfl rfl ?_ | refine Spl.mk (fun _ => ?_) (fun _ => ?_) | refine SNil.mk (fun _ => ?_) ?_ | refine K1.g ?_ | refine ASl.frz ?_ | refine Wr.b64 ?_ | refine Wr.bu64 ?_ | refine Wr.bu32 ?_ | refine Wr.bu8 ?_ | refine K1.u8 ?_ | refine K1.u64 ?_ | refine K1.u32 ?_ | refine K1.h ?_ | refine K1.i ?_ | refine K1.q ?_ | refine ADraw.sched (id := 9) lay_ok (awp_snd lay_ok _) [(0,none),(1,none),(2,none),(3,none),(4,none),(5,none),(6,none),(7,none),(8,some [7,5,3,1])] [(2,[1]),(3,[1]),(8,[7,5,3,1])] follows_ok (by kernel_rfl) ?_ | refine ADraw.sched (id := 11) lay_ok (awp_snd lay_ok _) [(0,none),(1,none),(2,none),(3,none),(4,none),(5,none),(6,none),(7,none),(8,some [7,5,3,1])] [(2,[1]),(3,[1]),(8,[7,5,3,1])] follows_ok (by kernel_rfl) ?_ | refine K1.j ?_ | refine K1.k ?_ | refine BSpl.dec (fun _ => ?_) (fun _ => ?_) | refine K1.l ?_ | refine K1.n ?_ | refine BSpl.mk (fun _ => ?_) (fun _ => ?_))
     all_goals (conv => whnf)
     refine ⟨⟨j + 1,hjl⟩,_,LeR.mk' [] _ _ _ rfl ⟨AEq.int rfl,AEq.refl _,AEq.refl _,AEq.refl _,AEq.refl _,trivial⟩ ⟨⟨_,rfl,OEq.refl _⟩,⟨_,rfl,OEq.refl _⟩,⟨_,rfl,?_⟩,⟨_,rfl,OEq.refl _⟩,trivial⟩ rfl,by show l.length - (j + 1) < l.length - j; omega⟩
     show OEq _ (.obs (ptO cw ((l.take (j + 1)).foldl (stepP cw) (pt0 n))))
     rw [hsn]
     exact OEq.refl _
 · obtain rfl : j = l.length := by omega
   rw [List.take_length]
   repeat' ((conv => whnf); first | refine K1.a ?_ | refine K1.b ?_ | refine K1.c ?_ | refine K1.d ?_ | refine K1.e ?_ | refine K1.f ?_ | refine Spl.mk (fun _ => ?_) (fun _ => ?_) | refine SNil.mk (fun _ => ?_) ?_ | refine K1.g ?_ | refine ASl.frz ?_ | refine Wr.b64 ?_ | refine Wr.bu64 ?_ | refine Wr.bu32 ?_ | refine Wr.bu8 ?_ | refine K1.u8 ?_ | refine K1.u64 ?_ | refine K1.u32 ?_ | refine K1.h ?_ | refine K1.i ?_ | refine K1.q ?_ | refine ADraw.sched (id := 9) lay_ok (awp_snd lay_ok _) [(0,none),(1,none),(2,none),(3,none),(4,none),(5,none),(6,none),(7,none),(8,some [7,5,3,1])] [(2,[1]),(3,[1]),(8,[7,5,3,1])] follows_ok (by kernel_rfl) ?_ | refine ADraw.sched (id := 11) lay_ok (awp_snd lay_ok _) [(0,none),(1,none),(2,none),(3,none),(4,none),(5,none),(6,none),(7,none),(8,some [7,5,3,1])] [(2,[1]),(3,[1]),(8,[7,5,3,1])] follows_ok (by kernel_rfl) ?_ | refine K1.j ?_ | refine K1.k ?_ | refine BSpl.dec (fun _ => ?_) (fun _ => ?_) | refine K1.l ?_ | refine K1.n ?_ | refine BSpl.mk (fun _ => ?_) (fun _ => ?_))
   all_goals (conv => whnf)
   exact ⟨[(42,11),(40,12)],rfl,rfl,⟨⟨_,rfl,OEq.refl _⟩,⟨_,rfl,OEq.refl _⟩,⟨_,rfl,OEq.refl _⟩,⟨_,rfl,OEq.refl _⟩,trivial⟩,rfl,rfl,AEq.refl _⟩
theorem hb_start_up (h : Hb) (hup : h.up = true) : MSpec Try.prog 18 [(0, .obs (hbO h))] [.box 0 0] (.v (.int .i64 19)) [(0, .obs (hbO h))] := by
 refine hb_opn (ho := []) ⟨_,_,Try.func18,rfl,rfl⟩ ?_ rfl
 rw [List.append_nil]
 obtain ⟨up,c,p,d⟩ := h
 dsimp only at hup
 subst hup
 dsimp only [hbH,hbB,dkB,bRow]
 refine mspec_of lay_ok 1100348391957 40 Try.func18 rfl rfl rfl ?_
 repeat' ((conv => whnf); first | refine K1.a ?_ | refine K1.b ?_ | refine K1.c ?_ | refine K1.d ?_ | refine K1.e ?_ | refine K1.f ?_ | refine Spl.mk (fun _ => ?_) (fun _ => ?_) | refine SNil.mk (fun _ => ?_) ?_ | refine K1.g ?_ | refine ASl.frz ?_ | refine Wr.b64 ?_ | refine Wr.bu64 ?_ | refine Wr.bu32 ?_ | refine Wr.bu8 ?_ | refine K1.u8 ?_ | refine K1.u64 ?_ | refine K1.u32 ?_ | refine K1.h ?_ | refine K1.i ?_ | refine K1.q ?_ | refine ADraw.sched (id := 9) lay_ok (awp_snd lay_ok _) [(0,none),(1,none),(2,none),(3,none),(4,none),(5,none),(6,none),(7,none),(8,some [7,5,3,1])] [(2,[1]),(3,[1]),(8,[7,5,3,1])] follows_ok (by kernel_rfl) ?_ | refine ADraw.sched (id := 11) lay_ok (awp_snd lay_ok _) [(0,none),(1,none),(2,none),(3,none),(4,none),(5,none),(6,none),(7,none),(8,some [7,5,3,1])] [(2,[1]),(3,[1]),(8,[7,5,3,1])] follows_ok (by kernel_rfl) ?_ | refine K1.j ?_ | refine K1.k ?_ | refine BSpl.dec (fun _ => ?_) (fun _ => ?_) | refine K1.l ?_ | refine K1.n ?_ | refine BSpl.mk (fun _ => ?_) (fun _ => ?_))
 all_goals (conv => whnf)
 exact ⟨[],rfl,rfl,⟨⟨_,rfl,OEq.refl _⟩,⟨_,rfl,OEq.refl _⟩,⟨_,rfl,OEq.refl _⟩,⟨_,rfl,OEq.refl _⟩,trivial⟩,rfl,rfl,AEq.refl _⟩
end Go.Proofs.Ytmldeejaghflnaa

/-
 Plain Lean: what shelves and posts are like,whatever comes.
-/
namespace Go.Proofs.Ytmldeejaghflnaa
structure ShG (w : Int) (r : Nat) (s : Shf) : Prop where
 b : ShB s
 k : (s.kept.length : Int) ≤ w
 may : ∀ e ∈ s.kept,mayE e = 0
 own : ∀ e ∈ s.kept,e.r = (r : Int)
 seq : ∀ j,j < s.kept.length → (s.kept.getD j default).n = s.base + 1 + (j : Int)
structure PtG (w : Int) (p : Pt) : Prop where
 h1 : 1 ≤ p.sh.length
 h5 : p.sh.length ≤ 5
 t : p.told.length = p.sh.length
 s : ∀ r,r < p.sh.length → ShG w r (p.sh.getD r default)
theorem PtG.b {w : Int} {p : Pt} (h : PtG w p) : PtB p := ⟨h.h1,h.h5,h.t,fun s hs => by
 obtain ⟨i,hi,rfl⟩ := List.getElem_of_mem hs
 have := (h.s i hi).b
 rwa [List.getD,List.getElem?_eq_getElem hi] at this⟩
theorem getD_mem {α : Type} {l : List α} {i : Nat} {d : α} (h : i < l.length) : l.getD i d ∈ l := by
 rw [List.getD,List.getElem?_eq_getElem h]; exact List.getElem_mem h
theorem dw_drop (p : Ev → Bool) : ∀ l : List Ev,∃ k,k ≤ l.length ∧ l.dropWhile p = l.drop k ∧ (∀ i,i < k → p (l.getD i default) = true) ∧ (k < l.length → p (l.getD k default) = false)
  | [] => ⟨0,Nat.le_refl _,rfl,fun i hi => absurd hi (Nat.not_lt_zero i),fun h => absurd h (Nat.not_lt_zero _)⟩
  | e :: l => by
    cases hp : p e with
    | true =>
      obtain ⟨k,h1,h2,h3,h4⟩ := dw_drop p l
      refine ⟨k + 1,Nat.succ_le_succ h1,by rw [List.dropWhile_cons_of_pos hp,h2]; rfl,fun i hi => ?_,fun h => h4 (Nat.lt_of_succ_lt_succ h)⟩
      cases i with
      | zero => exact hp
      | succ i => exact h3 i (Nat.lt_of_succ_lt_succ hi)
    | false => exact ⟨0,Nat.zero_le _,by rw [List.dropWhile_cons_of_neg (by rw [hp]; simp)]; rfl,fun i hi => absurd hi (Nat.not_lt_zero i),fun _ => hp⟩
theorem new_at {s : Shf} {l : List Ev} (hok : ∀ j,j < l.length → okAt s l j) : ∃ k,k ≤ l.length ∧ newS s l = l.drop k ∧ ∀ i,k + i < l.length → (l.getD (k + i) default).n = s.len + 1 + (i : Int) := by
 obtain ⟨k,h1,h2,h3,h4⟩ := dw_drop (fun e => decide (e.n ≤ s.len)) l
 refine ⟨k,h1,h2,fun i => ?_⟩
 induction i with
 | zero =>
   intro hk
   have hn : s.len < (l.getD k default).n := by have := h4 hk; simpa using this
   have hok := hok k hk
   unfold okAt at hok
   show (l.getD k default).n = s.len + 1 + ((0 : Nat) : Int)
   by_cases h0 : k = 0
   · subst h0
     rw [if_pos rfl] at hok
     omega
   · rw [if_neg h0] at hok
     have := h3 (k - 1) (by omega)
     simp only [decide_eq_true_eq] at this
     omega
 | succ i ih =>
   intro hk
   have hok := hok (k + (i + 1)) hk
   have ih := ih (by omega)
   unfold okAt at hok
   rw [if_neg (by omega),show k + (i + 1) - 1 = k + i by omega,ih] at hok
   rw [hok]
   omega
theorem put_G {w : Int} {r : Nat} {s : Shf} {l : List Ev} (hs : ShG w r s) (hl : ∀ e ∈ l,mayE e = 0 ∧ e.r = (r : Int)) : ShG w r (putS w s l).1 := by
 unfold putS
 split
 · rename_i hall
   split
   · exact hs
   · split
     · exact hs
     · rename_i hne hw
       have hok : ∀ j,j < l.length → okAt s l j := fun j hj => by
        have := List.all_eq_true.1 hall j (List.mem_range.2 hj)
        simpa using this
       obtain ⟨k,hk,he,hq⟩ := new_at hok
       have hmem : ∀ e ∈ newS s l,e ∈ l := fun e h => by rw [he] at h; exact List.mem_of_mem_drop h
       have hlen : (newS s l).length = l.length - k := by rw [he,List.length_drop]
       have hkl : k < l.length := by
        rcases Nat.lt_or_ge k l.length with h | h
        · exact h
        · exact absurd (by rw [he,List.drop_of_length_le h]) hne
       have hlast := hq (l.length - 1 - k) (by omega)
       rw [show k + (l.length - 1 - k) = l.length - 1 by omega] at hlast
       have hm := (mayE_zero (hl _ (getD_mem (d := default) (show l.length - 1 < l.length by omega))).1).n2
       have hsl : s.len = s.base + (s.kept.length : Int) := rfl
       refine ⟨⟨hs.b.b0,?_⟩,?_,?_,?_,?_⟩
       · show s.base + ((s.kept ++ newS s l).length : Int) ≤ 1048576
         rw [List.length_append,hlen]
         omega
       · show ((s.kept ++ newS s l).length : Int) ≤ w
         rw [List.length_append]
         omega
       · intro e h
         rcases List.mem_append.1 h with h | h
         · exact hs.may e h
         · exact (hl e (hmem e h)).1
       · intro e h
         rcases List.mem_append.1 h with h | h
         · exact hs.own e h
         · exact (hl e (hmem e h)).2
       · intro j hj
         show ((s.kept ++ newS s l).getD j default).n = s.base + 1 + (j : Int)
         have hj : j < (s.kept ++ newS s l).length := hj
         rw [List.length_append,hlen] at hj
         by_cases hjk : j < s.kept.length
         · rw [List.getD_eq_getElem?_getD,List.getElem?_append_left hjk,← List.getD_eq_getElem?_getD]
           exact hs.seq j hjk
         · rw [List.getD_eq_getElem?_getD,List.getElem?_append_right (by omega),he,List.getElem?_drop,← List.getD_eq_getElem?_getD,hq (j - s.kept.length) (by omega)]
           omega
 · exact hs
theorem cutS_len (s : Shf) (n : Int) : (cutS s n).len = s.len := by
 have hc := cutN_in s.base s.kept.length n (by omega)
 show cutN s.base s.kept.length n + ((s.kept.drop _).length : Int) = s.base + (s.kept.length : Int)
 rw [List.length_drop]
 omega
theorem cutS_G {w : Int} {r : Nat} {s : Shf} (hs : ShG w r s) (n : Int) : ShG w r (cutS s n) := by
 have hc := cutN_in s.base s.kept.length n (by omega)
 have hk := hs.k
 refine ⟨cutS_B hs.b n,?_,fun e h => hs.may e (List.mem_of_mem_drop h),fun e h => hs.own e (List.mem_of_mem_drop h),fun j hj => ?_⟩
 · show ((s.kept.drop _).length : Int) ≤ w
   rw [List.length_drop]
   omega
 · have hj : j < (s.kept.drop (cutN s.base s.kept.length n - s.base).toNat).length := hj
   rw [List.length_drop] at hj
   show ((s.kept.drop (cutN s.base s.kept.length n - s.base).toNat).getD j default).n = cutN s.base s.kept.length n + 1 + (j : Int)
   rw [List.getD_eq_getElem?_getD,List.getElem?_drop,← List.getD_eq_getElem?_getD,hs.seq _ (by omega)]
   omega
theorem modN_get {α : Type} {f : α → α} {d : α} : ∀ {r : Nat} {l : List α} {i : Nat},i < l.length → (modN f r l).getD i d = if i = r then f (l.getD i d) else l.getD i d
  | r,[],i,h => by simp at h
  | 0,x :: l,0,_ => by simp [modN]
  | 0,x :: l,i + 1,_ => by simp [modN]
  | r + 1,x :: l,0,_ => by simp [modN]
  | r + 1,x :: l,i + 1,h => by
    have := modN_get (f := f) (d := d) (r := r) (l := l) (i := i) (by simpa using h)
    simpa [modN] using this
theorem cutAll_get (told : List Clk) {d : Shf} : ∀ {l : List Shf} {i j : Nat},j < l.length → (cutAll told i l).getD j d = cutS (l.getD j d) (leastP told (i + j))
  | [],i,j,h => by simp at h
  | s :: l,i,0,_ => by simp [cutAll]
  | s :: l,i,j + 1,h => by
    have := cutAll_get told (d := d) (l := l) (i := i + 1) (j := j) (by simpa using h)
    rw [show i + 1 + j = i + (j + 1) by omega] at this
    simpa [cutAll] using this
theorem PtG.set {w : Int} {p : Pt} (h : PtG w p) {r : Nat} {s : Shf} (hs : ShG w r s) : PtG w ⟨modN (fun _ => s) r p.sh,p.told⟩ := by
 refine ⟨by rw [modN_len]; exact h.h1,by rw [modN_len]; exact h.h5,by rw [modN_len]; exact h.t,fun i hi => ?_⟩
 dsimp only at hi ⊢
 rw [modN_len] at hi
 rw [modN_get hi]
 split
 · rename_i e; rw [e]; exact hs
 · exact h.s i hi
theorem cutP_G {w : Int} {p : Pt} (h : PtG w p) (r : Nat) : PtG w (cutP p r) := by
 have hl : (cutP p r).sh.length = p.sh.length := modN_len _ _ _
 refine ⟨by rw [hl]; exact h.h1,by rw [hl]; exact h.h5,by rw [hl]; exact h.t,fun i hi => ?_⟩
 rw [hl] at hi
 show ShG w i ((modN _ r p.sh).getD i default)
 rw [modN_get hi]
 split
 · exact cutS_G (h.s i hi) _
 · exact h.s i hi
theorem ackP_G {w : Int} {p : Pt} (h : PtG w p) (r : Nat) (c : Clk) : PtG w (ackP p r c) := by
 have hb := ackP_B h.b r c
 refine ⟨hb.1.h1,hb.1.h5,hb.1.t,fun i hi => ?_⟩
 rw [hb.2] at hi
 show ShG w i ((cutAll _ 0 p.sh).getD i default)
 rw [cutAll_get _ hi]
 exact cutS_G (h.s i hi) _
theorem pushP_G {w : Int} {p : Pt} (h : PtG w p) {r : Nat} (hr : r < p.sh.length) {l : List Ev} (hl : ∀ e ∈ l,mayE e = 0 ∧ e.r = (r : Int)) : PtG w (pushP w r l p).1 := by
 unfold pushP
 split
 · exact cutP_G (h.set (put_G (h.s r hr) hl)) r
 · exact h
theorem pushP_len {w : Int} {p : Pt} {r : Nat} {l : List Ev} (h : (pushP w r l p).2.2 = 0) : (pushP w r l p).2.1 = (putS w (p.sh.getD r default) l).1.len := by
 unfold pushP at h ⊢
 split
 · exact cutS_len _ _
 · rename_i hne
   rw [if_neg hne] at h
   exact absurd h hne
theorem pt0_G {w : Int} (hw : 0 ≤ w) {n : Nat} (h1 : 1 ≤ n) (h5 : n ≤ 5) : PtG w (pt0 n) := by
 obtain ⟨hb,e⟩ := pt0_B h1 h5
 refine ⟨hb.h1,hb.h5,hb.t,fun r hr => ?_⟩
 rw [e] at hr
 have he : (pt0 n).sh.getD r default = ⟨0,[]⟩ := by
  show (List.replicate n (⟨0,[]⟩ : Shf)).getD r default = _
  rw [List.getD_eq_getElem?_getD,List.getElem?_replicate,if_pos hr]
  rfl
 rw [he]
 exact ⟨⟨by simp,by simp⟩,by simpa using hw,(fun e h => by simp at h),(fun e h => by simp at h),fun j hj => by simp at hj⟩
theorem fetchG_may {w : Int} {r : Nat} {c : Clk} : ∀ {l : List Shf} {i : Nat},(∀ s ∈ l,(s.kept.length : Int) ≤ w ∧ ∀ e ∈ s.kept,mayE e = 0) → ((fetchG r c i l).length : Int) ≤ w * l.length ∧ ∀ e ∈ fetchG r c i l,mayE e = 0
  | [],_,_ => ⟨by simp [fetchG],fun e h => by simp [fetchG] at h⟩
  | s :: l,i,h => by
    have ih := fetchG_may (w := w) (r := r) (c := c) (l := l) (i := i + 1) fun x hx => h x (List.mem_cons_of_mem _ hx)
    have h0 := h s List.mem_cons_self
    have hf := List.length_filter_le (overN (c.get i)) s.kept
    have hw : 0 ≤ w := by omega
    refine ⟨?_,fun e he => ?_⟩
    · show ((_ ++ fetchG r c (i + 1) l).length : Int) ≤ w * ((l.length + 1 : Nat) : Int)
      rw [List.length_append,Int.natCast_add,Int.natCast_add,Int.mul_add]
      have h1 := ih.1
      have : (((if (i : Nat) = r then [] else s.kept.filter (overN (c.get i)) : List Ev).length : Nat) : Int) ≤ w := by
       split
       · simpa using hw
       · omega
      simp only [Int.natCast_one,Int.mul_one]
      omega
    · rcases List.mem_append.1 he with he | he
      · split at he
        · simp at he
        · exact h0.2 e (List.mem_filter.1 he).1
      · exact ih.2 e he
end Go.Proofs.Ytmldeejaghflnaa
