/-
  Contracts of the walk: HbK.
-/
import Derived.Test.YtmldeejaghflnaaFu7
/-
 The post: what cut and Ack leave.
-/
namespace Go.Proofs.Ytmldeejaghflnaa
open Go.RowKit
def mnI (a b : Int) : Int := if b < a then b else a
def mxI' (a b : Int) : Int := if b > a then b else a
def Clk.jn (a b : Clk) : Clk := ⟨mxI' a.c0 b.c0,mxI' a.c1 b.c1,mxI' a.c2 b.c2,mxI' a.c3 b.c3,mxI' a.c4 b.c4⟩
def Clk.at (c : Clk) : Nat → Int
  | 0 => c.c0
  | 1 => c.c1
  | 2 => c.c2
  | 3 => c.c3
  | _ => c.c4
def leastF (s : Nat) : Int → List Clk → Int
  | a,[] => a
  | a,c :: l => leastF s (mnI a (c.at s)) l
def leastP (told : List Clk) (s : Nat) : Int := leastF s ((told.headD clk0).at s) told
def modN {α : Type} (f : α → α) : Nat → List α → List α
  | _,[] => []
  | 0,x :: l => f x :: l
  | i + 1,x :: l => x :: modN f i l
def cutP (p : Pt) (s : Nat) : Pt := ⟨modN (fun x => cutS x (leastP p.told s)) s p.sh,p.told⟩
def cutAll (told : List Clk) : Nat → List Shf → List Shf
  | _,[] => []
  | i,s :: l => cutS s (leastP told i) :: cutAll told (i + 1) l
def ackP (p : Pt) (r : Nat) (c : Clk) : Pt := ⟨cutAll (modN (fun t => t.jn c) r p.told) 0 p.sh,modN (fun t => t.jn c) r p.told⟩
def InLe : List (Nat × AO) → List (Nat × AO) → Prop
  | [],[] => True
  | p :: l,q :: m => p.1 = q.1 ∧ OEq p.2 q.2 ∧ InLe l m
  | _,_ => False
theorem InLe.blocks {ρ : Nat → Value} : ∀ {h g : List (Nat × AO)},InLe h g → blocksOf ρ h = blocksOf ρ g
  | [],[],_ => rfl
  | p :: l,q :: m,h => by rw [blocks_cons,blocks_cons,h.1,InLe.blocks h.2.2]
theorem InLe.ok {X : CX} : ∀ {h g : List (Nat × AO)},InLe h g → (∀ p ∈ h,ObjOk X p.1 p.2) → ∀ p ∈ g,ObjOk X p.1 p.2
  | [],[],_,_,_,hp => by cases hp
  | p :: l,q :: m,h,hi,x,hx => by
    rcases List.mem_cons.1 hx with rfl | hx
    · rw [← h.1]; exact h.2.1 _ _ (hi p List.mem_cons_self)
    · exact InLe.ok h.2.2 (fun y hy => hi y (List.mem_cons_of_mem _ hy)) x hx
theorem InLe.mem : ∀ {h g : List (Nat × AO)},InLe h g → ∀ p ∈ h,∃ q ∈ g,q.1 = p.1
  | [],[],_,_,hp => by cases hp
  | p :: l,q :: m,h,x,hx => by
    rcases List.mem_cons.1 hx with rfl | hx
    · exact ⟨q,List.mem_cons_self,h.1.symm⟩
    · obtain ⟨y,h1,h2⟩ := InLe.mem h.2.2 x hx; exact ⟨y,List.mem_cons_of_mem _ h1,h2⟩
theorem MSpec.ins {P : Program} {f : FuncId} {hin hin' : List (Nat × AO)} {avs : List AV} {r : AV} {hout : List (Nat × AO)} (h : MSpec P f hin avs r hout) (hi : InLe hin' hin) : MSpec P f hin' avs r hout := by
 refine ⟨h.1,fun w keep ρ args a1 a2 a3 a4 a5 => ?_⟩
 have e := hi.blocks (ρ := ρ)
 rw [e] at a3 a4 ⊢
 refine (h.2 w keep ρ args a1 (hi.ok a2) a3 a4 a5).mono ?_
 rintro x w' ⟨u,ρ',h1,h2,h3,h4⟩
 exact ⟨u,ρ',h1,h2,fun p hp q hq hqp => by
  obtain ⟨p',hp',he⟩ := hi.mem p hp
  rw [← he] at hqp ⊢
  exact h3 p' hp' q hq hqp,h4⟩
def updF (i : Nat) (F : Nat → List AV) (c : List AV) : Nat → List AV := fun m => bif m.beq i then c else F m
theorem cutS_B {s : Shf} (h : ShB s) (n : Int) : ShB (cutS s n) := by
 have hc := cutN_in s.base s.kept.length n (by omega)
 have := h.b0; have := h.ln
 exact ⟨by show 0 ≤ cutN _ _ _; omega,by
  show cutN _ _ _ + ((s.kept.drop _).length : Int) ≤ _
  rw [List.length_drop]; omega⟩
set_option maxRecDepth 100000 in
theorem cjoin_spec (a b : Clk) : ASpec Try.prog 69 [.agg (clC a), .agg (clC b)] (.agg (clC (a.jn b))) [] := by
 dsimp only [clC,Clk.jn]
 refine aspec_of lay_ok 255 Try.func69 rfl rfl rfl ?_
 repeat' ((conv => whnf); first | refine K1.a ?_ | refine K1.b ?_ | refine K1.c ?_ | refine K1.d ?_ | refine K1.e ?_ | refine K1.f ?_ | refine ALoop.rounds 6 ?_ | refine ARet.hdI ?_ | refine Spl.mk (fun _ => ?_) (fun _ => ?_) | refine SNil.mk (fun _ => ?_) ?_ | refine K1.g ?_ | refine ASl.frz ?_ | refine Wr.b64 ?_ | refine Wr.bu64 ?_ | refine Wr.bu32 ?_ | refine Wr.bu8 ?_ | refine K1.u8 ?_ | refine K1.u64 ?_ | refine K1.u32 ?_ | refine K1.h ?_ | refine K1.i ?_ | refine K1.q ?_ | refine ADraw.sched (id := 4) lay_ok (awp_snd lay_ok _) [(0,none),(1,none),(2,none),(3,none),(4,none),(5,none),(6,none),(7,none),(8,none),(9,some [7,6,3])] [(7,[6,3]),(8,[7,6,3]),(9,[7,6,3])] follows_ok (by kernel_rfl) ?_ | refine K1.j ?_ | refine K1.k ?_ | refine BSpl.dec (fun _ => ?_) (fun _ => ?_) | refine K1.l ?_ | refine K1.n ?_ | refine BSpl.mk (fun _ => ?_) (fun _ => ?_))
 conv => whnf
 exact AEqI.mk (AEq.refl _)
set_option maxHeartbeats 4000000 in
set_option maxRecDepth 100000 in
theorem pt_cut_1_0 (most : Int) (s0 : Shf) (t0 : Clk) (g : ShB s0) : MSpec Try.prog 68 (ptH most ⟨[s0],[t0]⟩ ()) [.box 0 0, .v (.int .i64 0)] (.tup []) (ptH most (cutP ⟨[s0],[t0]⟩ 0) ()) := by
 dsimp only [ptH,ptB,clRow,ptrs,shs,cutP,modN,leastP,leastF,List.headD,Clk.at,List.length]
 refine mspec_of lay_ok 3932243 40 Try.func68 rfl rfl rfl ?_
 repeat' ((conv => whnf); first | refine K1.a ?_ | refine K1.b ?_ | refine K1.c ?_ | refine K1.d ?_ | refine K1.e ?_ | refine K1.f ?_ | refine ACall.chgR 1 [(0,_)] (sh_cut_m _ _ _ g.b0 g.b1 g.k) rfl ⟨rfl,trivial⟩ rfl rfl ?_ | refine ALoop.rounds 6 ?_ | refine InA.mk (by decide) ?_ | refine Spl.yes (by decide) ?_ | refine Spl.no (by decide) ?_ | refine Spl.mk (fun _ => ?_) (fun _ => ?_) | refine SNil.mk (fun _ => ?_) ?_ | refine K1.g ?_ | refine ASl.frz ?_ | refine Wr.b64 ?_ | refine Wr.bu64 ?_ | refine Wr.bu32 ?_ | refine Wr.bu8 ?_ | refine K1.u8 ?_ | refine K1.u64 ?_ | refine K1.u32 ?_ | refine K1.h ?_ | refine K1.i ?_ | refine K1.q ?_ | refine K1.j ?_ | refine K1.k ?_ | refine BSpl.dec (fun _ => ?_) (fun _ => ?_) | refine K1.l ?_ | refine K1.n ?_ | refine BSpl.mk (fun _ => ?_) (fun _ => ?_))
 all_goals (conv => whnf)
 refine ⟨[],rfl,rfl,?_,rfl,rfl,AEq.refl _⟩
 repeat' first | exact trivial | refine ⟨⟨_,rfl,OEq.refl _⟩,?_⟩
set_option maxHeartbeats 4000000 in
set_option maxRecDepth 100000 in
theorem pt_cut_2_0 (most : Int) (s0 s1 : Shf) (t0 t1 : Clk) (g : ShB s0) : MSpec Try.prog 68 (ptH most ⟨[s0,s1],[t0,t1]⟩ ()) [.box 0 0, .v (.int .i64 0)] (.tup []) (ptH most (cutP ⟨[s0,s1],[t0,t1]⟩ 0) ()) := by
 dsimp only [ptH,ptB,clRow,ptrs,shs,cutP,modN,leastP,leastF,List.headD,Clk.at,List.length]
 refine mspec_of lay_ok 3932243 40 Try.func68 rfl rfl rfl ?_
 repeat' ((conv => whnf); first | refine K1.a ?_ | refine K1.b ?_ | refine K1.c ?_ | refine K1.d ?_ | refine K1.e ?_ | refine K1.f ?_ | refine ACall.chgR 1 [(0,_)] (sh_cut_m _ _ _ g.b0 g.b1 g.k) rfl ⟨rfl,trivial⟩ rfl rfl ?_ | refine ALoop.rounds 6 ?_ | refine InA.mk (by decide) ?_ | refine Spl.yes (by decide) ?_ | refine Spl.no (by decide) ?_ | refine Spl.mk (fun _ => ?_) (fun _ => ?_) | refine SNil.mk (fun _ => ?_) ?_ | refine K1.g ?_ | refine ASl.frz ?_ | refine Wr.b64 ?_ | refine Wr.bu64 ?_ | refine Wr.bu32 ?_ | refine Wr.bu8 ?_ | refine K1.u8 ?_ | refine K1.u64 ?_ | refine K1.u32 ?_ | refine K1.h ?_ | refine K1.i ?_ | refine K1.q ?_ | refine K1.j ?_ | refine K1.k ?_ | refine BSpl.dec (fun _ => ?_) (fun _ => ?_) | refine K1.l ?_ | refine K1.n ?_ | refine BSpl.mk (fun _ => ?_) (fun _ => ?_))
 all_goals (conv => whnf)
 refine ⟨[],rfl,rfl,?_,rfl,rfl,AEq.refl _⟩
 repeat' first | exact trivial | refine ⟨⟨_,rfl,OEq.refl _⟩,?_⟩
set_option maxHeartbeats 4000000 in
set_option maxRecDepth 100000 in
theorem pt_cut_2_1 (most : Int) (s0 s1 : Shf) (t0 t1 : Clk) (g : ShB s1) : MSpec Try.prog 68 (ptH most ⟨[s0,s1],[t0,t1]⟩ ()) [.box 0 0, .v (.int .i64 1)] (.tup []) (ptH most (cutP ⟨[s0,s1],[t0,t1]⟩ 1) ()) := by
 dsimp only [ptH,ptB,clRow,ptrs,shs,cutP,modN,leastP,leastF,List.headD,Clk.at,List.length]
 refine mspec_of lay_ok 3932243 40 Try.func68 rfl rfl rfl ?_
 repeat' ((conv => whnf); first | refine K1.a ?_ | refine K1.b ?_ | refine K1.c ?_ | refine K1.d ?_ | refine K1.e ?_ | refine K1.f ?_ | refine ACall.chgR 1 [(0,_)] (sh_cut_m _ _ _ g.b0 g.b1 g.k) rfl ⟨rfl,trivial⟩ rfl rfl ?_ | refine ALoop.rounds 6 ?_ | refine InA.mk (by decide) ?_ | refine Spl.yes (by decide) ?_ | refine Spl.no (by decide) ?_ | refine Spl.mk (fun _ => ?_) (fun _ => ?_) | refine SNil.mk (fun _ => ?_) ?_ | refine K1.g ?_ | refine ASl.frz ?_ | refine Wr.b64 ?_ | refine Wr.bu64 ?_ | refine Wr.bu32 ?_ | refine Wr.bu8 ?_ | refine K1.u8 ?_ | refine K1.u64 ?_ | refine K1.u32 ?_ | refine K1.h ?_ | refine K1.i ?_ | refine K1.q ?_ | refine K1.j ?_ | refine K1.k ?_ | refine BSpl.dec (fun _ => ?_) (fun _ => ?_) | refine K1.l ?_ | refine K1.n ?_ | refine BSpl.mk (fun _ => ?_) (fun _ => ?_))
 all_goals (conv => whnf)
 refine ⟨[],rfl,rfl,?_,rfl,rfl,AEq.refl _⟩
 repeat' first | exact trivial | refine ⟨⟨_,rfl,OEq.refl _⟩,?_⟩
set_option maxHeartbeats 4000000 in
set_option maxRecDepth 100000 in
theorem pt_cut_3_0 (most : Int) (s0 s1 s2 : Shf) (t0 t1 t2 : Clk) (g : ShB s0) : MSpec Try.prog 68 (ptH most ⟨[s0,s1,s2],[t0,t1,t2]⟩ ()) [.box 0 0, .v (.int .i64 0)] (.tup []) (ptH most (cutP ⟨[s0,s1,s2],[t0,t1,t2]⟩ 0) ()) := by
 dsimp only [ptH,ptB,clRow,ptrs,shs,cutP,modN,leastP,leastF,List.headD,Clk.at,List.length]
 refine mspec_of lay_ok 3932243 40 Try.func68 rfl rfl rfl ?_
 repeat' ((conv => whnf); first | refine K1.a ?_ | refine K1.b ?_ | refine K1.c ?_ | refine K1.d ?_ | refine K1.e ?_ | refine K1.f ?_ | refine ACall.chgR 1 [(0,_)] (sh_cut_m _ _ _ g.b0 g.b1 g.k) rfl ⟨rfl,trivial⟩ rfl rfl ?_ | refine ALoop.rounds 6 ?_ | refine InA.mk (by decide) ?_ | refine Spl.yes (by decide) ?_ | refine Spl.no (by decide) ?_ | refine Spl.mk (fun _ => ?_) (fun _ => ?_) | refine SNil.mk (fun _ => ?_) ?_ | refine K1.g ?_ | refine ASl.frz ?_ | refine Wr.b64 ?_ | refine Wr.bu64 ?_ | refine Wr.bu32 ?_ | refine Wr.bu8 ?_ | refine K1.u8 ?_ | refine K1.u64 ?_ | refine K1.u32 ?_ | refine K1.h ?_ | refine K1.i ?_ | refine K1.q ?_ | refine K1.j ?_ | refine K1.k ?_ | refine BSpl.dec (fun _ => ?_) (fun _ => ?_) | refine K1.l ?_ | refine K1.n ?_ | refine BSpl.mk (fun _ => ?_) (fun _ => ?_))
 all_goals (conv => whnf)
 refine ⟨[],rfl,rfl,?_,rfl,rfl,AEq.refl _⟩
 repeat' first | exact trivial | refine ⟨⟨_,rfl,OEq.refl _⟩,?_⟩
set_option maxHeartbeats 4000000 in
set_option maxRecDepth 100000 in
theorem pt_cut_3_1 (most : Int) (s0 s1 s2 : Shf) (t0 t1 t2 : Clk) (g : ShB s1) : MSpec Try.prog 68 (ptH most ⟨[s0,s1,s2],[t0,t1,t2]⟩ ()) [.box 0 0, .v (.int .i64 1)] (.tup []) (ptH most (cutP ⟨[s0,s1,s2],[t0,t1,t2]⟩ 1) ()) := by
 dsimp only [ptH,ptB,clRow,ptrs,shs,cutP,modN,leastP,leastF,List.headD,Clk.at,List.length]
 refine mspec_of lay_ok 3932243 40 Try.func68 rfl rfl rfl ?_
 repeat' ((conv => whnf); first | refine K1.a ?_ | refine K1.b ?_ | refine K1.c ?_ | refine K1.d ?_ | refine K1.e ?_ | refine K1.f ?_ | refine ACall.chgR 1 [(0,_)] (sh_cut_m _ _ _ g.b0 g.b1 g.k) rfl ⟨rfl,trivial⟩ rfl rfl ?_ | refine ALoop.rounds 6 ?_ | refine InA.mk (by decide) ?_ | refine Spl.yes (by decide) ?_ | refine Spl.no (by decide) ?_ | refine Spl.mk (fun _ => ?_) (fun _ => ?_) | refine SNil.mk (fun _ => ?_) ?_ | refine K1.g ?_ | refine ASl.frz ?_ | refine Wr.b64 ?_ | refine Wr.bu64 ?_ | refine Wr.bu32 ?_ | refine Wr.bu8 ?_ | refine K1.u8 ?_ | refine K1.u64 ?_ | refine K1.u32 ?_ | refine K1.h ?_ | refine K1.i ?_ | refine K1.q ?_ | refine K1.j ?_ | refine K1.k ?_ | refine BSpl.dec (fun _ => ?_) (fun _ => ?_) | refine K1.l ?_ | refine K1.n ?_ | refine BSpl.mk (fun _ => ?_) (fun _ => ?_))
 all_goals (conv => whnf)
 refine ⟨[],rfl,rfl,?_,rfl,rfl,AEq.refl _⟩
 repeat' first | exact trivial | refine ⟨⟨_,rfl,OEq.refl _⟩,?_⟩
set_option maxHeartbeats 4000000 in
set_option maxRecDepth 100000 in
theorem pt_cut_3_2 (most : Int) (s0 s1 s2 : Shf) (t0 t1 t2 : Clk) (g : ShB s2) : MSpec Try.prog 68 (ptH most ⟨[s0,s1,s2],[t0,t1,t2]⟩ ()) [.box 0 0, .v (.int .i64 2)] (.tup []) (ptH most (cutP ⟨[s0,s1,s2],[t0,t1,t2]⟩ 2) ()) := by
 dsimp only [ptH,ptB,clRow,ptrs,shs,cutP,modN,leastP,leastF,List.headD,Clk.at,List.length]
 refine mspec_of lay_ok 3932243 40 Try.func68 rfl rfl rfl ?_
 repeat' ((conv => whnf); first | refine K1.a ?_ | refine K1.b ?_ | refine K1.c ?_ | refine K1.d ?_ | refine K1.e ?_ | refine K1.f ?_ | refine ACall.chgR 1 [(0,_)] (sh_cut_m _ _ _ g.b0 g.b1 g.k) rfl ⟨rfl,trivial⟩ rfl rfl ?_ | refine ALoop.rounds 6 ?_ | refine InA.mk (by decide) ?_ | refine Spl.yes (by decide) ?_ | refine Spl.no (by decide) ?_ | refine Spl.mk (fun _ => ?_) (fun _ => ?_) | refine SNil.mk (fun _ => ?_) ?_ | refine K1.g ?_ | refine ASl.frz ?_ | refine Wr.b64 ?_ | refine Wr.bu64 ?_ | refine Wr.bu32 ?_ | refine Wr.bu8 ?_ | refine K1.u8 ?_ | refine K1.u64 ?_ | refine K1.u32 ?_ | refine K1.h ?_ | refine K1.i ?_ | refine K1.q ?_ | refine K1.j ?_ | refine K1.k ?_ | refine BSpl.dec (fun _ => ?_) (fun _ => ?_) | refine K1.l ?_ | refine K1.n ?_ | refine BSpl.mk (fun _ => ?_) (fun _ => ?_))
 all_goals (conv => whnf)
 refine ⟨[],rfl,rfl,?_,rfl,rfl,AEq.refl _⟩
 repeat' first | exact trivial | refine ⟨⟨_,rfl,OEq.refl _⟩,?_⟩
set_option maxHeartbeats 4000000 in
set_option maxRecDepth 100000 in
theorem pt_cut_4_0 (most : Int) (s0 s1 s2 s3 : Shf) (t0 t1 t2 t3 : Clk) (g : ShB s0) : MSpec Try.prog 68 (ptH most ⟨[s0,s1,s2,s3],[t0,t1,t2,t3]⟩ ()) [.box 0 0, .v (.int .i64 0)] (.tup []) (ptH most (cutP ⟨[s0,s1,s2,s3],[t0,t1,t2,t3]⟩ 0) ()) := by
 dsimp only [ptH,ptB,clRow,ptrs,shs,cutP,modN,leastP,leastF,List.headD,Clk.at,List.length]
 refine mspec_of lay_ok 3932243 40 Try.func68 rfl rfl rfl ?_
 repeat' ((conv => whnf); first | refine K1.a ?_ | refine K1.b ?_ | refine K1.c ?_ | refine K1.d ?_ | refine K1.e ?_ | refine K1.f ?_ | refine ACall.chgR 1 [(0,_)] (sh_cut_m _ _ _ g.b0 g.b1 g.k) rfl ⟨rfl,trivial⟩ rfl rfl ?_ | refine ALoop.rounds 6 ?_ | refine InA.mk (by decide) ?_ | refine Spl.yes (by decide) ?_ | refine Spl.no (by decide) ?_ | refine Spl.mk (fun _ => ?_) (fun _ => ?_) | refine SNil.mk (fun _ => ?_) ?_ | refine K1.g ?_ | refine ASl.frz ?_ | refine Wr.b64 ?_ | refine Wr.bu64 ?_ | refine Wr.bu32 ?_ | refine Wr.bu8 ?_ | refine K1.u8 ?_ | refine K1.u64 ?_ | refine K1.u32 ?_ | refine K1.h ?_ | refine K1.i ?_ | refine K1.q ?_ | refine K1.j ?_ | refine K1.k ?_ | refine BSpl.dec (fun _ => ?_) (fun _ => ?_) | refine K1.l ?_ | refine K1.n ?_ | refine BSpl.mk (fun _ => ?_) (fun _ => ?_))
 all_goals (conv => whnf)
 refine ⟨[],rfl,rfl,?_,rfl,rfl,AEq.refl _⟩
 repeat' first | exact trivial | refine ⟨⟨_,rfl,OEq.refl _⟩,?_⟩
set_option maxHeartbeats 4000000 in
set_option maxRecDepth 100000 in
theorem pt_cut_4_1 (most : Int) (s0 s1 s2 s3 : Shf) (t0 t1 t2 t3 : Clk) (g : ShB s1) : MSpec Try.prog 68 (ptH most ⟨[s0,s1,s2,s3],[t0,t1,t2,t3]⟩ ()) [.box 0 0, .v (.int .i64 1)] (.tup []) (ptH most (cutP ⟨[s0,s1,s2,s3],[t0,t1,t2,t3]⟩ 1) ()) := by
 dsimp only [ptH,ptB,clRow,ptrs,shs,cutP,modN,leastP,leastF,List.headD,Clk.at,List.length]
 refine mspec_of lay_ok 3932243 40 Try.func68 rfl rfl rfl ?_
 repeat' ((conv => whnf); first | refine K1.a ?_ | refine K1.b ?_ | refine K1.c ?_ | refine K1.d ?_ | refine K1.e ?_ | refine K1.f ?_ | refine ACall.chgR 1 [(0,_)] (sh_cut_m _ _ _ g.b0 g.b1 g.k) rfl ⟨rfl,trivial⟩ rfl rfl ?_ | refine ALoop.rounds 6 ?_ | refine InA.mk (by decide) ?_ | refine Spl.yes (by decide) ?_ | refine Spl.no (by decide) ?_ | refine Spl.mk (fun _ => ?_) (fun _ => ?_) | refine SNil.mk (fun _ => ?_) ?_ | refine K1.g ?_ | refine ASl.frz ?_ | refine Wr.b64 ?_ | refine Wr.bu64 ?_ | refine Wr.bu32 ?_ | refine Wr.bu8 ?_ | refine K1.u8 ?_ | refine K1.u64 ?_ | refine K1.u32 ?_ | refine K1.h ?_ | refine K1.i ?_ | refine K1.q ?_ | refine K1.j ?_ | refine K1.k ?_ | refine BSpl.dec (fun _ => ?_) (fun _ => ?_) | refine K1.l ?_ | refine K1.n ?_ | refine BSpl.mk (fun _ => ?_) (fun _ => ?_))
 all_goals (conv => whnf)
 refine ⟨[],rfl,rfl,?_,rfl,rfl,AEq.refl _⟩
 repeat' first | exact trivial | refine ⟨⟨_,rfl,OEq.refl _⟩,?_⟩
set_option maxHeartbeats 4000000 in
set_option maxRecDepth 100000 in
theorem pt_cut_4_2 (most : Int) (s0 s1 s2 s3 : Shf) (t0 t1 t2 t3 : Clk) (g : ShB s2) : MSpec Try.prog 68 (ptH most ⟨[s0,s1,s2,s3],[t0,t1,t2,t3]⟩ ()) [.box 0 0, .v (.int .i64 2)] (.tup []) (ptH most (cutP ⟨[s0,s1,s2,s3],[t0,t1,t2,t3]⟩ 2) ()) := by
 dsimp only [ptH,ptB,clRow,ptrs,shs,cutP,modN,leastP,leastF,List.headD,Clk.at,List.length]
 refine mspec_of lay_ok 3932243 40 Try.func68 rfl rfl rfl ?_
 repeat' ((conv => whnf); first | refine K1.a ?_ | refine K1.b ?_ | refine K1.c ?_ | refine K1.d ?_ | refine K1.e ?_ | refine K1.f ?_ | refine ACall.chgR 1 [(0,_)] (sh_cut_m _ _ _ g.b0 g.b1 g.k) rfl ⟨rfl,trivial⟩ rfl rfl ?_ | refine ALoop.rounds 6 ?_ | refine InA.mk (by decide) ?_ | refine Spl.yes (by decide) ?_ | refine Spl.no (by decide) ?_ | refine Spl.mk (fun _ => ?_) (fun _ => ?_) | refine SNil.mk (fun _ => ?_) ?_ | refine K1.g ?_ | refine ASl.frz ?_ | refine Wr.b64 ?_ | refine Wr.bu64 ?_ | refine Wr.bu32 ?_ | refine Wr.bu8 ?_ | refine K1.u8 ?_ | refine K1.u64 ?_ | refine K1.u32 ?_ | refine K1.h ?_ | refine K1.i ?_ | refine K1.q ?_ | refine K1.j ?_ | refine K1.k ?_ | refine BSpl.dec (fun _ => ?_) (fun _ => ?_) | refine K1.l ?_ | refine K1.n ?_ | refine BSpl.mk (fun _ => ?_) (fun _ => ?_))
 all_goals (conv => whnf)
 refine ⟨[],rfl,rfl,?_,rfl,rfl,AEq.refl _⟩
 repeat' first | exact trivial | refine ⟨⟨_,rfl,OEq.refl _⟩,?_⟩
set_option maxHeartbeats 4000000 in
set_option maxRecDepth 100000 in
theorem pt_cut_4_3 (most : Int) (s0 s1 s2 s3 : Shf) (t0 t1 t2 t3 : Clk) (g : ShB s3) : MSpec Try.prog 68 (ptH most ⟨[s0,s1,s2,s3],[t0,t1,t2,t3]⟩ ()) [.box 0 0, .v (.int .i64 3)] (.tup []) (ptH most (cutP ⟨[s0,s1,s2,s3],[t0,t1,t2,t3]⟩ 3) ()) := by
 dsimp only [ptH,ptB,clRow,ptrs,shs,cutP,modN,leastP,leastF,List.headD,Clk.at,List.length]
 refine mspec_of lay_ok 3932243 40 Try.func68 rfl rfl rfl ?_
 repeat' ((conv => whnf); first | refine K1.a ?_ | refine K1.b ?_ | refine K1.c ?_ | refine K1.d ?_ | refine K1.e ?_ | refine K1.f ?_ | refine ACall.chgR 1 [(0,_)] (sh_cut_m _ _ _ g.b0 g.b1 g.k) rfl ⟨rfl,trivial⟩ rfl rfl ?_ | refine ALoop.rounds 6 ?_ | refine InA.mk (by decide) ?_ | refine Spl.yes (by decide) ?_ | refine Spl.no (by decide) ?_ | refine Spl.mk (fun _ => ?_) (fun _ => ?_) | refine SNil.mk (fun _ => ?_) ?_ | refine K1.g ?_ | refine ASl.frz ?_ | refine Wr.b64 ?_ | refine Wr.bu64 ?_ | refine Wr.bu32 ?_ | refine Wr.bu8 ?_ | refine K1.u8 ?_ | refine K1.u64 ?_ | refine K1.u32 ?_ | refine K1.h ?_ | refine K1.i ?_ | refine K1.q ?_ | refine K1.j ?_ | refine K1.k ?_ | refine BSpl.dec (fun _ => ?_) (fun _ => ?_) | refine K1.l ?_ | refine K1.n ?_ | refine BSpl.mk (fun _ => ?_) (fun _ => ?_))
 all_goals (conv => whnf)
 refine ⟨[],rfl,rfl,?_,rfl,rfl,AEq.refl _⟩
 repeat' first | exact trivial | refine ⟨⟨_,rfl,OEq.refl _⟩,?_⟩
set_option maxHeartbeats 4000000 in
set_option maxRecDepth 100000 in
theorem pt_cut_5_0 (most : Int) (s0 s1 s2 s3 s4 : Shf) (t0 t1 t2 t3 t4 : Clk) (g : ShB s0) : MSpec Try.prog 68 (ptH most ⟨[s0,s1,s2,s3,s4],[t0,t1,t2,t3,t4]⟩ ()) [.box 0 0, .v (.int .i64 0)] (.tup []) (ptH most (cutP ⟨[s0,s1,s2,s3,s4],[t0,t1,t2,t3,t4]⟩ 0) ()) := by
 dsimp only [ptH,ptB,clRow,ptrs,shs,cutP,modN,leastP,leastF,List.headD,Clk.at,List.length]
 refine mspec_of lay_ok 3932243 40 Try.func68 rfl rfl rfl ?_
 repeat' ((conv => whnf); first | refine K1.a ?_ | refine K1.b ?_ | refine K1.c ?_ | refine K1.d ?_ | refine K1.e ?_ | refine K1.f ?_ | refine ACall.chgR 1 [(0,_)] (sh_cut_m _ _ _ g.b0 g.b1 g.k) rfl ⟨rfl,trivial⟩ rfl rfl ?_ | refine ALoop.rounds 6 ?_ | refine InA.mk (by decide) ?_ | refine Spl.yes (by decide) ?_ | refine Spl.no (by decide) ?_ | refine Spl.mk (fun _ => ?_) (fun _ => ?_) | refine SNil.mk (fun _ => ?_) ?_ | refine K1.g ?_ | refine ASl.frz ?_ | refine Wr.b64 ?_ | refine Wr.bu64 ?_ | refine Wr.bu32 ?_ | refine Wr.bu8 ?_ | refine K1.u8 ?_ | refine K1.u64 ?_ | refine K1.u32 ?_ | refine K1.h ?_ | refine K1.i ?_ | refine K1.q ?_ | refine K1.j ?_ | refine K1.k ?_ | refine BSpl.dec (fun _ => ?_) (fun _ => ?_) | refine K1.l ?_ | refine K1.n ?_ | refine BSpl.mk (fun _ => ?_) (fun _ => ?_))
 all_goals (conv => whnf)
 refine ⟨[],rfl,rfl,?_,rfl,rfl,AEq.refl _⟩
 repeat' first | exact trivial | refine ⟨⟨_,rfl,OEq.refl _⟩,?_⟩
set_option maxHeartbeats 4000000 in
set_option maxRecDepth 100000 in
theorem pt_cut_5_1 (most : Int) (s0 s1 s2 s3 s4 : Shf) (t0 t1 t2 t3 t4 : Clk) (g : ShB s1) : MSpec Try.prog 68 (ptH most ⟨[s0,s1,s2,s3,s4],[t0,t1,t2,t3,t4]⟩ ()) [.box 0 0, .v (.int .i64 1)] (.tup []) (ptH most (cutP ⟨[s0,s1,s2,s3,s4],[t0,t1,t2,t3,t4]⟩ 1) ()) := by
 dsimp only [ptH,ptB,clRow,ptrs,shs,cutP,modN,leastP,leastF,List.headD,Clk.at,List.length]
 refine mspec_of lay_ok 3932243 40 Try.func68 rfl rfl rfl ?_
 repeat' ((conv => whnf); first | refine K1.a ?_ | refine K1.b ?_ | refine K1.c ?_ | refine K1.d ?_ | refine K1.e ?_ | refine K1.f ?_ | refine ACall.chgR 1 [(0,_)] (sh_cut_m _ _ _ g.b0 g.b1 g.k) rfl ⟨rfl,trivial⟩ rfl rfl ?_ | refine ALoop.rounds 6 ?_ | refine InA.mk (by decide) ?_ | refine Spl.yes (by decide) ?_ | refine Spl.no (by decide) ?_ | refine Spl.mk (fun _ => ?_) (fun _ => ?_) | refine SNil.mk (fun _ => ?_) ?_ | refine K1.g ?_ | refine ASl.frz ?_ | refine Wr.b64 ?_ | refine Wr.bu64 ?_ | refine Wr.bu32 ?_ | refine Wr.bu8 ?_ | refine K1.u8 ?_ | refine K1.u64 ?_ | refine K1.u32 ?_ | refine K1.h ?_ | refine K1.i ?_ | refine K1.q ?_ | refine K1.j ?_ | refine K1.k ?_ | refine BSpl.dec (fun _ => ?_) (fun _ => ?_) | refine K1.l ?_ | refine K1.n ?_ | refine BSpl.mk (fun _ => ?_) (fun _ => ?_))
 all_goals (conv => whnf)
 refine ⟨[],rfl,rfl,?_,rfl,rfl,AEq.refl _⟩
 repeat' first | exact trivial | refine ⟨⟨_,rfl,OEq.refl _⟩,?_⟩
set_option maxHeartbeats 4000000 in
set_option maxRecDepth 100000 in
theorem pt_cut_5_2 (most : Int) (s0 s1 s2 s3 s4 : Shf) (t0 t1 t2 t3 t4 : Clk) (g : ShB s2) : MSpec Try.prog 68 (ptH most ⟨[s0,s1,s2,s3,s4],[t0,t1,t2,t3,t4]⟩ ()) [.box 0 0, .v (.int .i64 2)] (.tup []) (ptH most (cutP ⟨[s0,s1,s2,s3,s4],[t0,t1,t2,t3,t4]⟩ 2) ()) := by
 dsimp only [ptH,ptB,clRow,ptrs,shs,cutP,modN,leastP,leastF,List.headD,Clk.at,List.length]
 refine mspec_of lay_ok 3932243 40 Try.func68 rfl rfl rfl ?_
 repeat' ((conv => whnf); first | refine K1.a ?_ | refine K1.b ?_ | refine K1.c ?_ | refine K1.d ?_ | refine K1.e ?_ | refine K1.f ?_ | refine ACall.chgR 1 [(0,_)] (sh_cut_m _ _ _ g.b0 g.b1 g.k) rfl ⟨rfl,trivial⟩ rfl rfl ?_ | refine ALoop.rounds 6 ?_ | refine InA.mk (by decide) ?_ | refine Spl.yes (by decide) ?_ | refine Spl.no (by decide) ?_ | refine Spl.mk (fun _ => ?_) (fun _ => ?_) | refine SNil.mk (fun _ => ?_) ?_ | refine K1.g ?_ | refine ASl.frz ?_ | refine Wr.b64 ?_ | refine Wr.bu64 ?_ | refine Wr.bu32 ?_ | refine Wr.bu8 ?_ | refine K1.u8 ?_ | refine K1.u64 ?_ | refine K1.u32 ?_ | refine K1.h ?_ | refine K1.i ?_ | refine K1.q ?_ | refine K1.j ?_ | refine K1.k ?_ | refine BSpl.dec (fun _ => ?_) (fun _ => ?_) | refine K1.l ?_ | refine K1.n ?_ | refine BSpl.mk (fun _ => ?_) (fun _ => ?_))
 all_goals (conv => whnf)
 refine ⟨[],rfl,rfl,?_,rfl,rfl,AEq.refl _⟩
 repeat' first | exact trivial | refine ⟨⟨_,rfl,OEq.refl _⟩,?_⟩
set_option maxHeartbeats 4000000 in
set_option maxRecDepth 100000 in
theorem pt_cut_5_3 (most : Int) (s0 s1 s2 s3 s4 : Shf) (t0 t1 t2 t3 t4 : Clk) (g : ShB s3) : MSpec Try.prog 68 (ptH most ⟨[s0,s1,s2,s3,s4],[t0,t1,t2,t3,t4]⟩ ()) [.box 0 0, .v (.int .i64 3)] (.tup []) (ptH most (cutP ⟨[s0,s1,s2,s3,s4],[t0,t1,t2,t3,t4]⟩ 3) ()) := by
 dsimp only [ptH,ptB,clRow,ptrs,shs,cutP,modN,leastP,leastF,List.headD,Clk.at,List.length]
 refine mspec_of lay_ok 3932243 40 Try.func68 rfl rfl rfl ?_
 repeat' ((conv => whnf); first | refine K1.a ?_ | refine K1.b ?_ | refine K1.c ?_ | refine K1.d ?_ | refine K1.e ?_ | refine K1.f ?_ | refine ACall.chgR 1 [(0,_)] (sh_cut_m _ _ _ g.b0 g.b1 g.k) rfl ⟨rfl,trivial⟩ rfl rfl ?_ | refine ALoop.rounds 6 ?_ | refine InA.mk (by decide) ?_ | refine Spl.yes (by decide) ?_ | refine Spl.no (by decide) ?_ | refine Spl.mk (fun _ => ?_) (fun _ => ?_) | refine SNil.mk (fun _ => ?_) ?_ | refine K1.g ?_ | refine ASl.frz ?_ | refine Wr.b64 ?_ | refine Wr.bu64 ?_ | refine Wr.bu32 ?_ | refine Wr.bu8 ?_ | refine K1.u8 ?_ | refine K1.u64 ?_ | refine K1.u32 ?_ | refine K1.h ?_ | refine K1.i ?_ | refine K1.q ?_ | refine K1.j ?_ | refine K1.k ?_ | refine BSpl.dec (fun _ => ?_) (fun _ => ?_) | refine K1.l ?_ | refine K1.n ?_ | refine BSpl.mk (fun _ => ?_) (fun _ => ?_))
 all_goals (conv => whnf)
 refine ⟨[],rfl,rfl,?_,rfl,rfl,AEq.refl _⟩
 repeat' first | exact trivial | refine ⟨⟨_,rfl,OEq.refl _⟩,?_⟩
set_option maxHeartbeats 4000000 in
set_option maxRecDepth 100000 in
theorem pt_cut_5_4 (most : Int) (s0 s1 s2 s3 s4 : Shf) (t0 t1 t2 t3 t4 : Clk) (g : ShB s4) : MSpec Try.prog 68 (ptH most ⟨[s0,s1,s2,s3,s4],[t0,t1,t2,t3,t4]⟩ ()) [.box 0 0, .v (.int .i64 4)] (.tup []) (ptH most (cutP ⟨[s0,s1,s2,s3,s4],[t0,t1,t2,t3,t4]⟩ 4) ()) := by
 dsimp only [ptH,ptB,clRow,ptrs,shs,cutP,modN,leastP,leastF,List.headD,Clk.at,List.length]
 refine mspec_of lay_ok 3932243 40 Try.func68 rfl rfl rfl ?_
 repeat' ((conv => whnf); first | refine K1.a ?_ | refine K1.b ?_ | refine K1.c ?_ | refine K1.d ?_ | refine K1.e ?_ | refine K1.f ?_ | refine ACall.chgR 1 [(0,_)] (sh_cut_m _ _ _ g.b0 g.b1 g.k) rfl ⟨rfl,trivial⟩ rfl rfl ?_ | refine ALoop.rounds 6 ?_ | refine InA.mk (by decide) ?_ | refine Spl.yes (by decide) ?_ | refine Spl.no (by decide) ?_ | refine Spl.mk (fun _ => ?_) (fun _ => ?_) | refine SNil.mk (fun _ => ?_) ?_ | refine K1.g ?_ | refine ASl.frz ?_ | refine Wr.b64 ?_ | refine Wr.bu64 ?_ | refine Wr.bu32 ?_ | refine Wr.bu8 ?_ | refine K1.u8 ?_ | refine K1.u64 ?_ | refine K1.u32 ?_ | refine K1.h ?_ | refine K1.i ?_ | refine K1.q ?_ | refine K1.j ?_ | refine K1.k ?_ | refine BSpl.dec (fun _ => ?_) (fun _ => ?_) | refine K1.l ?_ | refine K1.n ?_ | refine BSpl.mk (fun _ => ?_) (fun _ => ?_))
 all_goals (conv => whnf)
 refine ⟨[],rfl,rfl,?_,rfl,rfl,AEq.refl _⟩
 repeat' first | exact trivial | refine ⟨⟨_,rfl,OEq.refl _⟩,?_⟩
set_option maxHeartbeats 4000000 in
set_option maxRecDepth 100000 in
theorem pt_ack_1_0 (most : Int) (s0 : Shf) (t0 : Clk) (g0 : ShB s0) (c : Clk) : MSpec Try.prog 38 (ptH most ⟨[s0],[t0]⟩ ()) [.box 0 0, .v (.int .i64 0), .agg (clC c)] (.v (.int .i64 0)) (ptH most (ackP ⟨[s0],[t0]⟩ 0 c) ()) := by
 dsimp only [ackP,modN,cutAll]
 have h0 := pt_cut_1_0 most s0 (t0.jn c) g0
 dsimp only [ptH,ptB,clRow,ptrs,shs,cutP,modN,List.length] at h0 ⊢
 have h0 := MSpec.ins (hin' := [(0, .box 94 [.own 10, .own 11]),(10, .rn (90 : Nat) [.box 20 0]),(11, .row 31 5 1 true (updF 0 (clF [t0]) (clC (t0.jn c)))),(20, .obs (shO most s0))]) h0 ⟨rfl,OEq.refl _,rfl,OEq.refl _,rfl,OEq.row rfl (fun m hm => match m,hm with | 0,_ => rfl | k + 1,h => absurd h (by omega)),rfl,OEq.refl _,trivial⟩
 have hj := cjoin_spec t0 c
 dsimp only [clC] at hj ⊢
 refine mspec_of lay_ok 15032387815 40 Try.func38 rfl rfl rfl ?_
 repeat' ((conv => whnf); first | refine K1.a ?_ | refine K1.b ?_ | refine K1.c ?_ | refine K1.d ?_ | refine K1.e ?_ | refine K1.f ?_ | refine ACall.plain _ _ (hj) (SubL.cons (.eq _) (SubL.cons (.eq _) .nil)) rfl ?_ | refine ACall.chgR 99 [(0,_),(10,_),(11,_),(20,_)] (h0) rfl ⟨rfl,rfl,rfl,rfl,trivial⟩ rfl rfl ?_ | refine ACall.into 19 _ _ Try.func66 rfl rfl rfl ?_ | refine ALoop.rounds 6 ?_ | refine InA.mk (by decide) ?_ | refine Spl.yes (by decide) ?_ | refine Spl.no (by decide) ?_ | refine Spl.mk (fun _ => ?_) (fun _ => ?_) | refine SNil.mk (fun _ => ?_) ?_ | refine K1.g ?_ | refine ASl.frz ?_ | refine Wr.b64 ?_ | refine Wr.bu64 ?_ | refine Wr.bu32 ?_ | refine Wr.bu8 ?_ | refine K1.u8 ?_ | refine K1.u64 ?_ | refine K1.u32 ?_ | refine K1.h ?_ | refine K1.i ?_ | refine K1.q ?_ | refine ADraw.sched (id := 3) lay_ok (awp_snd lay_ok _) [(0,none),(1,none),(2,none),(3,none),(4,none),(5,none),(6,none),(7,none),(8,none),(9,none),(10,none),(11,none),(12,none),(13,some [12,11,8,6]),(14,none),(15,some [12,11,8,6,3,1])] [(2,[1]),(3,[1]),(7,[6]),(8,[6]),(10,[8,6]),(11,[8,6]),(13,[12,11,8,6]),(14,[12,11,8,6,3,1]),(15,[12,11,8,6,3,1])] follows_ok (by kernel_rfl) ?_ | refine K1.j ?_ | refine K1.k ?_ | refine BSpl.dec (fun _ => ?_) (fun _ => ?_) | refine K1.l ?_ | refine K1.n ?_ | refine BSpl.mk (fun _ => ?_) (fun _ => ?_))
 all_goals (conv => whnf)
 refine ⟨[],rfl,rfl,?_,rfl,rfl,AEq.refl _⟩
 repeat' first | exact trivial | refine ⟨⟨_,rfl,OEq.refl _⟩,?_⟩
set_option maxHeartbeats 4000000 in
set_option maxRecDepth 100000 in
theorem pt_ack_2_0 (most : Int) (s0 s1 : Shf) (t0 t1 : Clk) (g0 : ShB s0) (g1 : ShB s1) (c : Clk) : MSpec Try.prog 38 (ptH most ⟨[s0,s1],[t0,t1]⟩ ()) [.box 0 0, .v (.int .i64 0), .agg (clC c)] (.v (.int .i64 0)) (ptH most (ackP ⟨[s0,s1],[t0,t1]⟩ 0 c) ()) := by
 dsimp only [ackP,modN,cutAll]
 have h0 := pt_cut_2_0 most s0 s1 (t0.jn c) t1 g0
 have h1 := pt_cut_2_1 most (cutS s0 (leastP [t0.jn c,t1] 0)) s1 (t0.jn c) t1 g1
 dsimp only [ptH,ptB,clRow,ptrs,shs,cutP,modN,List.length] at h0 h1 ⊢
 have h0 := MSpec.ins (hin' := [(0, .box 94 [.own 10, .own 11]),(10, .rn (90 : Nat) [.box 20 0, .box 21 0]),(11, .row 31 5 2 true (updF 0 (clF [t0,t1]) (clC (t0.jn c)))),(20, .obs (shO most s0)),(21, .obs (shO most s1))]) h0 ⟨rfl,OEq.refl _,rfl,OEq.refl _,rfl,OEq.row rfl (fun m hm => match m,hm with | 0,_ => rfl | 1,_ => rfl | k + 2,h => absurd h (by omega)),rfl,OEq.refl _,rfl,OEq.refl _,trivial⟩
 have hj := cjoin_spec t0 c
 dsimp only [clC] at hj ⊢
 refine mspec_of lay_ok 15032387815 40 Try.func38 rfl rfl rfl ?_
 repeat' ((conv => whnf); first | refine K1.a ?_ | refine K1.b ?_ | refine K1.c ?_ | refine K1.d ?_ | refine K1.e ?_ | refine K1.f ?_ | refine ACall.plain _ _ (hj) (SubL.cons (.eq _) (SubL.cons (.eq _) .nil)) rfl ?_ | refine ACall.chgR 99 [(0,_),(10,_),(11,_),(20,_),(21,_)] (h0) rfl ⟨rfl,rfl,rfl,rfl,rfl,trivial⟩ rfl rfl ?_ | refine ACall.chgR 99 [(0,_),(10,_),(11,_),(20,_),(21,_)] (h1) rfl ⟨rfl,rfl,rfl,rfl,rfl,trivial⟩ rfl rfl ?_ | refine ACall.into 19 _ _ Try.func66 rfl rfl rfl ?_ | refine ALoop.rounds 6 ?_ | refine InA.mk (by decide) ?_ | refine Spl.yes (by decide) ?_ | refine Spl.no (by decide) ?_ | refine Spl.mk (fun _ => ?_) (fun _ => ?_) | refine SNil.mk (fun _ => ?_) ?_ | refine K1.g ?_ | refine ASl.frz ?_ | refine Wr.b64 ?_ | refine Wr.bu64 ?_ | refine Wr.bu32 ?_ | refine Wr.bu8 ?_ | refine K1.u8 ?_ | refine K1.u64 ?_ | refine K1.u32 ?_ | refine K1.h ?_ | refine K1.i ?_ | refine K1.q ?_ | refine ADraw.sched (id := 3) lay_ok (awp_snd lay_ok _) [(0,none),(1,none),(2,none),(3,none),(4,none),(5,none),(6,none),(7,none),(8,none),(9,none),(10,none),(11,none),(12,none),(13,some [12,11,8,6]),(14,none),(15,some [12,11,8,6,3,1])] [(2,[1]),(3,[1]),(7,[6]),(8,[6]),(10,[8,6]),(11,[8,6]),(13,[12,11,8,6]),(14,[12,11,8,6,3,1]),(15,[12,11,8,6,3,1])] follows_ok (by kernel_rfl) ?_ | refine K1.j ?_ | refine K1.k ?_ | refine BSpl.dec (fun _ => ?_) (fun _ => ?_) | refine K1.l ?_ | refine K1.n ?_ | refine BSpl.mk (fun _ => ?_) (fun _ => ?_))
 all_goals (conv => whnf)
 refine ⟨[],rfl,rfl,?_,rfl,rfl,AEq.refl _⟩
 repeat' first | exact trivial | refine ⟨⟨_,rfl,OEq.refl _⟩,?_⟩
set_option maxHeartbeats 4000000 in
set_option maxRecDepth 100000 in
theorem pt_ack_2_1 (most : Int) (s0 s1 : Shf) (t0 t1 : Clk) (g0 : ShB s0) (g1 : ShB s1) (c : Clk) : MSpec Try.prog 38 (ptH most ⟨[s0,s1],[t0,t1]⟩ ()) [.box 0 0, .v (.int .i64 1), .agg (clC c)] (.v (.int .i64 0)) (ptH most (ackP ⟨[s0,s1],[t0,t1]⟩ 1 c) ()) := by
 dsimp only [ackP,modN,cutAll]
 have h0 := pt_cut_2_0 most s0 s1 t0 (t1.jn c) g0
 have h1 := pt_cut_2_1 most (cutS s0 (leastP [t0,t1.jn c] 0)) s1 t0 (t1.jn c) g1
 dsimp only [ptH,ptB,clRow,ptrs,shs,cutP,modN,List.length] at h0 h1 ⊢
 have h0 := MSpec.ins (hin' := [(0, .box 94 [.own 10, .own 11]),(10, .rn (90 : Nat) [.box 20 0, .box 21 0]),(11, .row 31 5 2 true (updF 1 (clF [t0,t1]) (clC (t1.jn c)))),(20, .obs (shO most s0)),(21, .obs (shO most s1))]) h0 ⟨rfl,OEq.refl _,rfl,OEq.refl _,rfl,OEq.row rfl (fun m hm => match m,hm with | 0,_ => rfl | 1,_ => rfl | k + 2,h => absurd h (by omega)),rfl,OEq.refl _,rfl,OEq.refl _,trivial⟩
 have hj := cjoin_spec t1 c
 dsimp only [clC] at hj ⊢
 refine mspec_of lay_ok 15032387815 40 Try.func38 rfl rfl rfl ?_
 repeat' ((conv => whnf); first | refine K1.a ?_ | refine K1.b ?_ | refine K1.c ?_ | refine K1.d ?_ | refine K1.e ?_ | refine K1.f ?_ | refine ACall.plain _ _ (hj) (SubL.cons (.eq _) (SubL.cons (.eq _) .nil)) rfl ?_ | refine ACall.chgR 99 [(0,_),(10,_),(11,_),(20,_),(21,_)] (h0) rfl ⟨rfl,rfl,rfl,rfl,rfl,trivial⟩ rfl rfl ?_ | refine ACall.chgR 99 [(0,_),(10,_),(11,_),(20,_),(21,_)] (h1) rfl ⟨rfl,rfl,rfl,rfl,rfl,trivial⟩ rfl rfl ?_ | refine ACall.into 19 _ _ Try.func66 rfl rfl rfl ?_ | refine ALoop.rounds 6 ?_ | refine InA.mk (by decide) ?_ | refine Spl.yes (by decide) ?_ | refine Spl.no (by decide) ?_ | refine Spl.mk (fun _ => ?_) (fun _ => ?_) | refine SNil.mk (fun _ => ?_) ?_ | refine K1.g ?_ | refine ASl.frz ?_ | refine Wr.b64 ?_ | refine Wr.bu64 ?_ | refine Wr.bu32 ?_ | refine Wr.bu8 ?_ | refine K1.u8 ?_ | refine K1.u64 ?_ | refine K1.u32 ?_ | refine K1.h ?_ | refine K1.i ?_ | refine K1.q ?_ | refine ADraw.sched (id := 3) lay_ok (awp_snd lay_ok _) [(0,none),(1,none),(2,none),(3,none),(4,none),(5,none),(6,none),(7,none),(8,none),(9,none),(10,none),(11,none),(12,none),(13,some [12,11,8,6]),(14,none),(15,some [12,11,8,6,3,1])] [(2,[1]),(3,[1]),(7,[6]),(8,[6]),(10,[8,6]),(11,[8,6]),(13,[12,11,8,6]),(14,[12,11,8,6,3,1]),(15,[12,11,8,6,3,1])] follows_ok (by kernel_rfl) ?_ | refine K1.j ?_ | refine K1.k ?_ | refine BSpl.dec (fun _ => ?_) (fun _ => ?_) | refine K1.l ?_ | refine K1.n ?_ | refine BSpl.mk (fun _ => ?_) (fun _ => ?_))
 all_goals (conv => whnf)
 refine ⟨[],rfl,rfl,?_,rfl,rfl,AEq.refl _⟩
 repeat' first | exact trivial | refine ⟨⟨_,rfl,OEq.refl _⟩,?_⟩
set_option maxHeartbeats 4000000 in
set_option maxRecDepth 100000 in
theorem pt_ack_3_0 (most : Int) (s0 s1 s2 : Shf) (t0 t1 t2 : Clk) (g0 : ShB s0) (g1 : ShB s1) (g2 : ShB s2) (c : Clk) : MSpec Try.prog 38 (ptH most ⟨[s0,s1,s2],[t0,t1,t2]⟩ ()) [.box 0 0, .v (.int .i64 0), .agg (clC c)] (.v (.int .i64 0)) (ptH most (ackP ⟨[s0,s1,s2],[t0,t1,t2]⟩ 0 c) ()) := by
 dsimp only [ackP,modN,cutAll]
 have h0 := pt_cut_3_0 most s0 s1 s2 (t0.jn c) t1 t2 g0
 have h1 := pt_cut_3_1 most (cutS s0 (leastP [t0.jn c,t1,t2] 0)) s1 s2 (t0.jn c) t1 t2 g1
 have h2 := pt_cut_3_2 most (cutS s0 (leastP [t0.jn c,t1,t2] 0)) (cutS s1 (leastP [t0.jn c,t1,t2] 1)) s2 (t0.jn c) t1 t2 g2
 dsimp only [ptH,ptB,clRow,ptrs,shs,cutP,modN,List.length] at h0 h1 h2 ⊢
 have h0 := MSpec.ins (hin' := [(0, .box 94 [.own 10, .own 11]),(10, .rn (90 : Nat) [.box 20 0, .box 21 0, .box 22 0]),(11, .row 31 5 3 true (updF 0 (clF [t0,t1,t2]) (clC (t0.jn c)))),(20, .obs (shO most s0)),(21, .obs (shO most s1)),(22, .obs (shO most s2))]) h0 ⟨rfl,OEq.refl _,rfl,OEq.refl _,rfl,OEq.row rfl (fun m hm => match m,hm with | 0,_ => rfl | 1,_ => rfl | 2,_ => rfl | k + 3,h => absurd h (by omega)),rfl,OEq.refl _,rfl,OEq.refl _,rfl,OEq.refl _,trivial⟩
 have hj := cjoin_spec t0 c
 dsimp only [clC] at hj ⊢
 refine mspec_of lay_ok 15032387815 40 Try.func38 rfl rfl rfl ?_
 repeat' ((conv => whnf); first | refine K1.a ?_ | refine K1.b ?_ | refine K1.c ?_ | refine K1.d ?_ | refine K1.e ?_ | refine K1.f ?_ | refine ACall.plain _ _ (hj) (SubL.cons (.eq _) (SubL.cons (.eq _) .nil)) rfl ?_ | refine ACall.chgR 99 [(0,_),(10,_),(11,_),(20,_),(21,_),(22,_)] (h0) rfl ⟨rfl,rfl,rfl,rfl,rfl,rfl,trivial⟩ rfl rfl ?_ | refine ACall.chgR 99 [(0,_),(10,_),(11,_),(20,_),(21,_),(22,_)] (h1) rfl ⟨rfl,rfl,rfl,rfl,rfl,rfl,trivial⟩ rfl rfl ?_ | refine ACall.chgR 99 [(0,_),(10,_),(11,_),(20,_),(21,_),(22,_)] (h2) rfl ⟨rfl,rfl,rfl,rfl,rfl,rfl,trivial⟩ rfl rfl ?_ | refine ACall.into 19 _ _ Try.func66 rfl rfl rfl ?_ | refine ALoop.rounds 6 ?_ | refine InA.mk (by decide) ?_ | refine Spl.yes (by decide) ?_ | refine Spl.no (by decide) ?_ | refine Spl.mk (fun _ => ?_) (fun _ => ?_) | refine SNil.mk (fun _ => ?_) ?_ | refine K1.g ?_ | refine ASl.frz ?_ | refine Wr.b64 ?_ | refine Wr.bu64 ?_ | refine Wr.bu32 ?_ | refine Wr.bu8 ?_ | refine K1.u8 ?_ | refine K1.u64 ?_ | refine K1.u32 ?_ | refine K1.h ?_ | refine K1.i ?_ | refine K1.q ?_ | refine ADraw.sched (id := 3) lay_ok (awp_snd lay_ok _) [(0,none),(1,none),(2,none),(3,none),(4,none),(5,none),(6,none),(7,none),(8,none),(9,none),(10,none),(11,none),(12,none),(13,some [12,11,8,6]),(14,none),(15,some [12,11,8,6,3,1])] [(2,[1]),(3,[1]),(7,[6]),(8,[6]),(10,[8,6]),(11,[8,6]),(13,[12,11,8,6]),(14,[12,11,8,6,3,1]),(15,[12,11,8,6,3,1])] follows_ok (by kernel_rfl) ?_ | refine K1.j ?_ | refine K1.k ?_ | refine BSpl.dec (fun _ => ?_) (fun _ => ?_) | refine K1.l ?_ | refine K1.n ?_ | refine BSpl.mk (fun _ => ?_) (fun _ => ?_))
 all_goals (conv => whnf)
 refine ⟨[],rfl,rfl,?_,rfl,rfl,AEq.refl _⟩
 repeat' first | exact trivial | refine ⟨⟨_,rfl,OEq.refl _⟩,?_⟩
set_option maxHeartbeats 4000000 in
set_option maxRecDepth 100000 in
theorem pt_ack_3_1 (most : Int) (s0 s1 s2 : Shf) (t0 t1 t2 : Clk) (g0 : ShB s0) (g1 : ShB s1) (g2 : ShB s2) (c : Clk) : MSpec Try.prog 38 (ptH most ⟨[s0,s1,s2],[t0,t1,t2]⟩ ()) [.box 0 0, .v (.int .i64 1), .agg (clC c)] (.v (.int .i64 0)) (ptH most (ackP ⟨[s0,s1,s2],[t0,t1,t2]⟩ 1 c) ()) := by
 dsimp only [ackP,modN,cutAll]
 have h0 := pt_cut_3_0 most s0 s1 s2 t0 (t1.jn c) t2 g0
 have h1 := pt_cut_3_1 most (cutS s0 (leastP [t0,t1.jn c,t2] 0)) s1 s2 t0 (t1.jn c) t2 g1
 have h2 := pt_cut_3_2 most (cutS s0 (leastP [t0,t1.jn c,t2] 0)) (cutS s1 (leastP [t0,t1.jn c,t2] 1)) s2 t0 (t1.jn c) t2 g2
 dsimp only [ptH,ptB,clRow,ptrs,shs,cutP,modN,List.length] at h0 h1 h2 ⊢
 have h0 := MSpec.ins (hin' := [(0, .box 94 [.own 10, .own 11]),(10, .rn (90 : Nat) [.box 20 0, .box 21 0, .box 22 0]),(11, .row 31 5 3 true (updF 1 (clF [t0,t1,t2]) (clC (t1.jn c)))),(20, .obs (shO most s0)),(21, .obs (shO most s1)),(22, .obs (shO most s2))]) h0 ⟨rfl,OEq.refl _,rfl,OEq.refl _,rfl,OEq.row rfl (fun m hm => match m,hm with | 0,_ => rfl | 1,_ => rfl | 2,_ => rfl | k + 3,h => absurd h (by omega)),rfl,OEq.refl _,rfl,OEq.refl _,rfl,OEq.refl _,trivial⟩
 have hj := cjoin_spec t1 c
 dsimp only [clC] at hj ⊢
 refine mspec_of lay_ok 15032387815 40 Try.func38 rfl rfl rfl ?_
 repeat' ((conv => whnf); first | refine K1.a ?_ | refine K1.b ?_ | refine K1.c ?_ | refine K1.d ?_ | refine K1.e ?_ | refine K1.f ?_ | refine ACall.plain _ _ (hj) (SubL.cons (.eq _) (SubL.cons (.eq _) .nil)) rfl ?_ | refine ACall.chgR 99 [(0,_),(10,_),(11,_),(20,_),(21,_),(22,_)] (h0) rfl ⟨rfl,rfl,rfl,rfl,rfl,rfl,trivial⟩ rfl rfl ?_ | refine ACall.chgR 99 [(0,_),(10,_),(11,_),(20,_),(21,_),(22,_)] (h1) rfl ⟨rfl,rfl,rfl,rfl,rfl,rfl,trivial⟩ rfl rfl ?_ | refine ACall.chgR 99 [(0,_),(10,_),(11,_),(20,_),(21,_),(22,_)] (h2) rfl ⟨rfl,rfl,rfl,rfl,rfl,rfl,trivial⟩ rfl rfl ?_ | refine ACall.into 19 _ _ Try.func66 rfl rfl rfl ?_ | refine ALoop.rounds 6 ?_ | refine InA.mk (by decide) ?_ | refine Spl.yes (by decide) ?_ | refine Spl.no (by decide) ?_ | refine Spl.mk (fun _ => ?_) (fun _ => ?_) | refine SNil.mk (fun _ => ?_) ?_ | refine K1.g ?_ | refine ASl.frz ?_ | refine Wr.b64 ?_ | refine Wr.bu64 ?_ | refine Wr.bu32 ?_ | refine Wr.bu8 ?_ | refine K1.u8 ?_ | refine K1.u64 ?_ | refine K1.u32 ?_ | refine K1.h ?_ | refine K1.i ?_ | refine K1.q ?_ | refine ADraw.sched (id := 3) lay_ok (awp_snd lay_ok _) [(0,none),(1,none),(2,none),(3,none),(4,none),(5,none),(6,none),(7,none),(8,none),(9,none),(10,none),(11,none),(12,none),(13,some [12,11,8,6]),(14,none),(15,some [12,11,8,6,3,1])] [(2,[1]),(3,[1]),(7,[6]),(8,[6]),(10,[8,6]),(11,[8,6]),(13,[12,11,8,6]),(14,[12,11,8,6,3,1]),(15,[12,11,8,6,3,1])] follows_ok (by kernel_rfl) ?_ | refine K1.j ?_ | refine K1.k ?_ | refine BSpl.dec (fun _ => ?_) (fun _ => ?_) | refine K1.l ?_ | refine K1.n ?_ | refine BSpl.mk (fun _ => ?_) (fun _ => ?_))
 all_goals (conv => whnf)
 refine ⟨[],rfl,rfl,?_,rfl,rfl,AEq.refl _⟩
 repeat' first | exact trivial | refine ⟨⟨_,rfl,OEq.refl _⟩,?_⟩
set_option maxHeartbeats 4000000 in
set_option maxRecDepth 100000 in
theorem pt_ack_3_2 (most : Int) (s0 s1 s2 : Shf) (t0 t1 t2 : Clk) (g0 : ShB s0) (g1 : ShB s1) (g2 : ShB s2) (c : Clk) : MSpec Try.prog 38 (ptH most ⟨[s0,s1,s2],[t0,t1,t2]⟩ ()) [.box 0 0, .v (.int .i64 2), .agg (clC c)] (.v (.int .i64 0)) (ptH most (ackP ⟨[s0,s1,s2],[t0,t1,t2]⟩ 2 c) ()) := by
 dsimp only [ackP,modN,cutAll]
 have h0 := pt_cut_3_0 most s0 s1 s2 t0 t1 (t2.jn c) g0
 have h1 := pt_cut_3_1 most (cutS s0 (leastP [t0,t1,t2.jn c] 0)) s1 s2 t0 t1 (t2.jn c) g1
 have h2 := pt_cut_3_2 most (cutS s0 (leastP [t0,t1,t2.jn c] 0)) (cutS s1 (leastP [t0,t1,t2.jn c] 1)) s2 t0 t1 (t2.jn c) g2
 dsimp only [ptH,ptB,clRow,ptrs,shs,cutP,modN,List.length] at h0 h1 h2 ⊢
 have h0 := MSpec.ins (hin' := [(0, .box 94 [.own 10, .own 11]),(10, .rn (90 : Nat) [.box 20 0, .box 21 0, .box 22 0]),(11, .row 31 5 3 true (updF 2 (clF [t0,t1,t2]) (clC (t2.jn c)))),(20, .obs (shO most s0)),(21, .obs (shO most s1)),(22, .obs (shO most s2))]) h0 ⟨rfl,OEq.refl _,rfl,OEq.refl _,rfl,OEq.row rfl (fun m hm => match m,hm with | 0,_ => rfl | 1,_ => rfl | 2,_ => rfl | k + 3,h => absurd h (by omega)),rfl,OEq.refl _,rfl,OEq.refl _,rfl,OEq.refl _,trivial⟩
 have hj := cjoin_spec t2 c
 dsimp only [clC] at hj ⊢
 refine mspec_of lay_ok 15032387815 40 Try.func38 rfl rfl rfl ?_
 repeat' ((conv => whnf); first | refine K1.a ?_ | refine K1.b ?_ | refine K1.c ?_ | refine K1.d ?_ | refine K1.e ?_ | refine K1.f ?_ | refine ACall.plain _ _ (hj) (SubL.cons (.eq _) (SubL.cons (.eq _) .nil)) rfl ?_ | refine ACall.chgR 99 [(0,_),(10,_),(11,_),(20,_),(21,_),(22,_)] (h0) rfl ⟨rfl,rfl,rfl,rfl,rfl,rfl,trivial⟩ rfl rfl ?_ | refine ACall.chgR 99 [(0,_),(10,_),(11,_),(20,_),(21,_),(22,_)] (h1) rfl ⟨rfl,rfl,rfl,rfl,rfl,rfl,trivial⟩ rfl rfl ?_ | refine ACall.chgR 99 [(0,_),(10,_),(11,_),(20,_),(21,_),(22,_)] (h2) rfl ⟨rfl,rfl,rfl,rfl,rfl,rfl,trivial⟩ rfl rfl ?_ | refine ACall.into 19 _ _ Try.func66 rfl rfl rfl ?_ | refine ALoop.rounds 6 ?_ | refine InA.mk (by decide) ?_ | refine Spl.yes (by decide) ?_ | refine Spl.no (by decide) ?_ | refine Spl.mk (fun _ => ?_) (fun _ => ?_) | refine SNil.mk (fun _ => ?_) ?_ | refine K1.g ?_ | refine ASl.frz ?_ | refine Wr.b64 ?_ | refine Wr.bu64 ?_ | refine Wr.bu32 ?_ | refine Wr.bu8 ?_ | refine K1.u8 ?_ | refine K1.u64 ?_ | refine K1.u32 ?_ | refine K1.h ?_ | refine K1.i ?_ | refine K1.q ?_ | refine ADraw.sched (id := 3) lay_ok (awp_snd lay_ok _) [(0,none),(1,none),(2,none),(3,none),(4,none),(5,none),(6,none),(7,none),(8,none),(9,none),(10,none),(11,none),(12,none),(13,some [12,11,8,6]),(14,none),(15,some [12,11,8,6,3,1])] [(2,[1]),(3,[1]),(7,[6]),(8,[6]),(10,[8,6]),(11,[8,6]),(13,[12,11,8,6]),(14,[12,11,8,6,3,1]),(15,[12,11,8,6,3,1])] follows_ok (by kernel_rfl) ?_ | refine K1.j ?_ | refine K1.k ?_ | refine BSpl.dec (fun _ => ?_) (fun _ => ?_) | refine K1.l ?_ | refine K1.n ?_ | refine BSpl.mk (fun _ => ?_) (fun _ => ?_))
 all_goals (conv => whnf)
 refine ⟨[],rfl,rfl,?_,rfl,rfl,AEq.refl _⟩
 repeat' first | exact trivial | refine ⟨⟨_,rfl,OEq.refl _⟩,?_⟩
set_option maxHeartbeats 4000000 in
set_option maxRecDepth 100000 in
theorem pt_ack_4_0 (most : Int) (s0 s1 s2 s3 : Shf) (t0 t1 t2 t3 : Clk) (g0 : ShB s0) (g1 : ShB s1) (g2 : ShB s2) (g3 : ShB s3) (c : Clk) : MSpec Try.prog 38 (ptH most ⟨[s0,s1,s2,s3],[t0,t1,t2,t3]⟩ ()) [.box 0 0, .v (.int .i64 0), .agg (clC c)] (.v (.int .i64 0)) (ptH most (ackP ⟨[s0,s1,s2,s3],[t0,t1,t2,t3]⟩ 0 c) ()) := by
 dsimp only [ackP,modN,cutAll]
 have h0 := pt_cut_4_0 most s0 s1 s2 s3 (t0.jn c) t1 t2 t3 g0
 have h1 := pt_cut_4_1 most (cutS s0 (leastP [t0.jn c,t1,t2,t3] 0)) s1 s2 s3 (t0.jn c) t1 t2 t3 g1
 have h2 := pt_cut_4_2 most (cutS s0 (leastP [t0.jn c,t1,t2,t3] 0)) (cutS s1 (leastP [t0.jn c,t1,t2,t3] 1)) s2 s3 (t0.jn c) t1 t2 t3 g2
 have h3 := pt_cut_4_3 most (cutS s0 (leastP [t0.jn c,t1,t2,t3] 0)) (cutS s1 (leastP [t0.jn c,t1,t2,t3] 1)) (cutS s2 (leastP [t0.jn c,t1,t2,t3] 2)) s3 (t0.jn c) t1 t2 t3 g3
 dsimp only [ptH,ptB,clRow,ptrs,shs,cutP,modN,List.length] at h0 h1 h2 h3 ⊢
 have h0 := MSpec.ins (hin' := [(0, .box 94 [.own 10, .own 11]),(10, .rn (90 : Nat) [.box 20 0, .box 21 0, .box 22 0, .box 23 0]),(11, .row 31 5 4 true (updF 0 (clF [t0,t1,t2,t3]) (clC (t0.jn c)))),(20, .obs (shO most s0)),(21, .obs (shO most s1)),(22, .obs (shO most s2)),(23, .obs (shO most s3))]) h0 ⟨rfl,OEq.refl _,rfl,OEq.refl _,rfl,OEq.row rfl (fun m hm => match m,hm with | 0,_ => rfl | 1,_ => rfl | 2,_ => rfl | 3,_ => rfl | k + 4,h => absurd h (by omega)),rfl,OEq.refl _,rfl,OEq.refl _,rfl,OEq.refl _,rfl,OEq.refl _,trivial⟩
 have hj := cjoin_spec t0 c
 dsimp only [clC] at hj ⊢
 refine mspec_of lay_ok 15032387815 40 Try.func38 rfl rfl rfl ?_
 repeat' ((conv => whnf); first | refine K1.a ?_ | refine K1.b ?_ | refine K1.c ?_ | refine K1.d ?_ | refine K1.e ?_ | refine K1.f ?_ | refine ACall.plain _ _ (hj) (SubL.cons (.eq _) (SubL.cons (.eq _) .nil)) rfl ?_ | refine ACall.chgR 99 [(0,_),(10,_),(11,_),(20,_),(21,_),(22,_),(23,_)] (h0) rfl ⟨rfl,rfl,rfl,rfl,rfl,rfl,rfl,trivial⟩ rfl rfl ?_ | refine ACall.chgR 99 [(0,_),(10,_),(11,_),(20,_),(21,_),(22,_),(23,_)] (h1) rfl ⟨rfl,rfl,rfl,rfl,rfl,rfl,rfl,trivial⟩ rfl rfl ?_ | refine ACall.chgR 99 [(0,_),(10,_),(11,_),(20,_),(21,_),(22,_),(23,_)] (h2) rfl ⟨rfl,rfl,rfl,rfl,rfl,rfl,rfl,trivial⟩ rfl rfl ?_ | refine ACall.chgR 99 [(0,_),(10,_),(11,_),(20,_),(21,_),(22,_),(23,_)] (h3) rfl ⟨rfl,rfl,rfl,rfl,rfl,rfl,rfl,trivial⟩ rfl rfl ?_ | refine ACall.into 19 _ _ Try.func66 rfl rfl rfl ?_ | refine ALoop.rounds 6 ?_ | refine InA.mk (by decide) ?_ | refine Spl.yes (by decide) ?_ | refine Spl.no (by decide) ?_ | refine Spl.mk (fun _ => ?_) (fun _ => ?_) | refine SNil.mk (fun _ => ?_) ?_ | refine K1.g ?_ | refine ASl.frz ?_ | refine Wr.b64 ?_ | refine Wr.bu64 ?_ | refine Wr.bu32 ?_ | refine Wr.bu8 ?_ | refine K1.u8 ?_ | refine K1.u64 ?_ | refine K1.u32 ?_ | refine K1.h ?_ | refine K1.i ?_ | refine K1.q ?_ | refine ADraw.sched (id := 3) lay_ok (awp_snd lay_ok _) [(0,none),(1,none),(2,none),(3,none),(4,none),(5,none),(6,none),(7,none),(8,none),(9,none),(10,none),(11,none),(12,none),(13,some [12,11,8,6]),(14,none),(15,some [12,11,8,6,3,1])] [(2,[1]),(3,[1]),(7,[6]),(8,[6]),(10,[8,6]),(11,[8,6]),(13,[12,11,8,6]),(14,[12,11,8,6,3,1]),(15,[12,11,8,6,3,1])] follows_ok (by kernel_rfl) ?_ | refine K1.j ?_ | refine K1.k ?_ | refine BSpl.dec (fun _ => ?_) (fun _ => ?_) | refine K1.l ?_ | refine K1.n ?_ | refine BSpl.mk (fun _ => ?_) (fun _ => ?_))
 all_goals (conv => whnf)
 refine ⟨[],rfl,rfl,?_,rfl,rfl,AEq.refl _⟩
 repeat' first | exact trivial | refine ⟨⟨_,rfl,OEq.refl _⟩,?_⟩
set_option maxHeartbeats 4000000 in
set_option maxRecDepth 100000 in
theorem pt_ack_4_1 (most : Int) (s0 s1 s2 s3 : Shf) (t0 t1 t2 t3 : Clk) (g0 : ShB s0) (g1 : ShB s1) (g2 : ShB s2) (g3 : ShB s3) (c : Clk) : MSpec Try.prog 38 (ptH most ⟨[s0,s1,s2,s3],[t0,t1,t2,t3]⟩ ()) [.box 0 0, .v (.int .i64 1), .agg (clC c)] (.v (.int .i64 0)) (ptH most (ackP ⟨[s0,s1,s2,s3],[t0,t1,t2,t3]⟩ 1 c) ()) := by
 dsimp only [ackP,modN,cutAll]
 have h0 := pt_cut_4_0 most s0 s1 s2 s3 t0 (t1.jn c) t2 t3 g0
 have h1 := pt_cut_4_1 most (cutS s0 (leastP [t0,t1.jn c,t2,t3] 0)) s1 s2 s3 t0 (t1.jn c) t2 t3 g1
 have h2 := pt_cut_4_2 most (cutS s0 (leastP [t0,t1.jn c,t2,t3] 0)) (cutS s1 (leastP [t0,t1.jn c,t2,t3] 1)) s2 s3 t0 (t1.jn c) t2 t3 g2
 have h3 := pt_cut_4_3 most (cutS s0 (leastP [t0,t1.jn c,t2,t3] 0)) (cutS s1 (leastP [t0,t1.jn c,t2,t3] 1)) (cutS s2 (leastP [t0,t1.jn c,t2,t3] 2)) s3 t0 (t1.jn c) t2 t3 g3
 dsimp only [ptH,ptB,clRow,ptrs,shs,cutP,modN,List.length] at h0 h1 h2 h3 ⊢
 have h0 := MSpec.ins (hin' := [(0, .box 94 [.own 10, .own 11]),(10, .rn (90 : Nat) [.box 20 0, .box 21 0, .box 22 0, .box 23 0]),(11, .row 31 5 4 true (updF 1 (clF [t0,t1,t2,t3]) (clC (t1.jn c)))),(20, .obs (shO most s0)),(21, .obs (shO most s1)),(22, .obs (shO most s2)),(23, .obs (shO most s3))]) h0 ⟨rfl,OEq.refl _,rfl,OEq.refl _,rfl,OEq.row rfl (fun m hm => match m,hm with | 0,_ => rfl | 1,_ => rfl | 2,_ => rfl | 3,_ => rfl | k + 4,h => absurd h (by omega)),rfl,OEq.refl _,rfl,OEq.refl _,rfl,OEq.refl _,rfl,OEq.refl _,trivial⟩
 have hj := cjoin_spec t1 c
 dsimp only [clC] at hj ⊢
 refine mspec_of lay_ok 15032387815 40 Try.func38 rfl rfl rfl ?_
 repeat' ((conv => whnf); first | refine K1.a ?_ | refine K1.b ?_ | refine K1.c ?_ | refine K1.d ?_ | refine K1.e ?_ | refine K1.f ?_ | refine ACall.plain _ _ (hj) (SubL.cons (.eq _) (SubL.cons (.eq _) .nil)) rfl ?_ | refine ACall.chgR 99 [(0,_),(10,_),(11,_),(20,_),(21,_),(22,_),(23,_)] (h0) rfl ⟨rfl,rfl,rfl,rfl,rfl,rfl,rfl,trivial⟩ rfl rfl ?_ | refine ACall.chgR 99 [(0,_),(10,_),(11,_),(20,_),(21,_),(22,_),(23,_)] (h1) rfl ⟨rfl,rfl,rfl,rfl,rfl,rfl,rfl,trivial⟩ rfl rfl ?_ | refine ACall.chgR 99 [(0,_),(10,_),(11,_),(20,_),(21,_),(22,_),(23,_)] (h2) rfl ⟨rfl,rfl,rfl,rfl,rfl,rfl,rfl,trivial⟩ rfl rfl ?_ | refine ACall.chgR 99 [(0,_),(10,_),(11,_),(20,_),(21,_),(22,_),(23,_)] (h3) rfl ⟨rfl,rfl,rfl,rfl,rfl,rfl,rfl,trivial⟩ rfl rfl ?_ | refine ACall.into 19 _ _ Try.func66 rfl rfl rfl ?_ | refine ALoop.rounds 6 ?_ | refine InA.mk (by decide) ?_ | refine Spl.yes (by decide) ?_ | refine Spl.no (by decide) ?_ | refine Spl.mk (fun _ => ?_) (fun _ => ?_) | refine SNil.mk (fun _ => ?_) ?_ | refine K1.g ?_ | refine ASl.frz ?_ | refine Wr.b64 ?_ | refine Wr.bu64 ?_ | refine Wr.bu32 ?_ | refine Wr.bu8 ?_ | refine K1.u8 ?_ | refine K1.u64 ?_ | refine K1.u32 ?_ | refine K1.h ?_ | refine K1.i ?_ | refine K1.q ?_ | refine ADraw.sched (id := 3) lay_ok (awp_snd lay_ok _) [(0,none),(1,none),(2,none),(3,none),(4,none),(5,none),(6,none),(7,none),(8,none),(9,none),(10,none),(11,none),(12,none),(13,some [12,11,8,6]),(14,none),(15,some [12,11,8,6,3,1])] [(2,[1]),(3,[1]),(7,[6]),(8,[6]),(10,[8,6]),(11,[8,6]),(13,[12,11,8,6]),(14,[12,11,8,6,3,1]),(15,[12,11,8,6,3,1])] follows_ok (by kernel_rfl) ?_ | refine K1.j ?_ | refine K1.k ?_ | refine BSpl.dec (fun _ => ?_) (fun _ => ?_) | refine K1.l ?_ | refine K1.n ?_ | refine BSpl.mk (fun _ => ?_) (fun _ => ?_))
 all_goals (conv => whnf)
 refine ⟨[],rfl,rfl,?_,rfl,rfl,AEq.refl _⟩
 repeat' first | exact trivial | refine ⟨⟨_,rfl,OEq.refl _⟩,?_⟩
set_option maxHeartbeats 4000000 in
set_option maxRecDepth 100000 in
theorem pt_ack_4_2 (most : Int) (s0 s1 s2 s3 : Shf) (t0 t1 t2 t3 : Clk) (g0 : ShB s0) (g1 : ShB s1) (g2 : ShB s2) (g3 : ShB s3) (c : Clk) : MSpec Try.prog 38 (ptH most ⟨[s0,s1,s2,s3],[t0,t1,t2,t3]⟩ ()) [.box 0 0, .v (.int .i64 2), .agg (clC c)] (.v (.int .i64 0)) (ptH most (ackP ⟨[s0,s1,s2,s3],[t0,t1,t2,t3]⟩ 2 c) ()) := by
 dsimp only [ackP,modN,cutAll]
 have h0 := pt_cut_4_0 most s0 s1 s2 s3 t0 t1 (t2.jn c) t3 g0
 have h1 := pt_cut_4_1 most (cutS s0 (leastP [t0,t1,t2.jn c,t3] 0)) s1 s2 s3 t0 t1 (t2.jn c) t3 g1
 have h2 := pt_cut_4_2 most (cutS s0 (leastP [t0,t1,t2.jn c,t3] 0)) (cutS s1 (leastP [t0,t1,t2.jn c,t3] 1)) s2 s3 t0 t1 (t2.jn c) t3 g2
 have h3 := pt_cut_4_3 most (cutS s0 (leastP [t0,t1,t2.jn c,t3] 0)) (cutS s1 (leastP [t0,t1,t2.jn c,t3] 1)) (cutS s2 (leastP [t0,t1,t2.jn c,t3] 2)) s3 t0 t1 (t2.jn c) t3 g3
 dsimp only [ptH,ptB,clRow,ptrs,shs,cutP,modN,List.length] at h0 h1 h2 h3 ⊢
 have h0 := MSpec.ins (hin' := [(0, .box 94 [.own 10, .own 11]),(10, .rn (90 : Nat) [.box 20 0, .box 21 0, .box 22 0, .box 23 0]),(11, .row 31 5 4 true (updF 2 (clF [t0,t1,t2,t3]) (clC (t2.jn c)))),(20, .obs (shO most s0)),(21, .obs (shO most s1)),(22, .obs (shO most s2)),(23, .obs (shO most s3))]) h0 ⟨rfl,OEq.refl _,rfl,OEq.refl _,rfl,OEq.row rfl (fun m hm => match m,hm with | 0,_ => rfl | 1,_ => rfl | 2,_ => rfl | 3,_ => rfl | k + 4,h => absurd h (by omega)),rfl,OEq.refl _,rfl,OEq.refl _,rfl,OEq.refl _,rfl,OEq.refl _,trivial⟩
 have hj := cjoin_spec t2 c
 dsimp only [clC] at hj ⊢
 refine mspec_of lay_ok 15032387815 40 Try.func38 rfl rfl rfl ?_
 repeat' ((conv => whnf); first | refine K1.a ?_ | refine K1.b ?_ | refine K1.c ?_ | refine K1.d ?_ | refine K1.e ?_ | refine K1.f ?_ | refine ACall.plain _ _ (hj) (SubL.cons (.eq _) (SubL.cons (.eq _) .nil)) rfl ?_ | refine ACall.chgR 99 [(0,_),(10,_),(11,_),(20,_),(21,_),(22,_),(23,_)] (h0) rfl ⟨rfl,rfl,rfl,rfl,rfl,rfl,rfl,trivial⟩ rfl rfl ?_ | refine ACall.chgR 99 [(0,_),(10,_),(11,_),(20,_),(21,_),(22,_),(23,_)] (h1) rfl ⟨rfl,rfl,rfl,rfl,rfl,rfl,rfl,trivial⟩ rfl rfl ?_ | refine ACall.chgR 99 [(0,_),(10,_),(11,_),(20,_),(21,_),(22,_),(23,_)] (h2) rfl ⟨rfl,rfl,rfl,rfl,rfl,rfl,rfl,trivial⟩ rfl rfl ?_ | refine ACall.chgR 99 [(0,_),(10,_),(11,_),(20,_),(21,_),(22,_),(23,_)] (h3) rfl ⟨rfl,rfl,rfl,rfl,rfl,rfl,rfl,trivial⟩ rfl rfl ?_ | refine ACall.into 19 _ _ Try.func66 rfl rfl rfl ?_ | refine ALoop.rounds 6 ?_ | refine InA.mk (by decide) ?_ | refine Spl.yes (by decide) ?_ | refine Spl.no (by decide) ?_ | refine Spl.mk (fun _ => ?_) (fun _ => ?_) | refine SNil.mk (fun _ => ?_) ?_ | refine K1.g ?_ | refine ASl.frz ?_ | refine Wr.b64 ?_ | refine Wr.bu64 ?_ | refine Wr.bu32 ?_ | refine Wr.bu8 ?_ | refine K1.u8 ?_ | refine K1.u64 ?_ | refine K1.u32 ?_ | refine K1.h ?_ | refine K1.i ?_ | refine K1.q ?_ | refine ADraw.sched (id := 3) lay_ok (awp_snd lay_ok _) [(0,none),(1,none),(2,none),(3,none),(4,none),(5,none),(6,none),(7,none),(8,none),(9,none),(10,none),(11,none),(12,none),(13,some [12,11,8,6]),(14,none),(15,some [12,11,8,6,3,1])] [(2,[1]),(3,[1]),(7,[6]),(8,[6]),(10,[8,6]),(11,[8,6]),(13,[12,11,8,6]),(14,[12,11,8,6,3,1]),(15,[12,11,8,6,3,1])] follows_ok (by kernel_rfl) ?_ | refine K1.j ?_ | refine K1.k ?_ | refine BSpl.dec (fun _ => ?_) (fun _ => ?_) | refine K1.l ?_ | refine K1.n ?_ | refine BSpl.mk (fun _ => ?_) (fun _ => ?_))
 all_goals (conv => whnf)
 refine ⟨[],rfl,rfl,?_,rfl,rfl,AEq.refl _⟩
 repeat' first | exact trivial | refine ⟨⟨_,rfl,OEq.refl _⟩,?_⟩
set_option maxHeartbeats 4000000 in
set_option maxRecDepth 100000 in
theorem pt_ack_4_3 (most : Int) (s0 s1 s2 s3 : Shf) (t0 t1 t2 t3 : Clk) (g0 : ShB s0) (g1 : ShB s1) (g2 : ShB s2) (g3 : ShB s3) (c : Clk) : MSpec Try.prog 38 (ptH most ⟨[s0,s1,s2,s3],[t0,t1,t2,t3]⟩ ()) [.box 0 0, .v (.int .i64 3), .agg (clC c)] (.v (.int .i64 0)) (ptH most (ackP ⟨[s0,s1,s2,s3],[t0,t1,t2,t3]⟩ 3 c) ()) := by
 dsimp only [ackP,modN,cutAll]
 have h0 := pt_cut_4_0 most s0 s1 s2 s3 t0 t1 t2 (t3.jn c) g0
 have h1 := pt_cut_4_1 most (cutS s0 (leastP [t0,t1,t2,t3.jn c] 0)) s1 s2 s3 t0 t1 t2 (t3.jn c) g1
 have h2 := pt_cut_4_2 most (cutS s0 (leastP [t0,t1,t2,t3.jn c] 0)) (cutS s1 (leastP [t0,t1,t2,t3.jn c] 1)) s2 s3 t0 t1 t2 (t3.jn c) g2
 have h3 := pt_cut_4_3 most (cutS s0 (leastP [t0,t1,t2,t3.jn c] 0)) (cutS s1 (leastP [t0,t1,t2,t3.jn c] 1)) (cutS s2 (leastP [t0,t1,t2,t3.jn c] 2)) s3 t0 t1 t2 (t3.jn c) g3
 dsimp only [ptH,ptB,clRow,ptrs,shs,cutP,modN,List.length] at h0 h1 h2 h3 ⊢
 have h0 := MSpec.ins (hin' := [(0, .box 94 [.own 10, .own 11]),(10, .rn (90 : Nat) [.box 20 0, .box 21 0, .box 22 0, .box 23 0]),(11, .row 31 5 4 true (updF 3 (clF [t0,t1,t2,t3]) (clC (t3.jn c)))),(20, .obs (shO most s0)),(21, .obs (shO most s1)),(22, .obs (shO most s2)),(23, .obs (shO most s3))]) h0 ⟨rfl,OEq.refl _,rfl,OEq.refl _,rfl,OEq.row rfl (fun m hm => match m,hm with | 0,_ => rfl | 1,_ => rfl | 2,_ => rfl | 3,_ => rfl | k + 4,h => absurd h (by omega)),rfl,OEq.refl _,rfl,OEq.refl _,rfl,OEq.refl _,rfl,OEq.refl _,trivial⟩
 have hj := cjoin_spec t3 c
 dsimp only [clC] at hj ⊢
 refine mspec_of lay_ok 15032387815 40 Try.func38 rfl rfl rfl ?_
 repeat' ((conv => whnf); first | refine K1.a ?_ | refine K1.b ?_ | refine K1.c ?_ | refine K1.d ?_ | refine K1.e ?_ | refine K1.f ?_ | refine ACall.plain _ _ (hj) (SubL.cons (.eq _) (SubL.cons (.eq _) .nil)) rfl ?_ | refine ACall.chgR 99 [(0,_),(10,_),(11,_),(20,_),(21,_),(22,_),(23,_)] (h0) rfl ⟨rfl,rfl,rfl,rfl,rfl,rfl,rfl,trivial⟩ rfl rfl ?_ | refine ACall.chgR 99 [(0,_),(10,_),(11,_),(20,_),(21,_),(22,_),(23,_)] (h1) rfl ⟨rfl,rfl,rfl,rfl,rfl,rfl,rfl,trivial⟩ rfl rfl ?_ | refine ACall.chgR 99 [(0,_),(10,_),(11,_),(20,_),(21,_),(22,_),(23,_)] (h2) rfl ⟨rfl,rfl,rfl,rfl,rfl,rfl,rfl,trivial⟩ rfl rfl ?_ | refine ACall.chgR 99 [(0,_),(10,_),(11,_),(20,_),(21,_),(22,_),(23,_)] (h3) rfl ⟨rfl,rfl,rfl,rfl,rfl,rfl,rfl,trivial⟩ rfl rfl ?_ | refine ACall.into 19 _ _ Try.func66 rfl rfl rfl ?_ | refine ALoop.rounds 6 ?_ | refine InA.mk (by decide) ?_ | refine Spl.yes (by decide) ?_ | refine Spl.no (by decide) ?_ | refine Spl.mk (fun _ => ?_) (fun _ => ?_) | refine SNil.mk (fun _ => ?_) ?_ | refine K1.g ?_ | refine ASl.frz ?_ | refine Wr.b64 ?_ | refine Wr.bu64 ?_ | refine Wr.bu32 ?_ | refine Wr.bu8 ?_ | refine K1.u8 ?_ | refine K1.u64 ?_ | refine K1.u32 ?_ | refine K1.h ?_ | refine K1.i ?_ | refine K1.q ?_ | refine ADraw.sched (id := 3) lay_ok (awp_snd lay_ok _) [(0,none),(1,none),(2,none),(3,none),(4,none),(5,none),(6,none),(7,none),(8,none),(9,none),(10,none),(11,none),(12,none),(13,some [12,11,8,6]),(14,none),(15,some [12,11,8,6,3,1])] [(2,[1]),(3,[1]),(7,[6]),(8,[6]),(10,[8,6]),(11,[8,6]),(13,[12,11,8,6]),(14,[12,11,8,6,3,1]),(15,[12,11,8,6,3,1])] follows_ok (by kernel_rfl) ?_ | refine K1.j ?_ | refine K1.k ?_ | refine BSpl.dec (fun _ => ?_) (fun _ => ?_) | refine K1.l ?_ | refine K1.n ?_ | refine BSpl.mk (fun _ => ?_) (fun _ => ?_))
 all_goals (conv => whnf)
 refine ⟨[],rfl,rfl,?_,rfl,rfl,AEq.refl _⟩
 repeat' first | exact trivial | refine ⟨⟨_,rfl,OEq.refl _⟩,?_⟩
set_option maxHeartbeats 4000000 in
set_option maxRecDepth 100000 in
theorem pt_ack_5_0 (most : Int) (s0 s1 s2 s3 s4 : Shf) (t0 t1 t2 t3 t4 : Clk) (g0 : ShB s0) (g1 : ShB s1) (g2 : ShB s2) (g3 : ShB s3) (g4 : ShB s4) (c : Clk) : MSpec Try.prog 38 (ptH most ⟨[s0,s1,s2,s3,s4],[t0,t1,t2,t3,t4]⟩ ()) [.box 0 0, .v (.int .i64 0), .agg (clC c)] (.v (.int .i64 0)) (ptH most (ackP ⟨[s0,s1,s2,s3,s4],[t0,t1,t2,t3,t4]⟩ 0 c) ()) := by
 dsimp only [ackP,modN,cutAll]
 have h0 := pt_cut_5_0 most s0 s1 s2 s3 s4 (t0.jn c) t1 t2 t3 t4 g0
 have h1 := pt_cut_5_1 most (cutS s0 (leastP [t0.jn c,t1,t2,t3,t4] 0)) s1 s2 s3 s4 (t0.jn c) t1 t2 t3 t4 g1
 have h2 := pt_cut_5_2 most (cutS s0 (leastP [t0.jn c,t1,t2,t3,t4] 0)) (cutS s1 (leastP [t0.jn c,t1,t2,t3,t4] 1)) s2 s3 s4 (t0.jn c) t1 t2 t3 t4 g2
 have h3 := pt_cut_5_3 most (cutS s0 (leastP [t0.jn c,t1,t2,t3,t4] 0)) (cutS s1 (leastP [t0.jn c,t1,t2,t3,t4] 1)) (cutS s2 (leastP [t0.jn c,t1,t2,t3,t4] 2)) s3 s4 (t0.jn c) t1 t2 t3 t4 g3
 have h4 := pt_cut_5_4 most (cutS s0 (leastP [t0.jn c,t1,t2,t3,t4] 0)) (cutS s1 (leastP [t0.jn c,t1,t2,t3,t4] 1)) (cutS s2 (leastP [t0.jn c,t1,t2,t3,t4] 2)) (cutS s3 (leastP [t0.jn c,t1,t2,t3,t4] 3)) s4 (t0.jn c) t1 t2 t3 t4 g4
 dsimp only [ptH,ptB,clRow,ptrs,shs,cutP,modN,List.length] at h0 h1 h2 h3 h4 ⊢
 have h0 := MSpec.ins (hin' := [(0, .box 94 [.own 10, .own 11]),(10, .rn (90 : Nat) [.box 20 0, .box 21 0, .box 22 0, .box 23 0, .box 24 0]),(11, .row 31 5 5 true (updF 0 (clF [t0,t1,t2,t3,t4]) (clC (t0.jn c)))),(20, .obs (shO most s0)),(21, .obs (shO most s1)),(22, .obs (shO most s2)),(23, .obs (shO most s3)),(24, .obs (shO most s4))]) h0 ⟨rfl,OEq.refl _,rfl,OEq.refl _,rfl,OEq.row rfl (fun m hm => match m,hm with | 0,_ => rfl | 1,_ => rfl | 2,_ => rfl | 3,_ => rfl | 4,_ => rfl | k + 5,h => absurd h (by omega)),rfl,OEq.refl _,rfl,OEq.refl _,rfl,OEq.refl _,rfl,OEq.refl _,rfl,OEq.refl _,trivial⟩
 have hj := cjoin_spec t0 c
 dsimp only [clC] at hj ⊢
 refine mspec_of lay_ok 15032387815 40 Try.func38 rfl rfl rfl ?_
 repeat' ((conv => whnf); first | refine K1.a ?_ | refine K1.b ?_ | refine K1.c ?_ | refine K1.d ?_ | refine K1.e ?_ | refine K1.f ?_ | refine ACall.plain _ _ (hj) (SubL.cons (.eq _) (SubL.cons (.eq _) .nil)) rfl ?_ | refine ACall.chgR 99 [(0,_),(10,_),(11,_),(20,_),(21,_),(22,_),(23,_),(24,_)] (h0) rfl ⟨rfl,rfl,rfl,rfl,rfl,rfl,rfl,rfl,trivial⟩ rfl rfl ?_ | refine ACall.chgR 99 [(0,_),(10,_),(11,_),(20,_),(21,_),(22,_),(23,_),(24,_)] (h1) rfl ⟨rfl,rfl,rfl,rfl,rfl,rfl,rfl,rfl,trivial⟩ rfl rfl ?_ | refine ACall.chgR 99 [(0,_),(10,_),(11,_),(20,_),(21,_),(22,_),(23,_),(24,_)] (h2) rfl ⟨rfl,rfl,rfl,rfl,rfl,rfl,rfl,rfl,trivial⟩ rfl rfl ?_ | refine ACall.chgR 99 [(0,_),(10,_),(11,_),(20,_),(21,_),(22,_),(23,_),(24,_)] (h3) rfl ⟨rfl,rfl,rfl,rfl,rfl,rfl,rfl,rfl,trivial⟩ rfl rfl ?_ | refine ACall.chgR 99 [(0,_),(10,_),(11,_),(20,_),(21,_),(22,_),(23,_),(24,_)] (h4) rfl ⟨rfl,rfl,rfl,rfl,rfl,rfl,rfl,rfl,trivial⟩ rfl rfl ?_ | refine ACall.into 19 _ _ Try.func66 rfl rfl rfl ?_ | refine ALoop.rounds 6 ?_ | refine InA.mk (by decide) ?_ | refine Spl.yes (by decide) ?_ | refine Spl.no (by decide) ?_ | refine Spl.mk (fun _ => ?_) (fun _ => ?_) | refine SNil.mk (fun _ => ?_) ?_ | refine K1.g ?_ | refine ASl.frz ?_ | refine Wr.b64 ?_ | refine Wr.bu64 ?_ | refine Wr.bu32 ?_ | refine Wr.bu8 ?_ | refine K1.u8 ?_ | refine K1.u64 ?_ | refine K1.u32 ?_ | refine K1.h ?_ | refine K1.i ?_ | refine K1.q ?_ | refine ADraw.sched (id := 3) lay_ok (awp_snd lay_ok _) [(0,none),(1,none),(2,none),(3,none),(4,none),(5,none),(6,none),(7,none),(8,none),(9,none),(10,none),(11,none),(12,none),(13,some [12,11,8,6]),(14,none),(15,some [12,11,8,6,3,1])] [(2,[1]),(3,[1]),(7,[6]),(8,[6]),(10,[8,6]),(11,[8,6]),(13,[12,11,8,6]),(14,[12,11,8,6,3,1]),(15,[12,11,8,6,3,1])] follows_ok (by kernel_rfl) ?_ | refine K1.j ?_ | refine K1.k ?_ | refine BSpl.dec (fun _ => ?_) (fun _ => ?_) | refine K1.l ?_ | refine K1.n ?_ | refine BSpl.mk (fun _ => ?_) (fun _ => ?_))
 all_goals (conv => whnf)
 refine ⟨[],rfl,rfl,?_,rfl,rfl,AEq.refl _⟩
 repeat' first | exact trivial | refine ⟨⟨_,rfl,OEq.refl _⟩,?_⟩
set_option maxHeartbeats 4000000 in
set_option maxRecDepth 100000 in
theorem pt_ack_5_1 (most : Int) (s0 s1 s2 s3 s4 : Shf) (t0 t1 t2 t3 t4 : Clk) (g0 : ShB s0) (g1 : ShB s1) (g2 : ShB s2) (g3 : ShB s3) (g4 : ShB s4) (c : Clk) : MSpec Try.prog 38 (ptH most ⟨[s0,s1,s2,s3,s4],[t0,t1,t2,t3,t4]⟩ ()) [.box 0 0, .v (.int .i64 1), .agg (clC c)] (.v (.int .i64 0)) (ptH most (ackP ⟨[s0,s1,s2,s3,s4],[t0,t1,t2,t3,t4]⟩ 1 c) ()) := by
 dsimp only [ackP,modN,cutAll]
 have h0 := pt_cut_5_0 most s0 s1 s2 s3 s4 t0 (t1.jn c) t2 t3 t4 g0
 have h1 := pt_cut_5_1 most (cutS s0 (leastP [t0,t1.jn c,t2,t3,t4] 0)) s1 s2 s3 s4 t0 (t1.jn c) t2 t3 t4 g1
 have h2 := pt_cut_5_2 most (cutS s0 (leastP [t0,t1.jn c,t2,t3,t4] 0)) (cutS s1 (leastP [t0,t1.jn c,t2,t3,t4] 1)) s2 s3 s4 t0 (t1.jn c) t2 t3 t4 g2
 have h3 := pt_cut_5_3 most (cutS s0 (leastP [t0,t1.jn c,t2,t3,t4] 0)) (cutS s1 (leastP [t0,t1.jn c,t2,t3,t4] 1)) (cutS s2 (leastP [t0,t1.jn c,t2,t3,t4] 2)) s3 s4 t0 (t1.jn c) t2 t3 t4 g3
 have h4 := pt_cut_5_4 most (cutS s0 (leastP [t0,t1.jn c,t2,t3,t4] 0)) (cutS s1 (leastP [t0,t1.jn c,t2,t3,t4] 1)) (cutS s2 (leastP [t0,t1.jn c,t2,t3,t4] 2)) (cutS s3 (leastP [t0,t1.jn c,t2,t3,t4] 3)) s4 t0 (t1.jn c) t2 t3 t4 g4
 dsimp only [ptH,ptB,clRow,ptrs,shs,cutP,modN,List.length] at h0 h1 h2 h3 h4 ⊢
 have h0 := MSpec.ins (hin' := [(0, .box 94 [.own 10, .own 11]),(10, .rn (90 : Nat) [.box 20 0, .box 21 0, .box 22 0, .box 23 0, .box 24 0]),(11, .row 31 5 5 true (updF 1 (clF [t0,t1,t2,t3,t4]) (clC (t1.jn c)))),(20, .obs (shO most s0)),(21, .obs (shO most s1)),(22, .obs (shO most s2)),(23, .obs (shO most s3)),(24, .obs (shO most s4))]) h0 ⟨rfl,OEq.refl _,rfl,OEq.refl _,rfl,OEq.row rfl (fun m hm => match m,hm with | 0,_ => rfl | 1,_ => rfl | 2,_ => rfl | 3,_ => rfl | 4,_ => rfl | k + 5,h => absurd h (by omega)),rfl,OEq.refl _,rfl,OEq.refl _,rfl,OEq.refl _,rfl,OEq.refl _,rfl,OEq.refl _,trivial⟩
 have hj := cjoin_spec t1 c
 dsimp only [clC] at hj ⊢
 refine mspec_of lay_ok 15032387815 40 Try.func38 rfl rfl rfl ?_
 repeat' ((conv => whnf); first | refine K1.a ?_ | refine K1.b ?_ | refine K1.c ?_ | refine K1.d ?_ | refine K1.e ?_ | refine K1.f ?_ | refine ACall.plain _ _ (hj) (SubL.cons (.eq _) (SubL.cons (.eq _) .nil)) rfl ?_ | refine ACall.chgR 99 [(0,_),(10,_),(11,_),(20,_),(21,_),(22,_),(23,_),(24,_)] (h0) rfl ⟨rfl,rfl,rfl,rfl,rfl,rfl,rfl,rfl,trivial⟩ rfl rfl ?_ | refine ACall.chgR 99 [(0,_),(10,_),(11,_),(20,_),(21,_),(22,_),(23,_),(24,_)] (h1) rfl ⟨rfl,rfl,rfl,rfl,rfl,rfl,rfl,rfl,trivial⟩ rfl rfl ?_ | refine ACall.chgR 99 [(0,_),(10,_),(11,_),(20,_),(21,_),(22,_),(23,_),(24,_)] (h2) rfl ⟨rfl,rfl,rfl,rfl,rfl,rfl,rfl,rfl,trivial⟩ rfl rfl ?_ | refine ACall.chgR 99 [(0,_),(10,_),(11,_),(20,_),(21,_),(22,_),(23,_),(24,_)] (h3) rfl ⟨rfl,rfl,rfl,rfl,rfl,rfl,rfl,rfl,trivial⟩ rfl rfl ?_ | refine ACall.chgR 99 [(0,_),(10,_),(11,_),(20,_),(21,_),(22,_),(23,_),(24,_)] (h4) rfl ⟨rfl,rfl,rfl,rfl,rfl,rfl,rfl,rfl,trivial⟩ rfl rfl ?_ | refine ACall.into 19 _ _ Try.func66 rfl rfl rfl ?_ | refine ALoop.rounds 6 ?_ | refine InA.mk (by decide) ?_ | refine Spl.yes (by decide) ?_ | refine Spl.no (by decide) ?_ | refine Spl.mk (fun _ => ?_) (fun _ => ?_) | refine SNil.mk (fun _ => ?_) ?_ | refine K1.g ?_ | refine ASl.frz ?_ | refine Wr.b64 ?_ | refine Wr.bu64 ?_ | refine Wr.bu32 ?_ | refine Wr.bu8 ?_ | refine K1.u8 ?_ | refine K1.u64 ?_ | refine K1.u32 ?_ | refine K1.h ?_ | refine K1.i ?_ | refine K1.q ?_ | refine ADraw.sched (id := 3) lay_ok (awp_snd lay_ok _) [(0,none),(1,none),(2,none),(3,none),(4,none),(5,none),(6,none),(7,none),(8,none),(9,none),(10,none),(11,none),(12,none),(13,some [12,11,8,6]),(14,none),(15,some [12,11,8,6,3,1])] [(2,[1]),(3,[1]),(7,[6]),(8,[6]),(10,[8,6]),(11,[8,6]),(13,[12,11,8,6]),(14,[12,11,8,6,3,1]),(15,[12,11,8,6,3,1])] follows_ok (by kernel_rfl) ?_ | refine K1.j ?_ | refine K1.k ?_ | refine BSpl.dec (fun _ => ?_) (fun _ => ?_) | refine K1.l ?_ | refine K1.n ?_ | refine BSpl.mk (fun _ => ?_) (fun _ => ?_))
 all_goals (conv => whnf)
 refine ⟨[],rfl,rfl,?_,rfl,rfl,AEq.refl _⟩
 repeat' first | exact trivial | refine ⟨⟨_,rfl,OEq.refl _⟩,?_⟩
set_option maxHeartbeats 4000000 in
set_option maxRecDepth 100000 in
theorem pt_ack_5_2 (most : Int) (s0 s1 s2 s3 s4 : Shf) (t0 t1 t2 t3 t4 : Clk) (g0 : ShB s0) (g1 : ShB s1) (g2 : ShB s2) (g3 : ShB s3) (g4 : ShB s4) (c : Clk) : MSpec Try.prog 38 (ptH most ⟨[s0,s1,s2,s3,s4],[t0,t1,t2,t3,t4]⟩ ()) [.box 0 0, .v (.int .i64 2), .agg (clC c)] (.v (.int .i64 0)) (ptH most (ackP ⟨[s0,s1,s2,s3,s4],[t0,t1,t2,t3,t4]⟩ 2 c) ()) := by
 dsimp only [ackP,modN,cutAll]
 have h0 := pt_cut_5_0 most s0 s1 s2 s3 s4 t0 t1 (t2.jn c) t3 t4 g0
 have h1 := pt_cut_5_1 most (cutS s0 (leastP [t0,t1,t2.jn c,t3,t4] 0)) s1 s2 s3 s4 t0 t1 (t2.jn c) t3 t4 g1
 have h2 := pt_cut_5_2 most (cutS s0 (leastP [t0,t1,t2.jn c,t3,t4] 0)) (cutS s1 (leastP [t0,t1,t2.jn c,t3,t4] 1)) s2 s3 s4 t0 t1 (t2.jn c) t3 t4 g2
 have h3 := pt_cut_5_3 most (cutS s0 (leastP [t0,t1,t2.jn c,t3,t4] 0)) (cutS s1 (leastP [t0,t1,t2.jn c,t3,t4] 1)) (cutS s2 (leastP [t0,t1,t2.jn c,t3,t4] 2)) s3 s4 t0 t1 (t2.jn c) t3 t4 g3
 have h4 := pt_cut_5_4 most (cutS s0 (leastP [t0,t1,t2.jn c,t3,t4] 0)) (cutS s1 (leastP [t0,t1,t2.jn c,t3,t4] 1)) (cutS s2 (leastP [t0,t1,t2.jn c,t3,t4] 2)) (cutS s3 (leastP [t0,t1,t2.jn c,t3,t4] 3)) s4 t0 t1 (t2.jn c) t3 t4 g4
 dsimp only [ptH,ptB,clRow,ptrs,shs,cutP,modN,List.length] at h0 h1 h2 h3 h4 ⊢
 have h0 := MSpec.ins (hin' := [(0, .box 94 [.own 10, .own 11]),(10, .rn (90 : Nat) [.box 20 0, .box 21 0, .box 22 0, .box 23 0, .box 24 0]),(11, .row 31 5 5 true (updF 2 (clF [t0,t1,t2,t3,t4]) (clC (t2.jn c)))),(20, .obs (shO most s0)),(21, .obs (shO most s1)),(22, .obs (shO most s2)),(23, .obs (shO most s3)),(24, .obs (shO most s4))]) h0 ⟨rfl,OEq.refl _,rfl,OEq.refl _,rfl,OEq.row rfl (fun m hm => match m,hm with | 0,_ => rfl | 1,_ => rfl | 2,_ => rfl | 3,_ => rfl | 4,_ => rfl | k + 5,h => absurd h (by omega)),rfl,OEq.refl _,rfl,OEq.refl _,rfl,OEq.refl _,rfl,OEq.refl _,rfl,OEq.refl _,trivial⟩
 have hj := cjoin_spec t2 c
 dsimp only [clC] at hj ⊢
 refine mspec_of lay_ok 15032387815 40 Try.func38 rfl rfl rfl ?_
 repeat' ((conv => whnf); first | refine K1.a ?_ | refine K1.b ?_ | refine K1.c ?_ | refine K1.d ?_ | refine K1.e ?_ | refine K1.f ?_ | refine ACall.plain _ _ (hj) (SubL.cons (.eq _) (SubL.cons (.eq _) .nil)) rfl ?_ | refine ACall.chgR 99 [(0,_),(10,_),(11,_),(20,_),(21,_),(22,_),(23,_),(24,_)] (h0) rfl ⟨rfl,rfl,rfl,rfl,rfl,rfl,rfl,rfl,trivial⟩ rfl rfl ?_ | refine ACall.chgR 99 [(0,_),(10,_),(11,_),(20,_),(21,_),(22,_),(23,_),(24,_)] (h1) rfl ⟨rfl,rfl,rfl,rfl,rfl,rfl,rfl,rfl,trivial⟩ rfl rfl ?_ | refine ACall.chgR 99 [(0,_),(10,_),(11,_),(20,_),(21,_),(22,_),(23,_),(24,_)] (h2) rfl ⟨rfl,rfl,rfl,rfl,rfl,rfl,rfl,rfl,trivial⟩ rfl rfl ?_ | refine ACall.chgR 99 [(0,_),(10,_),(11,_),(20,_),(21,_),(22,_),(23,_),(24,_)] (h3) rfl ⟨rfl,rfl,rfl,rfl,rfl,rfl,rfl,rfl,trivial⟩ rfl rfl ?_ | refine ACall.chgR 99 [(0,_),(10,_),(11,_),(20,_),(21,_),(22,_),(23,_),(24,_)] (h4) rfl ⟨rfl,rfl,rfl,rfl,rfl,rfl,rfl,rfl,trivial⟩ rfl rfl ?_ | refine ACall.into 19 _ _ Try.func66 rfl rfl rfl ?_ | refine ALoop.rounds 6 ?_ | refine InA.mk (by decide) ?_ | refine Spl.yes (by decide) ?_ | refine Spl.no (by decide) ?_ | refine Spl.mk (fun _ => ?_) (fun _ => ?_) | refine SNil.mk (fun _ => ?_) ?_ | refine K1.g ?_ | refine ASl.frz ?_ | refine Wr.b64 ?_ | refine Wr.bu64 ?_ | refine Wr.bu32 ?_ | refine Wr.bu8 ?_ | refine K1.u8 ?_ | refine K1.u64 ?_ | refine K1.u32 ?_ | refine K1.h ?_ | refine K1.i ?_ | refine K1.q ?_ | refine ADraw.sched (id := 3) lay_ok (awp_snd lay_ok _) [(0,none),(1,none),(2,none),(3,none),(4,none),(5,none),(6,none),(7,none),(8,none),(9,none),(10,none),(11,none),(12,none),(13,some [12,11,8,6]),(14,none),(15,some [12,11,8,6,3,1])] [(2,[1]),(3,[1]),(7,[6]),(8,[6]),(10,[8,6]),(11,[8,6]),(13,[12,11,8,6]),(14,[12,11,8,6,3,1]),(15,[12,11,8,6,3,1])] follows_ok (by kernel_rfl) ?_ | refine K1.j ?_ | refine K1.k ?_ | refine BSpl.dec (fun _ => ?_) (fun _ => ?_) | refine K1.l ?_ | refine K1.n ?_ | refine BSpl.mk (fun _ => ?_) (fun _ => ?_))
 all_goals (conv => whnf)
 refine ⟨[],rfl,rfl,?_,rfl,rfl,AEq.refl _⟩
 repeat' first | exact trivial | refine ⟨⟨_,rfl,OEq.refl _⟩,?_⟩
set_option maxHeartbeats 4000000 in
set_option maxRecDepth 100000 in
theorem pt_ack_5_3 (most : Int) (s0 s1 s2 s3 s4 : Shf) (t0 t1 t2 t3 t4 : Clk) (g0 : ShB s0) (g1 : ShB s1) (g2 : ShB s2) (g3 : ShB s3) (g4 : ShB s4) (c : Clk) : MSpec Try.prog 38 (ptH most ⟨[s0,s1,s2,s3,s4],[t0,t1,t2,t3,t4]⟩ ()) [.box 0 0, .v (.int .i64 3), .agg (clC c)] (.v (.int .i64 0)) (ptH most (ackP ⟨[s0,s1,s2,s3,s4],[t0,t1,t2,t3,t4]⟩ 3 c) ()) := by
 dsimp only [ackP,modN,cutAll]
 have h0 := pt_cut_5_0 most s0 s1 s2 s3 s4 t0 t1 t2 (t3.jn c) t4 g0
 have h1 := pt_cut_5_1 most (cutS s0 (leastP [t0,t1,t2,t3.jn c,t4] 0)) s1 s2 s3 s4 t0 t1 t2 (t3.jn c) t4 g1
 have h2 := pt_cut_5_2 most (cutS s0 (leastP [t0,t1,t2,t3.jn c,t4] 0)) (cutS s1 (leastP [t0,t1,t2,t3.jn c,t4] 1)) s2 s3 s4 t0 t1 t2 (t3.jn c) t4 g2
 have h3 := pt_cut_5_3 most (cutS s0 (leastP [t0,t1,t2,t3.jn c,t4] 0)) (cutS s1 (leastP [t0,t1,t2,t3.jn c,t4] 1)) (cutS s2 (leastP [t0,t1,t2,t3.jn c,t4] 2)) s3 s4 t0 t1 t2 (t3.jn c) t4 g3
 have h4 := pt_cut_5_4 most (cutS s0 (leastP [t0,t1,t2,t3.jn c,t4] 0)) (cutS s1 (leastP [t0,t1,t2,t3.jn c,t4] 1)) (cutS s2 (leastP [t0,t1,t2,t3.jn c,t4] 2)) (cutS s3 (leastP [t0,t1,t2,t3.jn c,t4] 3)) s4 t0 t1 t2 (t3.jn c) t4 g4
 dsimp only [ptH,ptB,clRow,ptrs,shs,cutP,modN,List.length] at h0 h1 h2 h3 h4 ⊢
 have h0 := MSpec.ins (hin' := [(0, .box 94 [.own 10, .own 11]),(10, .rn (90 : Nat) [.box 20 0, .box 21 0, .box 22 0, .box 23 0, .box 24 0]),(11, .row 31 5 5 true (updF 3 (clF [t0,t1,t2,t3,t4]) (clC (t3.jn c)))),(20, .obs (shO most s0)),(21, .obs (shO most s1)),(22, .obs (shO most s2)),(23, .obs (shO most s3)),(24, .obs (shO most s4))]) h0 ⟨rfl,OEq.refl _,rfl,OEq.refl _,rfl,OEq.row rfl (fun m hm => match m,hm with | 0,_ => rfl | 1,_ => rfl | 2,_ => rfl | 3,_ => rfl | 4,_ => rfl | k + 5,h => absurd h (by omega)),rfl,OEq.refl _,rfl,OEq.refl _,rfl,OEq.refl _,rfl,OEq.refl _,rfl,OEq.refl _,trivial⟩
 have hj := cjoin_spec t3 c
 dsimp only [clC] at hj ⊢
 refine mspec_of lay_ok 15032387815 40 Try.func38 rfl rfl rfl ?_
 repeat' ((conv => whnf); first | refine K1.a ?_ | refine K1.b ?_ | refine K1.c ?_ | refine K1.d ?_ | refine K1.e ?_ | refine K1.f ?_ | refine ACall.plain _ _ (hj) (SubL.cons (.eq _) (SubL.cons (.eq _) .nil)) rfl ?_ | refine ACall.chgR 99 [(0,_),(10,_),(11,_),(20,_),(21,_),(22,_),(23,_),(24,_)] (h0) rfl ⟨rfl,rfl,rfl,rfl,rfl,rfl,rfl,rfl,trivial⟩ rfl rfl ?_ | refine ACall.chgR 99 [(0,_),(10,_),(11,_),(20,_),(21,_),(22,_),(23,_),(24,_)] (h1) rfl ⟨rfl,rfl,rfl,rfl,rfl,rfl,rfl,rfl,trivial⟩ rfl rfl ?_ | refine ACall.chgR 99 [(0,_),(10,_),(11,_),(20,_),(21,_),(22,_),(23,_),(24,_)] (h2) rfl ⟨rfl,rfl,rfl,rfl,rfl,rfl,rfl,rfl,trivial⟩ rfl rfl ?_ | refine ACall.chgR 99 [(0,_),(10,_),(11,_),(20,_),(21,_),(22,_),(23,_),(24,_)] (h3) rfl ⟨rfl,rfl,rfl,rfl,rfl,rfl,rfl,rfl,trivial⟩ rfl rfl ?_ | refine ACall.chgR 99 [(0,_),(10,_),(11,_),(20,_),(21,_),(22,_),(23,_),(24,_)] (h4) rfl ⟨rfl,rfl,rfl,rfl,rfl,rfl,rfl,rfl,trivial⟩ rfl rfl ?_ | refine ACall.into 19 _ _ Try.func66 rfl rfl rfl ?_ | refine ALoop.rounds 6 ?_ | refine InA.mk (by decide) ?_ | refine Spl.yes (by decide) ?_ | refine Spl.no (by decide) ?_ | refine Spl.mk (fun _ => ?_) (fun _ => ?_) | refine SNil.mk (fun _ => ?_) ?_ | refine K1.g ?_ | refine ASl.frz ?_ | refine Wr.b64 ?_ | refine Wr.bu64 ?_ | refine Wr.bu32 ?_ | refine Wr.bu8 ?_ | refine K1.u8 ?_ | refine K1.u64 ?_ | refine K1.u32 ?_ | refine K1.h ?_ | refine K1.i ?_ | refine K1.q ?_ | refine ADraw.sched (id := 3) lay_ok (awp_snd lay_ok _) [(0,none),(1,none),(2,none),(3,none),(4,none),(5,none),(6,none),(7,none),(8,none),(9,none),(10,none),(11,none),(12,none),(13,some [12,11,8,6]),(14,none),(15,some [12,11,8,6,3,1])] [(2,[1]),(3,[1]),(7,[6]),(8,[6]),(10,[8,6]),(11,[8,6]),(13,[12,11,8,6]),(14,[12,11,8,6,3,1]),(15,[12,11,8,6,3,1])] follows_ok (by kernel_rfl) ?_ | refine K1.j ?_ | refine K1.k ?_ | refine BSpl.dec (fun _ => ?_) (fun _ => ?_) | refine K1.l ?_ | refine K1.n ?_ | refine BSpl.mk (fun _ => ?_) (fun _ => ?_))
 all_goals (conv => whnf)
 refine ⟨[],rfl,rfl,?_,rfl,rfl,AEq.refl _⟩
 repeat' first | exact trivial | refine ⟨⟨_,rfl,OEq.refl _⟩,?_⟩
set_option maxHeartbeats 4000000 in
set_option maxRecDepth 100000 in
theorem pt_ack_5_4 (most : Int) (s0 s1 s2 s3 s4 : Shf) (t0 t1 t2 t3 t4 : Clk) (g0 : ShB s0) (g1 : ShB s1) (g2 : ShB s2) (g3 : ShB s3) (g4 : ShB s4) (c : Clk) : MSpec Try.prog 38 (ptH most ⟨[s0,s1,s2,s3,s4],[t0,t1,t2,t3,t4]⟩ ()) [.box 0 0, .v (.int .i64 4), .agg (clC c)] (.v (.int .i64 0)) (ptH most (ackP ⟨[s0,s1,s2,s3,s4],[t0,t1,t2,t3,t4]⟩ 4 c) ()) := by
 dsimp only [ackP,modN,cutAll]
 have h0 := pt_cut_5_0 most s0 s1 s2 s3 s4 t0 t1 t2 t3 (t4.jn c) g0
 have h1 := pt_cut_5_1 most (cutS s0 (leastP [t0,t1,t2,t3,t4.jn c] 0)) s1 s2 s3 s4 t0 t1 t2 t3 (t4.jn c) g1
 have h2 := pt_cut_5_2 most (cutS s0 (leastP [t0,t1,t2,t3,t4.jn c] 0)) (cutS s1 (leastP [t0,t1,t2,t3,t4.jn c] 1)) s2 s3 s4 t0 t1 t2 t3 (t4.jn c) g2
 have h3 := pt_cut_5_3 most (cutS s0 (leastP [t0,t1,t2,t3,t4.jn c] 0)) (cutS s1 (leastP [t0,t1,t2,t3,t4.jn c] 1)) (cutS s2 (leastP [t0,t1,t2,t3,t4.jn c] 2)) s3 s4 t0 t1 t2 t3 (t4.jn c) g3
 have h4 := pt_cut_5_4 most (cutS s0 (leastP [t0,t1,t2,t3,t4.jn c] 0)) (cutS s1 (leastP [t0,t1,t2,t3,t4.jn c] 1)) (cutS s2 (leastP [t0,t1,t2,t3,t4.jn c] 2)) (cutS s3 (leastP [t0,t1,t2,t3,t4.jn c] 3)) s4 t0 t1 t2 t3 (t4.jn c) g4
 dsimp only [ptH,ptB,clRow,ptrs,shs,cutP,modN,List.length] at h0 h1 h2 h3 h4 ⊢
 have h0 := MSpec.ins (hin' := [(0, .box 94 [.own 10, .own 11]),(10, .rn (90 : Nat) [.box 20 0, .box 21 0, .box 22 0, .box 23 0, .box 24 0]),(11, .row 31 5 5 true (updF 4 (clF [t0,t1,t2,t3,t4]) (clC (t4.jn c)))),(20, .obs (shO most s0)),(21, .obs (shO most s1)),(22, .obs (shO most s2)),(23, .obs (shO most s3)),(24, .obs (shO most s4))]) h0 ⟨rfl,OEq.refl _,rfl,OEq.refl _,rfl,OEq.row rfl (fun m hm => match m,hm with | 0,_ => rfl | 1,_ => rfl | 2,_ => rfl | 3,_ => rfl | 4,_ => rfl | k + 5,h => absurd h (by omega)),rfl,OEq.refl _,rfl,OEq.refl _,rfl,OEq.refl _,rfl,OEq.refl _,rfl,OEq.refl _,trivial⟩
 have hj := cjoin_spec t4 c
 dsimp only [clC] at hj ⊢
 refine mspec_of lay_ok 15032387815 40 Try.func38 rfl rfl rfl ?_
 repeat' ((conv => whnf); first | refine K1.a ?_ | refine K1.b ?_ | refine K1.c ?_ | refine K1.d ?_ | refine K1.e ?_ | refine K1.f ?_ | refine ACall.plain _ _ (hj) (SubL.cons (.eq _) (SubL.cons (.eq _) .nil)) rfl ?_ | refine ACall.chgR 99 [(0,_),(10,_),(11,_),(20,_),(21,_),(22,_),(23,_),(24,_)] (h0) rfl ⟨rfl,rfl,rfl,rfl,rfl,rfl,rfl,rfl,trivial⟩ rfl rfl ?_ | refine ACall.chgR 99 [(0,_),(10,_),(11,_),(20,_),(21,_),(22,_),(23,_),(24,_)] (h1) rfl ⟨rfl,rfl,rfl,rfl,rfl,rfl,rfl,rfl,trivial⟩ rfl rfl ?_ | refine ACall.chgR 99 [(0,_),(10,_),(11,_),(20,_),(21,_),(22,_),(23,_),(24,_)] (h2) rfl ⟨rfl,rfl,rfl,rfl,rfl,rfl,rfl,rfl,trivial⟩ rfl rfl ?_ | refine ACall.chgR 99 [(0,_),(10,_),(11,_),(20,_),(21,_),(22,_),(23,_),(24,_)] (h3) rfl ⟨rfl,rfl,rfl,rfl,rfl,rfl,rfl,rfl,trivial⟩ rfl rfl ?_ | refine ACall.chgR 99 [(0,_),(10,_),(11,_),(20,_),(21,_),(22,_),(23,_),(24,_)] (h4) rfl ⟨rfl,rfl,rfl,rfl,rfl,rfl,rfl,rfl,trivial⟩ rfl rfl ?_ | refine ACall.into 19 _ _ Try.func66 rfl rfl rfl ?_ | refine ALoop.rounds 6 ?_ | refine InA.mk (by decide) ?_ | refine Spl.yes (by decide) ?_ | refine Spl.no (by decide) ?_ | refine Spl.mk (fun _ => ?_) (fun _ => ?_) | refine SNil.mk (fun _ => ?_) ?_ | refine K1.g ?_ | refine ASl.frz ?_ | refine Wr.b64 ?_ | refine Wr.bu64 ?_ | refine Wr.bu32 ?_ | refine Wr.bu8 ?_ | refine K1.u8 ?_ | refine K1.u64 ?_ | refine K1.u32 ?_ | refine K1.h ?_ | refine K1.i ?_ | refine K1.q ?_ | refine ADraw.sched (id := 3) lay_ok (awp_snd lay_ok _) [(0,none),(1,none),(2,none),(3,none),(4,none),(5,none),(6,none),(7,none),(8,none),(9,none),(10,none),(11,none),(12,none),(13,some [12,11,8,6]),(14,none),(15,some [12,11,8,6,3,1])] [(2,[1]),(3,[1]),(7,[6]),(8,[6]),(10,[8,6]),(11,[8,6]),(13,[12,11,8,6]),(14,[12,11,8,6,3,1]),(15,[12,11,8,6,3,1])] follows_ok (by kernel_rfl) ?_ | refine K1.j ?_ | refine K1.k ?_ | refine BSpl.dec (fun _ => ?_) (fun _ => ?_) | refine K1.l ?_ | refine K1.n ?_ | refine BSpl.mk (fun _ => ?_) (fun _ => ?_))
 all_goals (conv => whnf)
 refine ⟨[],rfl,rfl,?_,rfl,rfl,AEq.refl _⟩
 repeat' first | exact trivial | refine ⟨⟨_,rfl,OEq.refl _⟩,?_⟩
theorem pt_ack_m (most : Int) (p : Pt) (hp : PtB p) (r : Nat) (c : Clk) (hr : r < p.sh.length) :
  MSpec Try.prog 38 [(0, .obs (ptO most p))] [.box 0 0, .v (.int .i64 (r : Int)), .agg (clC c)] (.v (.int .i64 0)) [(0, .obs (ptO most (ackP p r c)))] := by
 refine pt_opn (ho := []) ⟨_,_,Try.func38,rfl,rfl⟩ ?_ rfl
 rw [List.append_nil]
 refine Pt.cases (C := fun p => r < p.sh.length → MSpec Try.prog 38 (ptH most p ()) [.box 0 0, .v (.int .i64 (r : Int)), .agg (clC c)] (.v (.int .i64 0)) (ptH most (ackP p r c) ())) p hp ?_ ?_ ?_ ?_ ?_ hr
 · intro s0 t0 g0 hr
   rcases (show r = 0 by simp at hr; omega) with rfl
   · exact pt_ack_1_0 most s0 t0 g0 c
 · intro s0 s1 t0 t1 g0 g1 hr
   rcases (show r = 0 ∨ r = 1 by simp at hr; omega) with rfl | rfl
   · exact pt_ack_2_0 most s0 s1 t0 t1 g0 g1 c
   · exact pt_ack_2_1 most s0 s1 t0 t1 g0 g1 c
 · intro s0 s1 s2 t0 t1 t2 g0 g1 g2 hr
   rcases (show r = 0 ∨ r = 1 ∨ r = 2 by simp at hr; omega) with rfl | rfl | rfl
   · exact pt_ack_3_0 most s0 s1 s2 t0 t1 t2 g0 g1 g2 c
   · exact pt_ack_3_1 most s0 s1 s2 t0 t1 t2 g0 g1 g2 c
   · exact pt_ack_3_2 most s0 s1 s2 t0 t1 t2 g0 g1 g2 c
 · intro s0 s1 s2 s3 t0 t1 t2 t3 g0 g1 g2 g3 hr
   rcases (show r = 0 ∨ r = 1 ∨ r = 2 ∨ r = 3 by simp at hr; omega) with rfl | rfl | rfl | rfl
   · exact pt_ack_4_0 most s0 s1 s2 s3 t0 t1 t2 t3 g0 g1 g2 g3 c
   · exact pt_ack_4_1 most s0 s1 s2 s3 t0 t1 t2 t3 g0 g1 g2 g3 c
   · exact pt_ack_4_2 most s0 s1 s2 s3 t0 t1 t2 t3 g0 g1 g2 g3 c
   · exact pt_ack_4_3 most s0 s1 s2 s3 t0 t1 t2 t3 g0 g1 g2 g3 c
 · intro s0 s1 s2 s3 s4 t0 t1 t2 t3 t4 g0 g1 g2 g3 g4 hr
   rcases (show r = 0 ∨ r = 1 ∨ r = 2 ∨ r = 3 ∨ r = 4 by simp at hr; omega) with rfl | rfl | rfl | rfl | rfl
   · exact pt_ack_5_0 most s0 s1 s2 s3 s4 t0 t1 t2 t3 t4 g0 g1 g2 g3 g4 c
   · exact pt_ack_5_1 most s0 s1 s2 s3 s4 t0 t1 t2 t3 t4 g0 g1 g2 g3 g4 c
   · exact pt_ack_5_2 most s0 s1 s2 s3 s4 t0 t1 t2 t3 t4 g0 g1 g2 g3 g4 c
   · exact pt_ack_5_3 most s0 s1 s2 s3 s4 t0 t1 t2 t3 t4 g0 g1 g2 g3 g4 c
   · exact pt_ack_5_4 most s0 s1 s2 s3 s4 t0 t1 t2 t3 t4 g0 g1 g2 g3 g4 c
end Go.Proofs.Ytmldeejaghflnaa
