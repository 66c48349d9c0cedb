/-
  Contracts of the walk: HbN, HbQ, HbR, HbY, HbX.
-/
import Derived.Test.YtmldeejaghflnaaFu14
import Derived.Test.YtmldeejaghflnaaFu16
import Derived.Test.YtmldeejaghflnaaFu17
import Derived.Test.YtmldeejaghflnaaFu8
/-
 The hub: what Take does.
-/
namespace Go.Proofs.Ytmldeejaghflnaa
open Go.RowKit
theorem reply_yes (d : Nat) (x : Rc) (hx : mayF x = true) : ASpec Try.prog 49 [x.av] (.tup [.v (.int .i64 x.r), .own d, .v (.int .i64 0)]) [(d,bRow (frBytes x))] := by
 have hp := fun d => frPut_yes d x hx
 obtain ⟨k,r,u,⟨c0,c1,c2,c3,c4⟩,ev⟩ := x
 generalize frBytes _ = w at hp ⊢
 dsimp only [Rc.av,Rc.cs,bRow] at hp ⊢
 refine aspec_of lay_ok 8319 Try.func49 rfl rfl rfl ?_
 repeat' ((conv => whnf); first | refine K1.a ?_ | refine K1.b ?_ | refine K1.c ?_ | refine K1.d ?_ | refine K1.e ?_ | refine K1.f ?_ | refine ACall.fresh _ _ _ _ _ _ _ (hp _) (SubL.cons (.eq _) .nil) rfl ?_ | refine Spl.mk (fun _ => ?_) (fun _ => ?_) | refine SNil.mk (fun _ => ?_) ?_ | refine K1.g ?_ | refine ASl.frz ?_ | refine Wr.b64 ?_ | refine Wr.bu64 ?_ | refine Wr.bu32 ?_ | refine Wr.bu8 ?_ | refine K1.u8 ?_ | refine K1.u64 ?_ | refine K1.u32 ?_ | refine K1.h ?_ | refine K1.i ?_ | refine K1.q ?_ | refine K1.j ?_ | refine K1.k ?_ | refine BSpl.dec (fun _ => ?_) (fun _ => ?_) | refine K1.l ?_ | refine K1.n ?_ | refine BSpl.mk (fun _ => ?_) (fun _ => ?_))
 all_goals (conv => whnf)
 exact ARet.ownX d rfl rfl (OEq.refl _) (AEq.refl _)
def frA (k r u : Int) (c : Clk) (ev : List Ev) : AV := .agg [.v (.int .i64 k), .v (.int .i64 r), .v (.int .i64 u), .v (.int .i64 c.c0), .v (.int .i64 c.c1), .v (.int .i64 c.c2), .v (.int .i64 c.c3), .v (.int .i64 c.c4), .sl 12 ev.length true (evF ev)]
theorem lt5 {r : Nat} {C : Nat → Prop} (h : r < 5) (h0 : C 0) (h1 : C 1) (h2 : C 2) (h3 : C 3) (h4 : C 4) : C r := by
 rcases (show r = 0 ∨ r = 1 ∨ r = 2 ∨ r = 3 ∨ r = 4 by omega) with rfl | rfl | rfl | rfl | rfl <;> assumption
def Pt.lenOf (p : Pt) (r : Nat) : Int := (p.sh.map Shf.len).getD r 0
def Hb.withP (h : Hb) (p : Pt) : Hb := ⟨h.up,h.c,p,h.d⟩
def pushT (most : Int) (p p' : Pt) (r : Nat) (ev : List Ev) (u x : Int) : Prop :=
 MSpec Try.prog 37 [(0, .obs (ptO most p))] [.box 0 0, .v (.int .i64 (r : Int)), .sl 12 ev.length true (evF ev)] (.tup [.v (.int .i64 u), .v (.int .i64 x)]) [(0, .obs (ptO most p'))]
def writeT (h h' : Hb) (x : Rc) (y : Int) : Prop := MSpec Try.prog 48 (hbH h ()) [.box 0 0,x.av] (.v (.int .i64 y)) (hbHi 11 h')
def replyT (x : Rc) (w : List UInt8) : Prop := ∀ d : Nat,ASpec Try.prog 49 [x.av] (.tup [.v (.int .i64 x.r), .own d, .v (.int .i64 0)]) [(d,bRow w)]
theorem MSpec.args {P : Program} {f : FuncId} {hin : List (Nat × AO)} {avs bvs : List AV} {r : AV} {hout : List (Nat × AO)} (hs : MSpec P f hin bvs r hout) (hc : Ch avs bvs) : MSpec P f hin avs r hout :=
 ⟨hs.1,fun w keep ρ args a1 a2 a3 a4 a5 => hs.2 w keep ρ args a1 a2 a3 a4 (hc.all a5)⟩
def Rc.nilA (x : Rc) : AV := .agg [.v (.int .i64 x.k), .v (.int .i64 x.r), .v (.int .i64 x.u), .v (.int .i64 x.c.c0), .v (.int .i64 x.c.c1), .v (.int .i64 x.c.c2), .v (.int .i64 x.c.c3), .v (.int .i64 x.c.c4), .v (.slice none 0 0)]
def replyN (x : Rc) (w : List UInt8) : Prop := ∀ d : Nat,ASpec Try.prog 49 [x.nilA] (.tup [.v (.int .i64 x.r), .own d, .v (.int .i64 0)]) [(d,bRow w)]
def writeN (h h' : Hb) (x : Rc) (y : Int) : Prop := MSpec Try.prog 48 (hbH h ()) [.box 0 0,x.nilA] (.v (.int .i64 y)) (hbHi 11 h')
theorem replyT.nil {x : Rc} {w : List UInt8} (h : replyT x w) (he : x.ev = []) : replyN x w := by
 intro d
 have := h d
 obtain ⟨k,r,u,c,ev⟩ := x
 dsimp only at he
 subst he
 exact this.args (.of (fun X u hu => C1.nilEv hu) .nil)
theorem writeT.nil {h h' : Hb} {x : Rc} {y : Int} (hw : writeT h h' x y) (he : x.ev = []) : writeN h h' x y := by
 obtain ⟨k,r,u,c,ev⟩ := x
 dsimp only at he
 subst he
 exact MSpec.args (bvs := [.box 0 0,Rc.av ⟨k,r,u,c,[]⟩]) hw (.same (.of (fun X u hu => C1.nilEv hu) .nil))
def noA (x : Int) : AV := .tup [.v (.int .i64 (-1)), .v (.slice none 0 0), .v (.int .i64 x)]
def yesA (r : Nat) : AV := .tup [.v (.int .i64 (r : Int)), .own 1, .v (.int .i64 0)]
def takeT (n : Nat) (F : Nat → List AV) (k : Int) (r : Nat) (u : Int) (c : Clk) (ev : List Ev) (x : Int) : Prop := ASpec Try.prog 15 [.sl 1 n true F] (.tup [frA k r u c ev, .v (.int .i64 x)]) []
def ackT (most : Int) (p p' : Pt) (r : Nat) (c : Clk) : Prop := MSpec Try.prog 38 [(0, .obs (ptO most p))] [.box 0 0, .v (.int .i64 (r : Int)), .agg (clC c)] (.v (.int .i64 0)) [(0, .obs (ptO most p'))]
def fetchT (most : Int) (p : Pt) (r : Nat) (c : Clk) (l : List Ev) : Prop := MSpec Try.prog 50 [(0, .obs (ptO most p))] [.box 0 0, .v (.int .i64 (r : Int)), .agg (clC c)] (.tup [.own 1, .v (.int .i64 0)]) [(0, .obs (ptO most p)),(1,evRow l)]
def ackS {r : Nat} (_ : r < 5) (up : Bool) (cf : Cfg) (p : Pt) (d : Dk) (u : Int) (c : Clk) (ev : List Ev) : AS :=
 ⟨[(0, .box 0 0),(3, .box 40 0),(5, .box 80 0)],[(80, .box 31 (clC (p.told.getD r clk0))),(40, .box 40 [.v (.int .i64 5), .v (.int .i64 (r : Int)), .v (.int .i64 u), .v (.int .i64 c.c0), .v (.int .i64 c.c1), .v (.int .i64 c.c2), .v (.int .i64 c.c3), .v (.int .i64 c.c4), .sl 12 ev.length true (evF ev)]),
  (0,hbB up cf (.box 8 0) (.box 9 0)),(8,dkB (.own 10) d),(10,bRow d.bs),(9, .obs (ptO cf.w p))],[[(0, .box 0 0),(1, .box 8 0),(2, .own 10),(3, .own 9)]],81⟩
set_option maxHeartbeats 16000000 in
set_option maxRecDepth 100000 in
theorem hb_take_push_err (h _h' : Hb) (hp : PtB h.p) (hup : h.up = true) {n : Nat} {F : Nat → List AV} (p' : Pt) (hp' : PtB p') (r : Nat) (u _m y : Int) (c : Clk) (ev : List Ev) (_w : List UInt8) (hr5 : r < 5) (hft : takeT n F 1 r u c ev 0) (hrn : (r : Int) < h.c.n) (hpush : pushT h.c.w h.p h.p r ev 0 y) (hx : y ≠ 0) :
  MSpec Try.prog 14 (hbH h ()) [.box 0 0, .sl 1 n true F] (noA y) (hbH h ()) := by
 have hs := pt_site_m h.c.w h.p hp
 have hs' := pt_site_m h.c.w p' hp'
 obtain ⟨up,cf,p,d⟩ := h
 dsimp only at hs hs' hup hft hrn hpush hx
 subst hup
 refine lt5 (C := fun r => r < 5 → takeT n F 1 r u c ev 0 → (r : Int) < cf.n → pushT cf.w p p r ev 0 y → y ≠ 0 → MSpec Try.prog 14 (hbH ⟨true,cf,p,d⟩ ()) [.box 0 0, .sl 1 n true F] (noA y) (hbH ⟨true,cf,p,d⟩ ())) hr5 ?_ ?_ ?_ ?_ ?_ hr5 hft hrn hpush hx
 all_goals
  clear hft hrn hpush hx
  intro hr hft hrn hpush hx
  dsimp only [takeT,ackT,pushT,fetchT,replyN,replyT,writeT,writeN,hbH,hbHi,hbB,dkB,bRow,evRow,frA,noA,yesA,Hb.withP,Rc.av,Rc.cs,Rc.nilA,clk0,Pt.lenOf,clC,List.cons_append,List.nil_append] at hs hs' hft hrn hpush ⊢
  refine mspec_of lay_ok 565162937434611 40 Try.func14 rfl rfl rfl ?_
  repeat' ((conv => whnf); first | refine K1.a ?_ | refine K1.b ?_ | refine K1.c ?_ | refine K1.d ?_ | refine K1.e ?_ | refine K1.f ?_ | refine ACall.plain _ _ (hft) (SubL.cons (.eq _) .nil) rfl ?_ | refine ACall.chgR 1 [(0,_)] (hs) rfl ⟨rfl,trivial⟩ rfl rfl ?_ | refine ACall.chgR 1 [(0,_)] (hpush) rfl ⟨rfl,trivial⟩ rfl rfl ?_ | refine InA.mk (by decide) ?_ | refine ACall.into 281621005600763 _ _ Try.func26 rfl rfl rfl ?_ | refine Spl.mk (fun _ => ?_) (fun _ => ?_) | refine SNil.mk (fun _ => ?_) ?_ | refine K1.g ?_ | refine ASl.frz ?_ | refine Wr.b64 ?_ | refine Wr.bu64 ?_ | refine Wr.bu32 ?_ | refine Wr.bu8 ?_ | refine K1.u8 ?_ | refine K1.u64 ?_ | refine K1.u32 ?_ | refine K1.h ?_ | refine K1.i ?_ | refine K1.q ?_ | refine ADraw.sched (id := 1) lay_ok (awp_snd lay_ok _) [(0,none),(1,none),(2,none),(3,none),(6,none),(7,none),(4,some [3,1]),(5,none),(8,none),(9,none)] [(2,[1]),(3,[1]),(4,[3,1]),(5,[3,1]),(8,[3,1]),(9,[3,1])] follows_ok (by kernel_rfl) ?_ | refine ADraw.sched (id := 2) lay_ok (awp_snd lay_ok _) [(0,none),(1,none),(2,none),(3,none),(4,none),(5,none),(6,none),(7,none),(8,some [7,5,3,1]),(9,none),(10,none),(11,none),(12,none),(13,none)] [(2,[1]),(3,[1]),(8,[7,5,3,1]),(9,[7,5,3,1]),(10,[7,5,3,1]),(11,[7,5,3,1]),(12,[7,5,3,1]),(13,[7,5,3,1])] follows_ok (by kernel_rfl) ?_ | refine ADraw.sched (id := 6) lay_ok (awp_snd lay_ok _) [(0,none),(1,none),(2,none),(3,none),(4,none),(5,none),(6,none),(7,none),(8,some [6,4,1]),(9,none)] [(2,[1]),(7,[6,4]),(8,[6,4,1]),(9,[6,4,1])] follows_ok (by kernel_rfl) ?_ | refine K1.j ?_ | refine K1.k ?_ | refine BSpl.dec (fun _ => ?_) (fun _ => ?_) | refine K1.l ?_ | refine K1.n ?_ | refine BSpl.mk (fun _ => ?_) (fun _ => ?_))
  all_goals (conv => whnf)
  exact ⟨[],rfl,rfl,⟨⟨_,rfl,OEq.refl _⟩,⟨_,rfl,OEq.refl _⟩,⟨_,rfl,OEq.refl _⟩,⟨_,rfl,OEq.refl _⟩,trivial⟩,rfl,rfl,AEq.refl _⟩
set_option maxHeartbeats 16000000 in
set_option maxRecDepth 100000 in
theorem hb_take_push_same (h _h' : Hb) (hp : PtB h.p) (hup : h.up = true) {n : Nat} {F : Nat → List AV} (p' : Pt) (hp' : PtB p') (r : Nat) (u m _y : Int) (c : Clk) (ev : List Ev) (w : List UInt8) (hr5 : r < 5) (hft : takeT n F 1 r u c ev 0) (hrn : (r : Int) < h.c.n) (hpush : pushT h.c.w h.p p' r ev m 0) (hn : m = h.p.lenOf r) (hre : replyN ⟨2,r,m,clk0,[]⟩ w) :
  MSpec Try.prog 14 (hbH h ()) [.box 0 0, .sl 1 n true F] (yesA r) (hbH (h.withP p') () ++ [(1,bRow w)]) := by
 have hs := pt_site_m h.c.w h.p hp
 have hs' := pt_site_m h.c.w p' hp'
 obtain ⟨up,cf,p,d⟩ := h
 dsimp only at hs hs' hup hft hrn hpush hn hre
 subst hup
 refine lt5 (C := fun r => r < 5 → takeT n F 1 r u c ev 0 → (r : Int) < cf.n → pushT cf.w p p' r ev m 0 → m = p.lenOf r → replyN ⟨2,r,m,clk0,[]⟩ w → MSpec Try.prog 14 (hbH ⟨true,cf,p,d⟩ ()) [.box 0 0, .sl 1 n true F] (yesA r) (hbH (Hb.withP ⟨true,cf,p,d⟩ p') () ++ [(1,bRow w)])) hr5 ?_ ?_ ?_ ?_ ?_ hr5 hft hrn hpush hn hre
 all_goals
  clear hft hrn hpush hn hre
  intro hr hft hrn hpush hn hre
  dsimp only [takeT,ackT,pushT,fetchT,replyN,replyT,writeT,writeN,hbH,hbHi,hbB,dkB,bRow,evRow,frA,noA,yesA,Hb.withP,Rc.av,Rc.cs,Rc.nilA,clk0,Pt.lenOf,clC,List.cons_append,List.nil_append] at hs hs' hft hrn hpush hn hre ⊢
  refine mspec_of lay_ok 565162937434611 40 Try.func14 rfl rfl rfl ?_
  repeat' ((conv => whnf); first | refine K1.a ?_ | refine K1.b ?_ | refine K1.c ?_ | refine K1.d ?_ | refine K1.e ?_ | refine K1.f ?_ | refine ACall.plain _ _ (hft) (SubL.cons (.eq _) .nil) rfl ?_ | refine ACall.chgR 1 [(0,_)] (hs) rfl ⟨rfl,trivial⟩ rfl rfl ?_ | refine ACall.chgR 1 [(0,_)] (hpush) rfl ⟨rfl,trivial⟩ rfl rfl ?_ | refine ACall.fresh _ _ _ _ _ _ _ (hre _) (SubL.cons (.eq _) .nil) rfl ?_ | refine InA.mk (by decide) ?_ | refine ACall.into 281621005600763 _ _ Try.func26 rfl rfl rfl ?_ | refine Spl.mk (fun _ => ?_) (fun _ => ?_) | refine SNil.mk (fun _ => ?_) ?_ | refine K1.g ?_ | refine ASl.frz ?_ | refine Wr.b64 ?_ | refine Wr.bu64 ?_ | refine Wr.bu32 ?_ | refine Wr.bu8 ?_ | refine K1.u8 ?_ | refine K1.u64 ?_ | refine K1.u32 ?_ | refine K1.h ?_ | refine K1.i ?_ | refine K1.q ?_ | refine ADraw.sched (id := 1) lay_ok (awp_snd lay_ok _) [(0,none),(1,none),(2,none),(3,none),(6,none),(7,none),(4,some [3,1]),(5,none),(8,none),(9,none)] [(2,[1]),(3,[1]),(4,[3,1]),(5,[3,1]),(8,[3,1]),(9,[3,1])] follows_ok (by kernel_rfl) ?_ | refine ADraw.sched (id := 2) lay_ok (awp_snd lay_ok _) [(0,none),(1,none),(2,none),(3,none),(4,none),(5,none),(6,none),(7,none),(8,some [7,5,3,1]),(9,none),(10,none),(11,none),(12,none),(13,none)] [(2,[1]),(3,[1]),(8,[7,5,3,1]),(9,[7,5,3,1]),(10,[7,5,3,1]),(11,[7,5,3,1]),(12,[7,5,3,1]),(13,[7,5,3,1])] follows_ok (by kernel_rfl) ?_ | refine ADraw.sched (id := 6) lay_ok (awp_snd lay_ok _) [(0,none),(1,none),(2,none),(3,none),(4,none),(5,none),(6,none),(7,none),(8,some [6,4,1]),(9,none)] [(2,[1]),(7,[6,4]),(8,[6,4,1]),(9,[6,4,1])] follows_ok (by kernel_rfl) ?_ | refine K1.j ?_ | refine K1.k ?_ | refine BSpl.dec (fun _ => ?_) (fun _ => ?_) | refine K1.l ?_ | refine K1.n ?_ | refine BSpl.mk (fun _ => ?_) (fun _ => ?_))
  all_goals (conv => whnf)
  exact ⟨[(44,1)],rfl,rfl,⟨⟨_,rfl,OEq.refl _⟩,⟨_,rfl,OEq.refl _⟩,⟨_,rfl,OEq.refl _⟩,⟨_,rfl,OEq.refl _⟩,⟨_,rfl,OEq.refl _⟩,trivial⟩,rfl,rfl,AEq.refl _⟩
set_option maxHeartbeats 16000000 in
set_option maxRecDepth 100000 in
theorem hb_take_push_w (h h' : Hb) (hp : PtB h.p) (hup : h.up = true) {n : Nat} {F : Nat → List AV} (p' : Pt) (hp' : PtB p') (r : Nat) (u m _y : Int) (c : Clk) (ev : List Ev) (w : List UInt8) (hr5 : r < 5) (hft : takeT n F 1 r u c ev 0) (hrn : (r : Int) < h.c.n) (hpush : pushT h.c.w h.p p' r ev m 0) (hn : m ≠ h.p.lenOf r) (hw : writeT (h.withP p') h' ⟨5,r,0,clk0,ev⟩ 0) (hre : replyN ⟨2,r,m,clk0,[]⟩ w) :
  MSpec Try.prog 14 (hbH h ()) [.box 0 0, .sl 1 n true F] (yesA r) (hbHi 11 h' ++ [(1,bRow w)]) := by
 have hs := pt_site_m h.c.w h.p hp
 have hs' := pt_site_m h.c.w p' hp'
 obtain ⟨up,cf,p,d⟩ := h
 dsimp only at hs hs' hup hft hrn hpush hn hw hre
 subst hup
 refine lt5 (C := fun r => r < 5 → takeT n F 1 r u c ev 0 → (r : Int) < cf.n → pushT cf.w p p' r ev m 0 → m ≠ p.lenOf r → writeT ((Hb.withP ⟨true,cf,p,d⟩) p') h' ⟨5,r,0,clk0,ev⟩ 0 → replyN ⟨2,r,m,clk0,[]⟩ w → MSpec Try.prog 14 (hbH ⟨true,cf,p,d⟩ ()) [.box 0 0, .sl 1 n true F] (yesA r) (hbHi 11 h' ++ [(1,bRow w)])) hr5 ?_ ?_ ?_ ?_ ?_ hr5 hft hrn hpush hn hw hre
 all_goals
  clear hft hrn hpush hn hw hre
  intro hr hft hrn hpush hn hw hre
  dsimp only [takeT,ackT,pushT,fetchT,replyN,replyT,writeT,writeN,hbH,hbHi,hbB,dkB,bRow,evRow,frA,noA,yesA,Hb.withP,Rc.av,Rc.cs,Rc.nilA,clk0,Pt.lenOf,clC,List.cons_append,List.nil_append] at hs hs' hft hrn hpush hn hw hre ⊢
  refine mspec_of lay_ok 565162937434611 40 Try.func14 rfl rfl rfl ?_
  repeat' ((conv => whnf); first | refine K1.a ?_ | refine K1.b ?_ | refine K1.c ?_ | refine K1.d ?_ | refine K1.e ?_ | refine K1.f ?_ | refine ACall.plain _ _ (hft) (SubL.cons (.eq _) .nil) rfl ?_ | refine ACall.chgR 1 [(0,_)] (hs) rfl ⟨rfl,trivial⟩ rfl rfl ?_ | refine ACall.chgR 1 [(0,_)] (hpush) rfl ⟨rfl,trivial⟩ rfl rfl ?_ | refine ACall.chgR 11 [(0,_),(8,_),(10,_),(9,_)] (hw) rfl ⟨rfl,rfl,rfl,rfl,trivial⟩ rfl rfl ?_ | refine ACall.fresh _ _ _ _ _ _ _ (hre _) (SubL.cons (.eq _) .nil) rfl ?_ | refine InA.mk (by decide) ?_ | refine ACall.into 281621005600763 _ _ Try.func26 rfl rfl rfl ?_ | refine Spl.mk (fun _ => ?_) (fun _ => ?_) | refine SNil.mk (fun _ => ?_) ?_ | refine K1.g ?_ | refine ASl.frz ?_ | refine Wr.b64 ?_ | refine Wr.bu64 ?_ | refine Wr.bu32 ?_ | refine Wr.bu8 ?_ | refine K1.u8 ?_ | refine K1.u64 ?_ | refine K1.u32 ?_ | refine K1.h ?_ | refine K1.i ?_ | refine K1.q ?_ | refine ADraw.sched (id := 1) lay_ok (awp_snd lay_ok _) [(0,none),(1,none),(2,none),(3,none),(6,none),(7,none),(4,some [3,1]),(5,none),(8,none),(9,none)] [(2,[1]),(3,[1]),(4,[3,1]),(5,[3,1]),(8,[3,1]),(9,[3,1])] follows_ok (by kernel_rfl) ?_ | refine ADraw.sched (id := 2) lay_ok (awp_snd lay_ok _) [(0,none),(1,none),(2,none),(3,none),(4,none),(5,none),(6,none),(7,none),(8,some [7,5,3,1]),(9,none),(10,none),(11,none),(12,none),(13,none)] [(2,[1]),(3,[1]),(8,[7,5,3,1]),(9,[7,5,3,1]),(10,[7,5,3,1]),(11,[7,5,3,1]),(12,[7,5,3,1]),(13,[7,5,3,1])] follows_ok (by kernel_rfl) ?_ | refine ADraw.sched (id := 6) lay_ok (awp_snd lay_ok _) [(0,none),(1,none),(2,none),(3,none),(4,none),(5,none),(6,none),(7,none),(8,some [6,4,1]),(9,none)] [(2,[1]),(7,[6,4]),(8,[6,4,1]),(9,[6,4,1])] follows_ok (by kernel_rfl) ?_ | refine K1.j ?_ | refine K1.k ?_ | refine BSpl.dec (fun _ => ?_) (fun _ => ?_) | refine K1.l ?_ | refine K1.n ?_ | refine BSpl.mk (fun _ => ?_) (fun _ => ?_))
  all_goals (conv => whnf)
  exact ⟨[(44,11),(45,1)],rfl,rfl,⟨⟨_,rfl,OEq.refl _⟩,⟨_,rfl,OEq.refl _⟩,⟨_,rfl,OEq.refl _⟩,⟨_,rfl,OEq.refl _⟩,⟨_,rfl,OEq.refl _⟩,trivial⟩,rfl,rfl,AEq.refl _⟩
set_option maxHeartbeats 16000000 in
set_option maxRecDepth 100000 in
theorem hb_take_push_cut (h h' : Hb) (hp : PtB h.p) (hup : h.up = true) {n : Nat} {F : Nat → List AV} (p' : Pt) (hp' : PtB p') (r : Nat) (u m y : Int) (c : Clk) (ev : List Ev) (_w : List UInt8) (hr5 : r < 5) (hft : takeT n F 1 r u c ev 0) (hrn : (r : Int) < h.c.n) (hpush : pushT h.c.w h.p p' r ev m 0) (hn : m ≠ h.p.lenOf r) (hw : writeT (h.withP p') h' ⟨5,r,0,clk0,ev⟩ y) (hx : y ≠ 0) :
  MSpec Try.prog 14 (hbH h ()) [.box 0 0, .sl 1 n true F] (noA y) (hbHi 11 h') := by
 have hs := pt_site_m h.c.w h.p hp
 have hs' := pt_site_m h.c.w p' hp'
 obtain ⟨up,cf,p,d⟩ := h
 dsimp only at hs hs' hup hft hrn hpush hn hw hx
 subst hup
 refine lt5 (C := fun r => r < 5 → takeT n F 1 r u c ev 0 → (r : Int) < cf.n → pushT cf.w p p' r ev m 0 → m ≠ p.lenOf r → writeT ((Hb.withP ⟨true,cf,p,d⟩) p') h' ⟨5,r,0,clk0,ev⟩ y → y ≠ 0 → MSpec Try.prog 14 (hbH ⟨true,cf,p,d⟩ ()) [.box 0 0, .sl 1 n true F] (noA y) (hbHi 11 h')) hr5 ?_ ?_ ?_ ?_ ?_ hr5 hft hrn hpush hn hw hx
 all_goals
  clear hft hrn hpush hn hw hx
  intro hr hft hrn hpush hn hw hx
  dsimp only [takeT,ackT,pushT,fetchT,replyN,replyT,writeT,writeN,hbH,hbHi,hbB,dkB,bRow,evRow,frA,noA,yesA,Hb.withP,Rc.av,Rc.cs,Rc.nilA,clk0,Pt.lenOf,clC,List.cons_append,List.nil_append] at hs hs' hft hrn hpush hn hw ⊢
  refine mspec_of lay_ok 565162937434611 40 Try.func14 rfl rfl rfl ?_
  repeat' ((conv => whnf); first | refine K1.a ?_ | refine K1.b ?_ | refine K1.c ?_ | refine K1.d ?_ | refine K1.e ?_ | refine K1.f ?_ | refine ACall.plain _ _ (hft) (SubL.cons (.eq _) .nil) rfl ?_ | refine ACall.chgR 1 [(0,_)] (hs) rfl ⟨rfl,trivial⟩ rfl rfl ?_ | refine ACall.chgR 1 [(0,_)] (hpush) rfl ⟨rfl,trivial⟩ rfl rfl ?_ | refine ACall.chgR 11 [(0,_),(8,_),(10,_),(9,_)] (hw) rfl ⟨rfl,rfl,rfl,rfl,trivial⟩ rfl rfl ?_ | refine InA.mk (by decide) ?_ | refine ACall.into 281621005600763 _ _ Try.func26 rfl rfl rfl ?_ | refine Spl.mk (fun _ => ?_) (fun _ => ?_) | refine SNil.mk (fun _ => ?_) ?_ | refine K1.g ?_ | refine ASl.frz ?_ | refine Wr.b64 ?_ | refine Wr.bu64 ?_ | refine Wr.bu32 ?_ | refine Wr.bu8 ?_ | refine K1.u8 ?_ | refine K1.u64 ?_ | refine K1.u32 ?_ | refine K1.h ?_ | refine K1.i ?_ | refine K1.q ?_ | refine ADraw.sched (id := 1) lay_ok (awp_snd lay_ok _) [(0,none),(1,none),(2,none),(3,none),(6,none),(7,none),(4,some [3,1]),(5,none),(8,none),(9,none)] [(2,[1]),(3,[1]),(4,[3,1]),(5,[3,1]),(8,[3,1]),(9,[3,1])] follows_ok (by kernel_rfl) ?_ | refine ADraw.sched (id := 2) lay_ok (awp_snd lay_ok _) [(0,none),(1,none),(2,none),(3,none),(4,none),(5,none),(6,none),(7,none),(8,some [7,5,3,1]),(9,none),(10,none),(11,none),(12,none),(13,none)] [(2,[1]),(3,[1]),(8,[7,5,3,1]),(9,[7,5,3,1]),(10,[7,5,3,1]),(11,[7,5,3,1]),(12,[7,5,3,1]),(13,[7,5,3,1])] follows_ok (by kernel_rfl) ?_ | refine ADraw.sched (id := 6) lay_ok (awp_snd lay_ok _) [(0,none),(1,none),(2,none),(3,none),(4,none),(5,none),(6,none),(7,none),(8,some [6,4,1]),(9,none)] [(2,[1]),(7,[6,4]),(8,[6,4,1]),(9,[6,4,1])] follows_ok (by kernel_rfl) ?_ | refine K1.j ?_ | refine K1.k ?_ | refine BSpl.dec (fun _ => ?_) (fun _ => ?_) | refine K1.l ?_ | refine K1.n ?_ | refine BSpl.mk (fun _ => ?_) (fun _ => ?_))
  all_goals (conv => whnf)
  exact ⟨[(44,11)],rfl,rfl,⟨⟨_,rfl,OEq.refl _⟩,⟨_,rfl,OEq.refl _⟩,⟨_,rfl,OEq.refl _⟩,⟨_,rfl,OEq.refl _⟩,trivial⟩,rfl,rfl,AEq.refl _⟩
set_option maxHeartbeats 16000000 in
set_option maxRecDepth 100000 in
theorem hb_take_fetch (h _h' : Hb) (hp : PtB h.p) (hup : h.up = true) {n : Nat} {F : Nat → List AV} (p' : Pt) (hp' : PtB p') (r : Nat) (u _m _y : Int) (c : Clk) (ev : List Ev) (w : List UInt8) (l : List Ev) (hr5 : r < 5) (hft : takeT n F 3 r u c ev 0) (hrn : (r : Int) < h.c.n) (hf : fetchT h.c.w h.p r c l) (hre : replyT ⟨4,r,0,clk0,l⟩ w) :
  MSpec Try.prog 14 (hbH h ()) [.box 0 0, .sl 1 n true F] (yesA r) (hbH h () ++ [(1,bRow w)]) := by
 have hs := pt_site_m h.c.w h.p hp
 have hs' := pt_site_m h.c.w p' hp'
 obtain ⟨up,cf,p,d⟩ := h
 dsimp only at hs hs' hup hft hrn hf hre
 subst hup
 refine lt5 (C := fun r => r < 5 → takeT n F 3 r u c ev 0 → (r : Int) < cf.n → fetchT cf.w p r c l → replyT ⟨4,r,0,clk0,l⟩ w → MSpec Try.prog 14 (hbH ⟨true,cf,p,d⟩ ()) [.box 0 0, .sl 1 n true F] (yesA r) (hbH ⟨true,cf,p,d⟩ () ++ [(1,bRow w)])) hr5 ?_ ?_ ?_ ?_ ?_ hr5 hft hrn hf hre
 all_goals
  clear hft hrn hf hre
  intro hr hft hrn hf hre
  dsimp only [takeT,ackT,pushT,fetchT,replyN,replyT,writeT,writeN,hbH,hbHi,hbB,dkB,bRow,evRow,frA,noA,yesA,Hb.withP,Rc.av,Rc.cs,Rc.nilA,clk0,Pt.lenOf,clC,List.cons_append,List.nil_append] at hs hs' hft hrn hf hre ⊢
  refine mspec_of lay_ok 565162937434611 40 Try.func14 rfl rfl rfl ?_
  repeat' ((conv => whnf); first | refine K1.a ?_ | refine K1.b ?_ | refine K1.c ?_ | refine K1.d ?_ | refine K1.e ?_ | refine K1.f ?_ | refine ACall.plain _ _ (hft) (SubL.cons (.eq _) .nil) rfl ?_ | refine ACall.chgR 1 [(0,_)] (hs) rfl ⟨rfl,trivial⟩ rfl rfl ?_ | refine ACall.chgR 1 [(0,_)] (hf) rfl ⟨rfl,trivial⟩ rfl rfl ?_ | refine ACall.fresh _ _ _ _ _ _ _ (hre _) (SubL.cons (.eq _) .nil) rfl ?_ | refine InA.mk (by decide) ?_ | refine ACall.into 4194811 _ _ Try.func27 rfl rfl rfl ?_ | refine Spl.mk (fun _ => ?_) (fun _ => ?_) | refine SNil.mk (fun _ => ?_) ?_ | refine K1.g ?_ | refine ASl.frz ?_ | refine Wr.b64 ?_ | refine Wr.bu64 ?_ | refine Wr.bu32 ?_ | refine Wr.bu8 ?_ | refine K1.u8 ?_ | refine K1.u64 ?_ | refine K1.u32 ?_ | refine K1.h ?_ | refine K1.i ?_ | refine K1.q ?_ | refine ADraw.sched (id := 1) lay_ok (awp_snd lay_ok _) [(0,none),(1,none),(2,none),(3,none),(4,none),(5,none),(6,none),(7,none),(8,some [7,5,3,1]),(9,none),(10,none),(11,none),(12,none),(13,none)] [(2,[1]),(3,[1]),(8,[7,5,3,1]),(9,[7,5,3,1]),(10,[7,5,3,1]),(11,[7,5,3,1]),(12,[7,5,3,1]),(13,[7,5,3,1])] follows_ok (by kernel_rfl) ?_ | refine K1.j ?_ | refine K1.k ?_ | refine BSpl.dec (fun _ => ?_) (fun _ => ?_) | refine K1.l ?_ | refine K1.n ?_ | refine BSpl.mk (fun _ => ?_) (fun _ => ?_))
  all_goals (conv => whnf)
  exact ⟨[(43,1)],rfl,rfl,⟨⟨_,rfl,OEq.refl _⟩,⟨_,rfl,OEq.refl _⟩,⟨_,rfl,OEq.refl _⟩,⟨_,rfl,OEq.refl _⟩,⟨_,rfl,OEq.refl _⟩,trivial⟩,rfl,rfl,AEq.refl _⟩
end Go.Proofs.Ytmldeejaghflnaa

/-
 The hub: what a replica tells (nothing new).
-/
namespace Go.Proofs.Ytmldeejaghflnaa
open Go.RowKit
set_option maxHeartbeats 16000000 in
set_option maxRecDepth 100000 in
theorem hb_ack_same (h : Hb) (hp : PtB h.p) (p' : Pt) (hp' : PtB p') (r : Nat) (u : Int) (c : Clk) (ev : List Ev) (hr5 : r < 5) (hack : ackT h.c.w h.p p' r c) (hn : p'.told.getD r clk0 = h.p.told.getD r clk0) :
  MSpec Try.prog 28 (hbH h ()) [.box 0 0,frA 5 r u c ev] (.v (.int .i64 0)) (hbH (h.withP p') ()) := by
 have hs := pt_site_m h.c.w h.p hp
 have hs' := pt_site_m h.c.w p' hp'
 obtain ⟨up,cf,p,d⟩ := h
 dsimp only at hs hs' hack hn
 refine lt5 (C := fun r => r < 5 → ackT cf.w p p' r c → p'.told.getD r clk0 = p.told.getD r clk0 → MSpec Try.prog 28 (hbH ⟨up,cf,p,d⟩ ()) [.box 0 0,frA 5 r u c ev] (.v (.int .i64 0)) (hbH (Hb.withP ⟨up,cf,p,d⟩ p') ())) hr5 ?_ ?_ ?_ ?_ ?_ hr5 hack hn
 all_goals
  intro hr hack hn
  dsimp only [ackT,hbH,hbHi,hbB,dkB,bRow,frA,noA,writeN,Hb.withP,Rc.av,Rc.cs,Rc.nilA,clC] at hs hs' hack ⊢
  refine mspec_of lay_ok 274945015931 40 Try.func28 rfl rfl rfl ?_
  repeat' ((conv => whnf); first | refine AAnyI.fin rfl ?_ | refine AAnyI.pick _ _ rfl rfl ?_ | refine AAnyI.one _ _ rfl rfl rfl ?_ | refine AAnyI.fork _ _ _ _ rfl rfl rfl rfl ?_ ?_ | refine AAnyI.fork3 _ _ _ _ _ _ rfl rfl rfl rfl rfl ?_ ?_ ?_ | refine K1.a ?_ | refine K1.b ?_ | refine K1.c ?_ | refine K1.d ?_ | refine K1.e ?_ | refine K1.f ?_ | refine ACall.chgR 1 [(0,_)] (hack) rfl ⟨rfl,trivial⟩ rfl rfl ?_ | refine ACall.chgR 1 [(0,_)] (hs) rfl ⟨rfl,trivial⟩ rfl rfl ?_ | refine ACall.chgR 1 [(0,_)] (hs') rfl ⟨rfl,trivial⟩ rfl rfl ?_ | refine InA.mk (by decide) ?_ | (refine ADraw.cutR 274945015931 (id := 1) lay_ok (awp_snd lay_ok _) (ackS hr up cf p d u c ev) follows_ok (by kernel_rfl) 11 _ rfl rfl ?_ ?_ <;> dsimp only [ackS]) | exact ⟨[(41,80)],LeR.mk' _ _ _ _ rfl ⟨AEq.refl _,AEq.refl _,AEq.refl _,trivial⟩ ⟨⟨_,rfl,OEq.refl _⟩,⟨_,rfl,OEq.refl _⟩,⟨_,rfl,OEq.refl _⟩,⟨_,rfl,OEq.refl _⟩,⟨_,rfl,OEq.refl _⟩,⟨_,rfl,OEq.refl _⟩,trivial⟩ rfl⟩ | exact ⟨[(42,80)],LeR.mk' _ _ _ _ rfl ⟨AEq.refl _,AEq.refl _,AEq.refl _,trivial⟩ ⟨⟨_,rfl,OEq.refl _⟩,⟨_,rfl,OEq.refl _⟩,⟨_,rfl,OEq.refl _⟩,⟨_,rfl,OEq.refl _⟩,⟨_,rfl,OEq.refl _⟩,⟨_,rfl,OEq.refl _⟩,trivial⟩ rfl⟩ | refine EqA.mk (Clk.vs _) (Clk.vs _) _ rfl rfl (clk_eq _ _) ?_ | refine Spl.mk (fun _ => ?_) (fun _ => ?_) | refine SNil.mk (fun _ => ?_) ?_ | refine K1.g ?_ | refine ASl.frz ?_ | refine Wr.b64 ?_ | refine Wr.bu64 ?_ | refine Wr.bu32 ?_ | refine Wr.bu8 ?_ | refine K1.u8 ?_ | refine K1.u64 ?_ | refine K1.u32 ?_ | refine K1.h ?_ | refine K1.i ?_ | refine K1.q ?_ | refine ADraw.sched (id := 2) lay_ok (awp_snd lay_ok _) [(0,none),(1,none),(2,none),(3,none),(4,none),(5,none),(6,none),(7,none),(8,some [7,5,3,1]),(9,none)] [(2,[1]),(3,[1]),(8,[7,5,3,1]),(9,[7,5,3,1])] follows_ok (by kernel_rfl) ?_ | refine ADraw.sched (id := 5) lay_ok (awp_snd lay_ok _) [(0,none),(1,none),(2,none),(3,none),(6,none),(7,none),(9,none),(4,some [3,1]),(5,none),(8,none),(10,none)] [(2,[1]),(3,[1]),(4,[3,1]),(5,[3,1]),(8,[3,1]),(10,[3,1])] follows_ok (by kernel_rfl) ?_ | refine ADraw.sched (id := 7) lay_ok (awp_snd lay_ok _) [(0,none),(1,none),(2,none),(3,none),(4,none),(5,none),(6,none),(7,none),(8,some [6,4,1]),(9,none)] [(2,[1]),(7,[6,4]),(8,[6,4,1]),(9,[6,4,1])] follows_ok (by kernel_rfl) ?_ | refine K1.j ?_ | refine K1.k ?_ | refine BSpl.dec (fun _ => ?_) (fun _ => ?_) | refine K1.l ?_ | refine K1.n ?_ | refine BSpl.mk (fun _ => ?_) (fun _ => ?_))
  all_goals (conv => whnf)
  exact ⟨[],rfl,rfl,⟨⟨_,rfl,OEq.refl _⟩,⟨_,rfl,OEq.refl _⟩,⟨_,rfl,OEq.refl _⟩,⟨_,rfl,OEq.refl _⟩,trivial⟩,rfl,rfl,AEq.refl _⟩
set_option maxHeartbeats 16000000 in
set_option maxRecDepth 100000 in
theorem hb_take_ack_same (h _h' : Hb) (hp : PtB h.p) (hup : h.up = true) {n : Nat} {F : Nat → List AV} (p' : Pt) (hp' : PtB p') (r : Nat) (u _m _y : Int) (c : Clk) (ev : List Ev) (_w : List UInt8) (hr5 : r < 5) (hft : takeT n F 5 r u c ev 0) (hrn : (r : Int) < h.c.n) (hack : MSpec Try.prog 28 (hbH h ()) [.box 0 0,frA 5 r u c ev] (.v (.int .i64 0)) (hbH (h.withP p') ())) :
  MSpec Try.prog 14 (hbH h ()) [.box 0 0, .sl 1 n true F] (noA 0) (hbH (h.withP p') ()) := by
 have hs := pt_site_m h.c.w h.p hp
 have hs' := pt_site_m h.c.w p' hp'
 obtain ⟨up,cf,p,d⟩ := h
 dsimp only at hs hs' hup hft hrn hack
 subst hup
 refine lt5 (C := fun r => r < 5 → takeT n F 5 r u c ev 0 → (r : Int) < cf.n → MSpec Try.prog 28 (hbH ⟨true,cf,p,d⟩ ()) [.box 0 0,frA 5 r u c ev] (.v (.int .i64 0)) (hbH ((Hb.withP ⟨true,cf,p,d⟩) p') ()) → MSpec Try.prog 14 (hbH ⟨true,cf,p,d⟩ ()) [.box 0 0, .sl 1 n true F] (noA 0) (hbH (Hb.withP ⟨true,cf,p,d⟩ p') ())) hr5 ?_ ?_ ?_ ?_ ?_ hr5 hft hrn hack
 all_goals
  clear hft hrn hack
  intro hr hft hrn hack
  dsimp only [takeT,ackT,pushT,fetchT,replyN,replyT,writeT,writeN,hbH,hbHi,hbB,dkB,bRow,evRow,frA,noA,yesA,Hb.withP,Rc.av,Rc.cs,Rc.nilA,clk0,Pt.lenOf,clC,List.cons_append,List.nil_append] at hs hs' hft hrn hack ⊢
  refine mspec_of lay_ok 565162937434611 40 Try.func14 rfl rfl rfl ?_
  repeat' ((conv => whnf); first | refine K1.a ?_ | refine K1.b ?_ | refine K1.c ?_ | refine K1.d ?_ | refine K1.e ?_ | refine K1.f ?_ | refine ACall.plain _ _ (hft) (SubL.cons (.eq _) .nil) rfl ?_ | refine ACall.chgR 1 [(0,_)] (hs) rfl ⟨rfl,trivial⟩ rfl rfl ?_ | refine ACall.chgR 99 [(0,_),(8,_),(10,_),(9,_)] (hack) rfl ⟨rfl,rfl,rfl,rfl,trivial⟩ rfl rfl ?_ | refine InA.mk (by decide) ?_ | refine Spl.mk (fun _ => ?_) (fun _ => ?_) | refine SNil.mk (fun _ => ?_) ?_ | refine K1.g ?_ | refine ASl.frz ?_ | refine Wr.b64 ?_ | refine Wr.bu64 ?_ | refine Wr.bu32 ?_ | refine Wr.bu8 ?_ | refine K1.u8 ?_ | refine K1.u64 ?_ | refine K1.u32 ?_ | refine K1.h ?_ | refine K1.i ?_ | refine K1.q ?_ | refine K1.j ?_ | refine K1.k ?_ | refine BSpl.dec (fun _ => ?_) (fun _ => ?_) | refine K1.l ?_ | refine K1.n ?_ | refine BSpl.mk (fun _ => ?_) (fun _ => ?_))
  all_goals (conv => whnf)
  exact ⟨[],rfl,rfl,⟨⟨_,rfl,OEq.refl _⟩,⟨_,rfl,OEq.refl _⟩,⟨_,rfl,OEq.refl _⟩,⟨_,rfl,OEq.refl _⟩,trivial⟩,rfl,rfl,AEq.refl _⟩
end Go.Proofs.Ytmldeejaghflnaa

/-
 The hub: what a replica tells (something new).
-/
namespace Go.Proofs.Ytmldeejaghflnaa
open Go.RowKit
set_option maxHeartbeats 16000000 in
set_option maxRecDepth 100000 in
theorem hb_ack_w (h h' : Hb) (hp : PtB h.p) (p' : Pt) (hp' : PtB p') (r : Nat) (u : Int) (c : Clk) (ev : List Ev) (hr5 : r < 5) (y : Int) (hack : ackT h.c.w h.p p' r c) (hn : p'.told.getD r clk0 ≠ h.p.told.getD r clk0) (hw : writeN (h.withP p') h' ⟨6,r,0,c,[]⟩ y) :
  MSpec Try.prog 28 (hbH h ()) [.box 0 0,frA 5 r u c ev] (.v (.int .i64 y)) (hbHi 11 h') := by
 have hs := pt_site_m h.c.w h.p hp
 have hs' := pt_site_m h.c.w p' hp'
 obtain ⟨up,cf,p,d⟩ := h
 dsimp only at hs hs' hack hn
 refine lt5 (C := fun r => r < 5 → ackT cf.w p p' r c → p'.told.getD r clk0 ≠ p.told.getD r clk0 → writeN (Hb.withP ⟨up,cf,p,d⟩ p') h' ⟨6,r,0,c,[]⟩ y → MSpec Try.prog 28 (hbH ⟨up,cf,p,d⟩ ()) [.box 0 0,frA 5 r u c ev] (.v (.int .i64 y)) (hbHi 11 h')) hr5 ?_ ?_ ?_ ?_ ?_ hr5 hack hn hw
 all_goals
  intro hr hack hn hw
  dsimp only [ackT,hbH,hbHi,hbB,dkB,bRow,frA,noA,writeN,Hb.withP,Rc.av,Rc.cs,Rc.nilA,clC] at hs hs' hack hw ⊢
  refine mspec_of lay_ok 274945015931 40 Try.func28 rfl rfl rfl ?_
  repeat' ((conv => whnf); first | refine AAnyI.fin rfl ?_ | refine AAnyI.pick _ _ rfl rfl ?_ | refine AAnyI.one _ _ rfl rfl rfl ?_ | refine AAnyI.fork _ _ _ _ rfl rfl rfl rfl ?_ ?_ | refine AAnyI.fork3 _ _ _ _ _ _ rfl rfl rfl rfl rfl ?_ ?_ ?_ | refine K1.a ?_ | refine K1.b ?_ | refine K1.c ?_ | refine K1.d ?_ | refine K1.e ?_ | refine K1.f ?_ | refine ACall.chgR 1 [(0,_)] (hack) rfl ⟨rfl,trivial⟩ rfl rfl ?_ | refine ACall.chgR 1 [(0,_)] (hs) rfl ⟨rfl,trivial⟩ rfl rfl ?_ | refine ACall.chgR 1 [(0,_)] (hs') rfl ⟨rfl,trivial⟩ rfl rfl ?_ | refine ACall.chgR 11 [(0,_),(8,_),(10,_),(9,_)] (hw) rfl ⟨rfl,rfl,rfl,rfl,trivial⟩ rfl rfl ?_ | refine InA.mk (by decide) ?_ | (refine ADraw.cutR 274945015931 (id := 1) lay_ok (awp_snd lay_ok _) (ackS hr up cf p d u c ev) follows_ok (by kernel_rfl) 11 _ rfl rfl ?_ ?_ <;> dsimp only [ackS]) | exact ⟨[(41,80)],LeR.mk' _ _ _ _ rfl ⟨AEq.refl _,AEq.refl _,AEq.refl _,trivial⟩ ⟨⟨_,rfl,OEq.refl _⟩,⟨_,rfl,OEq.refl _⟩,⟨_,rfl,OEq.refl _⟩,⟨_,rfl,OEq.refl _⟩,⟨_,rfl,OEq.refl _⟩,⟨_,rfl,OEq.refl _⟩,trivial⟩ rfl⟩ | exact ⟨[(42,80)],LeR.mk' _ _ _ _ rfl ⟨AEq.refl _,AEq.refl _,AEq.refl _,trivial⟩ ⟨⟨_,rfl,OEq.refl _⟩,⟨_,rfl,OEq.refl _⟩,⟨_,rfl,OEq.refl _⟩,⟨_,rfl,OEq.refl _⟩,⟨_,rfl,OEq.refl _⟩,⟨_,rfl,OEq.refl _⟩,trivial⟩ rfl⟩ | refine EqA.mk (Clk.vs _) (Clk.vs _) _ rfl rfl (clk_eq _ _) ?_ | refine Spl.mk (fun _ => ?_) (fun _ => ?_) | refine SNil.mk (fun _ => ?_) ?_ | refine K1.g ?_ | refine ASl.frz ?_ | refine Wr.b64 ?_ | refine Wr.bu64 ?_ | refine Wr.bu32 ?_ | refine Wr.bu8 ?_ | refine K1.u8 ?_ | refine K1.u64 ?_ | refine K1.u32 ?_ | refine K1.h ?_ | refine K1.i ?_ | refine K1.q ?_ | refine ADraw.sched (id := 2) lay_ok (awp_snd lay_ok _) [(0,none),(1,none),(2,none),(3,none),(4,none),(5,none),(6,none),(7,none),(8,some [7,5,3,1]),(9,none)] [(2,[1]),(3,[1]),(8,[7,5,3,1]),(9,[7,5,3,1])] follows_ok (by kernel_rfl) ?_ | refine ADraw.sched (id := 5) lay_ok (awp_snd lay_ok _) [(0,none),(1,none),(2,none),(3,none),(6,none),(7,none),(9,none),(4,some [3,1]),(5,none),(8,none),(10,none)] [(2,[1]),(3,[1]),(4,[3,1]),(5,[3,1]),(8,[3,1]),(10,[3,1])] follows_ok (by kernel_rfl) ?_ | refine ADraw.sched (id := 7) lay_ok (awp_snd lay_ok _) [(0,none),(1,none),(2,none),(3,none),(4,none),(5,none),(6,none),(7,none),(8,some [6,4,1]),(9,none)] [(2,[1]),(7,[6,4]),(8,[6,4,1]),(9,[6,4,1])] follows_ok (by kernel_rfl) ?_ | refine K1.j ?_ | refine K1.k ?_ | refine BSpl.dec (fun _ => ?_) (fun _ => ?_) | refine K1.l ?_ | refine K1.n ?_ | refine BSpl.mk (fun _ => ?_) (fun _ => ?_))
  all_goals (conv => whnf)
  exact ⟨[(83,11)],rfl,rfl,⟨⟨_,rfl,OEq.refl _⟩,⟨_,rfl,OEq.refl _⟩,⟨_,rfl,OEq.refl _⟩,⟨_,rfl,OEq.refl _⟩,trivial⟩,rfl,rfl,AEq.refl _⟩
set_option maxHeartbeats 16000000 in
set_option maxRecDepth 100000 in
theorem hb_take_ack_w (h h' : Hb) (hp : PtB h.p) (hup : h.up = true) {n : Nat} {F : Nat → List AV} (p' : Pt) (hp' : PtB p') (r : Nat) (u _m y : Int) (c : Clk) (ev : List Ev) (_w : List UInt8) (hr5 : r < 5) (hft : takeT n F 5 r u c ev 0) (hrn : (r : Int) < h.c.n) (hack : MSpec Try.prog 28 (hbH h ()) [.box 0 0,frA 5 r u c ev] (.v (.int .i64 y)) (hbHi 11 h')) :
  MSpec Try.prog 14 (hbH h ()) [.box 0 0, .sl 1 n true F] (noA y) (hbHi 11 h') := by
 have hs := pt_site_m h.c.w h.p hp
 have hs' := pt_site_m h.c.w p' hp'
 obtain ⟨up,cf,p,d⟩ := h
 dsimp only at hs hs' hup hft hrn hack
 subst hup
 refine lt5 (C := fun r => r < 5 → takeT n F 5 r u c ev 0 → (r : Int) < cf.n → MSpec Try.prog 28 (hbH ⟨true,cf,p,d⟩ ()) [.box 0 0,frA 5 r u c ev] (.v (.int .i64 y)) (hbHi 11 h') → MSpec Try.prog 14 (hbH ⟨true,cf,p,d⟩ ()) [.box 0 0, .sl 1 n true F] (noA y) (hbHi 11 h')) hr5 ?_ ?_ ?_ ?_ ?_ hr5 hft hrn hack
 all_goals
  clear hft hrn hack
  intro hr hft hrn hack
  dsimp only [takeT,ackT,pushT,fetchT,replyN,replyT,writeT,writeN,hbH,hbHi,hbB,dkB,bRow,evRow,frA,noA,yesA,Hb.withP,Rc.av,Rc.cs,Rc.nilA,clk0,Pt.lenOf,clC,List.cons_append,List.nil_append] at hs hs' hft hrn hack ⊢
  refine mspec_of lay_ok 565162937434611 40 Try.func14 rfl rfl rfl ?_
  repeat' ((conv => whnf); first | refine K1.a ?_ | refine K1.b ?_ | refine K1.c ?_ | refine K1.d ?_ | refine K1.e ?_ | refine K1.f ?_ | refine ACall.plain _ _ (hft) (SubL.cons (.eq _) .nil) rfl ?_ | refine ACall.chgR 1 [(0,_)] (hs) rfl ⟨rfl,trivial⟩ rfl rfl ?_ | refine ACall.chgR 11 [(0,_),(8,_),(10,_),(9,_)] (hack) rfl ⟨rfl,rfl,rfl,rfl,trivial⟩ rfl rfl ?_ | refine InA.mk (by decide) ?_ | refine Spl.mk (fun _ => ?_) (fun _ => ?_) | refine SNil.mk (fun _ => ?_) ?_ | refine K1.g ?_ | refine ASl.frz ?_ | refine Wr.b64 ?_ | refine Wr.bu64 ?_ | refine Wr.bu32 ?_ | refine Wr.bu8 ?_ | refine K1.u8 ?_ | refine K1.u64 ?_ | refine K1.u32 ?_ | refine K1.h ?_ | refine K1.i ?_ | refine K1.q ?_ | refine K1.j ?_ | refine K1.k ?_ | refine BSpl.dec (fun _ => ?_) (fun _ => ?_) | refine K1.l ?_ | refine K1.n ?_ | refine BSpl.mk (fun _ => ?_) (fun _ => ?_))
  all_goals (conv => whnf)
  exact ⟨[(41,11)],rfl,rfl,⟨⟨_,rfl,OEq.refl _⟩,⟨_,rfl,OEq.refl _⟩,⟨_,rfl,OEq.refl _⟩,⟨_,rfl,OEq.refl _⟩,trivial⟩,rfl,rfl,AEq.refl _⟩
end Go.Proofs.Ytmldeejaghflnaa

/-
 The hub: Take where nothing is done; a fetch by the only replica.
-/
namespace Go.Proofs.Ytmldeejaghflnaa
open Go.RowKit
set_option maxHeartbeats 4000000 in
set_option maxRecDepth 100000 in
theorem pt_fetch1_m (most : Int) (s0 : Shf) (t0 c : Clk) : MSpec Try.prog 50 [(0, .obs (ptO most ⟨[s0],[t0]⟩))] [.box 0 0, .v (.int .i64 ((0 : Nat) : Int)), .agg (clC c)] (.tup [.v (.slice none 0 0), .v (.int .i64 0)]) [(0, .obs (ptO most ⟨[s0],[t0]⟩))] := by
 refine pt_opn (ho := []) ⟨_,_,Try.func50,rfl,rfl⟩ ?_ rfl
 rw [List.append_nil]
 dsimp only [ptH,ptB,clRow,ptrs,shs,evRow,clC]
 refine mspec_of lay_ok 138168295 40 Try.func50 rfl rfl rfl ?_
 repeat' ((conv => whnf); first | refine K1.a ?_ | refine K1.b ?_ | refine K1.c ?_ | refine K1.d ?_ | refine K1.e ?_ | refine K1.f ?_ | refine ACall.into 19 _ _ Try.func66 rfl rfl rfl ?_ | refine ALoop.unr 20 6 rfl ?_ | refine InA.mk (by decide) ?_ | refine Spl.yes (by decide) ?_ | refine Spl.no (by decide) ?_ | refine Spl.mk (fun _ => ?_) (fun _ => ?_) | refine SNil.mk (fun _ => ?_) ?_ | refine K1.g ?_ | refine ASl.frz ?_ | refine Wr.b64 ?_ | refine Wr.bu64 ?_ | refine Wr.bu32 ?_ | refine Wr.bu8 ?_ | refine K1.u8 ?_ | refine K1.u64 ?_ | refine K1.u32 ?_ | refine K1.h ?_ | refine K1.i ?_ | refine K1.q ?_ | refine K1.j ?_ | refine K1.k ?_ | refine BSpl.dec (fun _ => ?_) (fun _ => ?_) | refine K1.l ?_ | refine K1.n ?_ | refine BSpl.mk (fun _ => ?_) (fun _ => ?_))
 all_goals (conv => whnf)
 exact ⟨[],rfl,rfl,⟨⟨_,rfl,OEq.refl _⟩,⟨_,rfl,OEq.refl _⟩,⟨_,rfl,OEq.refl _⟩,⟨_,rfl,OEq.refl _⟩,trivial⟩,rfl,rfl,AEq.refl _⟩
def fetch1T (most : Int) (p : Pt) (r : Nat) (c : Clk) : Prop := MSpec Try.prog 50 [(0, .obs (ptO most p))] [.box 0 0, .v (.int .i64 (r : Int)), .agg (clC c)] (.tup [.v (.slice none 0 0), .v (.int .i64 0)]) [(0, .obs (ptO most p))]
set_option maxHeartbeats 16000000 in
set_option maxRecDepth 100000 in
theorem hb_take_fetch1 (h _h' : Hb) (hp : PtB h.p) (hup : h.up = true) {n : Nat} {F : Nat → List AV} (p' : Pt) (hp' : PtB p') (r : Nat) (u _m _y : Int) (c : Clk) (ev : List Ev) (w : List UInt8) (hr5 : r < 5) (hft : takeT n F 3 r u c ev 0) (hrn : (r : Int) < h.c.n) (hf : fetch1T h.c.w h.p r c) (hre : replyN ⟨4,r,0,clk0,[]⟩ w) :
  MSpec Try.prog 14 (hbH h ()) [.box 0 0, .sl 1 n true F] (yesA r) (hbH h () ++ [(1,bRow w)]) := by
 have hs := pt_site_m h.c.w h.p hp
 have hs' := pt_site_m h.c.w p' hp'
 obtain ⟨up,cf,p,d⟩ := h
 dsimp only at hs hs' hup hft hrn hf hre
 subst hup
 refine lt5 (C := fun r => r < 5 → takeT n F 3 r u c ev 0 → (r : Int) < cf.n → fetch1T cf.w p r c → replyN ⟨4,r,0,clk0,[]⟩ w → MSpec Try.prog 14 (hbH ⟨true,cf,p,d⟩ ()) [.box 0 0, .sl 1 n true F] (yesA r) (hbH ⟨true,cf,p,d⟩ () ++ [(1,bRow w)])) hr5 ?_ ?_ ?_ ?_ ?_ hr5 hft hrn hf hre
 all_goals
  clear hft hrn hf hre
  intro hr hft hrn hf hre
  dsimp only [fetch1T,takeT,ackT,pushT,fetchT,replyN,replyT,writeT,writeN,hbH,hbHi,hbB,dkB,bRow,evRow,frA,noA,yesA,Hb.withP,Rc.av,Rc.cs,Rc.nilA,clk0,Pt.lenOf,clC,List.cons_append,List.nil_append] at hs hs' hft hrn hf hre ⊢
  refine mspec_of lay_ok 565162937434611 40 Try.func14 rfl rfl rfl ?_
  repeat' ((conv => whnf); first | refine K1.a ?_ | refine K1.b ?_ | refine K1.c ?_ | refine K1.d ?_ | refine K1.e ?_ | refine K1.f ?_ | refine ACall.plain _ _ (hft) (SubL.cons (.eq _) .nil) rfl ?_ | refine ACall.chgR 1 [(0,_)] (hs) rfl ⟨rfl,trivial⟩ rfl rfl ?_ | refine ACall.chgR 1 [(0,_)] (hf) rfl ⟨rfl,trivial⟩ rfl rfl ?_ | refine ACall.fresh _ _ _ _ _ _ _ (hre _) (SubL.cons (.eq _) .nil) rfl ?_ | refine InA.mk (by decide) ?_ | refine ACall.into 4194811 _ _ Try.func27 rfl rfl rfl ?_ | refine Spl.mk (fun _ => ?_) (fun _ => ?_) | refine SNil.mk (fun _ => ?_) ?_ | refine K1.g ?_ | refine ASl.frz ?_ | refine Wr.b64 ?_ | refine Wr.bu64 ?_ | refine Wr.bu32 ?_ | refine Wr.bu8 ?_ | refine K1.u8 ?_ | refine K1.u64 ?_ | refine K1.u32 ?_ | refine K1.h ?_ | refine K1.i ?_ | refine K1.q ?_ | refine ADraw.sched (id := 1) lay_ok (awp_snd lay_ok _) [(0,none),(1,none),(2,none),(3,none),(4,none),(5,none),(6,none),(7,none),(8,some [7,5,3,1]),(9,none),(10,none),(11,none),(12,none),(13,none)] [(2,[1]),(3,[1]),(8,[7,5,3,1]),(9,[7,5,3,1]),(10,[7,5,3,1]),(11,[7,5,3,1]),(12,[7,5,3,1]),(13,[7,5,3,1])] follows_ok (by kernel_rfl) ?_ | refine K1.j ?_ | refine K1.k ?_ | refine BSpl.dec (fun _ => ?_) (fun _ => ?_) | refine K1.l ?_ | refine K1.n ?_ | refine BSpl.mk (fun _ => ?_) (fun _ => ?_))
  all_goals (conv => whnf)
  exact ⟨[(43,1)],rfl,rfl,⟨⟨_,rfl,OEq.refl _⟩,⟨_,rfl,OEq.refl _⟩,⟨_,rfl,OEq.refl _⟩,⟨_,rfl,OEq.refl _⟩,⟨_,rfl,OEq.refl _⟩,trivial⟩,rfl,rfl,AEq.refl _⟩
set_option maxHeartbeats 4000000 in
set_option maxRecDepth 100000 in
theorem hb_take_down (h : Hb) (hup : h.up = false) {n : Nat} {F : Nat → List AV}  :
  MSpec Try.prog 14 (hbH h ()) [.box 0 0, .sl 1 n true F] (noA 18) (hbH h ()) := by
 obtain ⟨up,cf,p,d⟩ := h
 dsimp only at hup
 subst hup
 dsimp only [hbH,hbB,dkB,bRow,noA]
 refine mspec_of lay_ok 565162937434611 40 Try.func14 rfl rfl rfl ?_
 repeat' ((conv => whnf); first | refine K1.a ?_ | refine K1.b ?_ | refine K1.c ?_ | refine K1.d ?_ | refine K1.e ?_ | refine K1.f ?_ | refine Spl.mk (fun _ => ?_) (fun _ => ?_) | refine SNil.mk (fun _ => ?_) ?_ | refine K1.g ?_ | refine ASl.frz ?_ | refine Wr.b64 ?_ | refine Wr.bu64 ?_ | refine Wr.bu32 ?_ | refine Wr.bu8 ?_ | refine K1.u8 ?_ | refine K1.u64 ?_ | refine K1.u32 ?_ | refine K1.h ?_ | refine K1.i ?_ | refine K1.q ?_ | refine K1.j ?_ | refine K1.k ?_ | refine BSpl.dec (fun _ => ?_) (fun _ => ?_) | refine K1.l ?_ | refine K1.n ?_ | refine BSpl.mk (fun _ => ?_) (fun _ => ?_))
 all_goals (conv => whnf)
 exact ⟨[],rfl,rfl,⟨⟨_,rfl,OEq.refl _⟩,⟨_,rfl,OEq.refl _⟩,⟨_,rfl,OEq.refl _⟩,⟨_,rfl,OEq.refl _⟩,trivial⟩,rfl,rfl,AEq.refl _⟩
set_option maxHeartbeats 4000000 in
set_option maxRecDepth 100000 in
theorem hb_take_err (h : Hb) (hup : h.up = true) (x k r u : Int) (c : Clk) (ev : List Ev) {n : Nat} {F : Nat → List AV} (hft : ASpec Try.prog 15 [.sl 1 n true F] (.tup [frA k r u c ev, .v (.int .i64 x)]) []) (hx : x ≠ 0) :
  MSpec Try.prog 14 (hbH h ()) [.box 0 0, .sl 1 n true F] (noA x) (hbH h ()) := by
 obtain ⟨up,cf,p,d⟩ := h
 dsimp only at hup
 subst hup
 dsimp only [hbH,hbB,dkB,bRow,noA,frA] at hft ⊢
 refine mspec_of lay_ok 565162937434611 40 Try.func14 rfl rfl rfl ?_
 repeat' ((conv => whnf); first | refine K1.a ?_ | refine K1.b ?_ | refine K1.c ?_ | refine K1.d ?_ | refine K1.e ?_ | refine K1.f ?_ | refine ACall.plain _ _ (hft) (SubL.cons (.eq _) .nil) rfl ?_ | refine Spl.mk (fun _ => ?_) (fun _ => ?_) | refine SNil.mk (fun _ => ?_) ?_ | refine K1.g ?_ | refine ASl.frz ?_ | refine Wr.b64 ?_ | refine Wr.bu64 ?_ | refine Wr.bu32 ?_ | refine Wr.bu8 ?_ | refine K1.u8 ?_ | refine K1.u64 ?_ | refine K1.u32 ?_ | refine K1.h ?_ | refine K1.i ?_ | refine K1.q ?_ | refine K1.j ?_ | refine K1.k ?_ | refine BSpl.dec (fun _ => ?_) (fun _ => ?_) | refine K1.l ?_ | refine K1.n ?_ | refine BSpl.mk (fun _ => ?_) (fun _ => ?_))
 all_goals (conv => whnf)
 exact ⟨[],rfl,rfl,⟨⟨_,rfl,OEq.refl _⟩,⟨_,rfl,OEq.refl _⟩,⟨_,rfl,OEq.refl _⟩,⟨_,rfl,OEq.refl _⟩,trivial⟩,rfl,rfl,AEq.refl _⟩
set_option maxHeartbeats 4000000 in
set_option maxRecDepth 100000 in
theorem hb_take_r (h : Hb) (hup : h.up = true) (k r u : Int) (c : Clk) (ev : List Ev) {n : Nat} {F : Nat → List AV} (hft : ASpec Try.prog 15 [.sl 1 n true F] (.tup [frA k r u c ev, .v (.int .i64 0)]) []) (hr : h.c.n ≤ r) :
  MSpec Try.prog 14 (hbH h ()) [.box 0 0, .sl 1 n true F] (noA 23) (hbH h ()) := by
 obtain ⟨up,cf,p,d⟩ := h
 dsimp only at hup hr
 subst hup
 dsimp only [hbH,hbB,dkB,bRow,noA,frA] at hft ⊢
 refine mspec_of lay_ok 565162937434611 40 Try.func14 rfl rfl rfl ?_
 repeat' ((conv => whnf); first | refine K1.a ?_ | refine K1.b ?_ | refine K1.c ?_ | refine K1.d ?_ | refine K1.e ?_ | refine K1.f ?_ | refine ACall.plain _ _ (hft) (SubL.cons (.eq _) .nil) rfl ?_ | refine Spl.mk (fun _ => ?_) (fun _ => ?_) | refine SNil.mk (fun _ => ?_) ?_ | refine K1.g ?_ | refine ASl.frz ?_ | refine Wr.b64 ?_ | refine Wr.bu64 ?_ | refine Wr.bu32 ?_ | refine Wr.bu8 ?_ | refine K1.u8 ?_ | refine K1.u64 ?_ | refine K1.u32 ?_ | refine K1.h ?_ | refine K1.i ?_ | refine K1.q ?_ | refine K1.j ?_ | refine K1.k ?_ | refine BSpl.dec (fun _ => ?_) (fun _ => ?_) | refine K1.l ?_ | refine K1.n ?_ | refine BSpl.mk (fun _ => ?_) (fun _ => ?_))
 all_goals (conv => whnf)
 exact ⟨[],rfl,rfl,⟨⟨_,rfl,OEq.refl _⟩,⟨_,rfl,OEq.refl _⟩,⟨_,rfl,OEq.refl _⟩,⟨_,rfl,OEq.refl _⟩,trivial⟩,rfl,rfl,AEq.refl _⟩
set_option maxHeartbeats 4000000 in
set_option maxRecDepth 100000 in
theorem hb_take_kind (h : Hb) (hup : h.up = true) (k r u : Int) (c : Clk) (ev : List Ev) {n : Nat} {F : Nat → List AV} (hft : ASpec Try.prog 15 [.sl 1 n true F] (.tup [frA k r u c ev, .v (.int .i64 0)]) []) (hr : r < h.c.n) (h1 : k ≠ 1) (h3 : k ≠ 3) (h5 : k ≠ 5) :
  MSpec Try.prog 14 (hbH h ()) [.box 0 0, .sl 1 n true F] (noA 23) (hbH h ()) := by
 obtain ⟨up,cf,p,d⟩ := h
 dsimp only at hup hr
 subst hup
 dsimp only [hbH,hbB,dkB,bRow,noA,frA] at hft ⊢
 refine mspec_of lay_ok 565162937434611 40 Try.func14 rfl rfl rfl ?_
 repeat' ((conv => whnf); first | refine K1.a ?_ | refine K1.b ?_ | refine K1.c ?_ | refine K1.d ?_ | refine K1.e ?_ | refine K1.f ?_ | refine ACall.plain _ _ (hft) (SubL.cons (.eq _) .nil) rfl ?_ | refine Spl.mk (fun _ => ?_) (fun _ => ?_) | refine SNil.mk (fun _ => ?_) ?_ | refine K1.g ?_ | refine ASl.frz ?_ | refine Wr.b64 ?_ | refine Wr.bu64 ?_ | refine Wr.bu32 ?_ | refine Wr.bu8 ?_ | refine K1.u8 ?_ | refine K1.u64 ?_ | refine K1.u32 ?_ | refine K1.h ?_ | refine K1.i ?_ | refine K1.q ?_ | refine K1.j ?_ | refine K1.k ?_ | refine BSpl.dec (fun _ => ?_) (fun _ => ?_) | refine K1.l ?_ | refine K1.n ?_ | refine BSpl.mk (fun _ => ?_) (fun _ => ?_))
 all_goals (conv => whnf)
 exact ⟨[],rfl,rfl,⟨⟨_,rfl,OEq.refl _⟩,⟨_,rfl,OEq.refl _⟩,⟨_,rfl,OEq.refl _⟩,⟨_,rfl,OEq.refl _⟩,trivial⟩,rfl,rfl,AEq.refl _⟩
end Go.Proofs.Ytmldeejaghflnaa

/-
 The hub: Take,whatever comes.
-/
namespace Go.Proofs.Ytmldeejaghflnaa
open Go.RowKit
def Res : Type := Int ⊕ (Nat × List UInt8)
def pushH (h : Hb) (z : Rc) : Hb × Res :=
 if (pushP h.c.w z.r.toNat z.ev h.p).2.2 ≠ 0 then (h, .inl (pushP h.c.w z.r.toNat z.ev h.p).2.2)
 else if (pushP h.c.w z.r.toNat z.ev h.p).2.1 = h.p.lenOf z.r.toNat then (h.withP (pushP h.c.w z.r.toNat z.ev h.p).1, .inr (z.r.toNat,frBytes ⟨2,z.r,(pushP h.c.w z.r.toNat z.ev h.p).2.1,clk0,[]⟩))
 else if (writeH (h.withP (pushP h.c.w z.r.toNat z.ev h.p).1) ⟨5,z.r,0,clk0,z.ev⟩).2 = 0 then ((writeH (h.withP (pushP h.c.w z.r.toNat z.ev h.p).1) ⟨5,z.r,0,clk0,z.ev⟩).1, .inr (z.r.toNat,frBytes ⟨2,z.r,(pushP h.c.w z.r.toNat z.ev h.p).2.1,clk0,[]⟩))
 else ((writeH (h.withP (pushP h.c.w z.r.toNat z.ev h.p).1) ⟨5,z.r,0,clk0,z.ev⟩).1, .inl (writeH (h.withP (pushP h.c.w z.r.toNat z.ev h.p).1) ⟨5,z.r,0,clk0,z.ev⟩).2)
def ackH (h : Hb) (z : Rc) : Hb × Res :=
 if (ackP h.p z.r.toNat z.c).told.getD z.r.toNat clk0 = h.p.told.getD z.r.toNat clk0 then (h.withP (ackP h.p z.r.toNat z.c), .inl 0)
 else ((writeH (h.withP (ackP h.p z.r.toNat z.c)) ⟨6,z.r,0,z.c,[]⟩).1, .inl (writeH (h.withP (ackP h.p z.r.toNat z.c)) ⟨6,z.r,0,z.c,[]⟩).2)
def takeZ (h : Hb) (z : Rc) : Hb × Res :=
 if h.c.n ≤ z.r then (h, .inl 23)
 else if z.k = 1 then pushH h z
 else if z.k = 3 then (h, .inr (z.r.toNat,frBytes ⟨4,z.r,0,clk0,fetchG z.r.toNat z.c 0 h.p.sh⟩))
 else if z.k = 5 then ackH h z
 else (h, .inl 23)
def takeHb (h : Hb) (b : List UInt8) : Hb × Res :=
 if h.up = false then (h, .inl 18)
 else if (takeF b).2 ≠ 0 then (h, .inl (takeF b).2)
 else takeZ h (takeF b).1
structure HbG (h : Hb) : Prop where
 p : PtG h.c.w h.p
 n : h.c.n = (h.p.sh.length : Int)
 w : h.c.w ≤ 4
 bs : h.d.bs.length ≤ 500000000
def resA : Res → AV
  | .inl x => noA x
  | .inr (r,_) => yesA r
def resH : Res → List (Nat × AO)
  | .inl _ => []
  | .inr (_,w) => [(1,bRow w)]
theorem okN_mk {n : Int} (h0 : 0 ≤ n) (h1 : n ≤ 1048576) : okN n = true := withinB_of ⟨h0,h1⟩
theorem mayF_2 {r m : Int} (h0 : 0 ≤ r) (h5 : r < 5) (m0 : 0 ≤ m) (m1 : m ≤ 1048576) : mayF ⟨2,r,m,clk0,[]⟩ = true := by
 simp [mayF,shK,shU,shC,shE,okC,okN_mk m0 m1,h0,h5,clkZ,clk0,okN_mk (show (0 : Int) ≤ 0 by omega) (by omega)]
theorem mayF_4 {r : Int} {l : List Ev} (h0 : 0 ≤ r) (h5 : r < 5) (hl : l.length ≤ 20) (hm : ∀ e ∈ l,mayE e = 0) : mayF ⟨4,r,0,clk0,l⟩ = true := by
 have : l.all (evOk 4 r) = true := List.all_eq_true.2 fun e he => evOk_yes1 (hm e he) (by decide)
 simp [mayF,shK,shU,shC,shE,okC,h0,h5,hl,clkZ,clk0,okN_mk (show (0 : Int) ≤ 0 by omega) (by omega)]
 simpa using this
theorem mayR_5 {r : Int} {l : List Ev} (h0 : 0 ≤ r) (h5 : r < 5) (hl : l.length ≤ 4096) (hm : ∀ e ∈ l,mayE e = 0) : mayR ⟨5,r,0,clk0,l⟩ = true := by
 simp [mayR,rcK,rcU,rcC,rcE,okC,h0,h5,hl,clkZ,clk0,okN_mk (show (0 : Int) ≤ 0 by omega) (by omega)]
 simpa using hm
theorem mayR_6 {r : Int} {c : Clk} (h0 : 0 ≤ r) (h5 : r < 5) (hc : okC c = true) : mayR ⟨6,r,0,c,[]⟩ = true := by
 simp [mayR,rcK,rcU,rcC,rcE,h0,h5,hc,okN_mk (show (0 : Int) ≤ 0 by omega) (by omega)]
theorem replyT_of {x : Rc} (hx : mayF x = true) : replyT x (frBytes x) := fun d => reply_yes d x hx
theorem lenOf_get {p : Pt} {r : Nat} (h : r < p.sh.length) : p.lenOf r = (p.sh.getD r default).len := by
 unfold Pt.lenOf
 rw [List.getD_eq_getElem?_getD,List.getElem?_map,List.getElem?_eq_getElem h,List.getD_eq_getElem?_getD,List.getElem?_eq_getElem h]
 rfl
theorem res_obs {h h' : Hb} {avs : List AV} {r : Res} (hE : Enters Try.prog 14) (ha : (avs.all (refQ1 (fun _ => false) 0)) = true)
  (hm : MSpec Try.prog 14 (hbH h ()) avs (resA r) (hbH h' () ++ resH r) ∨ MSpec Try.prog 14 (hbH h ()) avs (resA r) (hbHi 11 h' ++ resH r)) :
  MSpec Try.prog 14 [(0, .obs (hbO h))] avs (resA r) ((0, .obs (hbO h')) :: resH r) := by
 cases r with
 | inl x =>
   rcases hm with hm | hm
   · exact hb_opn hE hm (by rw [ha]; rfl)
   · exact hb_opn11 hE hm (by rw [ha]; rfl)
 | inr q =>
   obtain ⟨r,w⟩ := q
   rcases hm with hm | hm
   · exact hb_opn hE hm (by rw [ha]; rfl)
   · exact hb_opn11 hE hm (by rw [ha]; rfl)
theorem hb_take_m (h h' : Hb) (b : List UInt8) (res : Res) (hg : HbG h) (ht : takeHb h b = (h',res)) {n : Nat} {F : Nat → List AV} (hF : IsB F b) (hn : n = b.length) :
  MSpec Try.prog 14 [(0, .obs (hbO h))] [.box 0 0, .sl 1 n true F] (resA res) ((0, .obs (hbO h')) :: resH res) := by
 refine res_obs ⟨_,_,Try.func14,rfl,rfl⟩ rfl ?_
 have hpb := hg.p.b
 unfold takeHb at ht
 by_cases hup : h.up = false
 · rw [if_pos hup] at ht
   cases ht
   exact .inl (by rw [show resH (.inl 18) = [] from rfl,List.append_nil]; exact hb_take_down h hup)
 · rw [if_neg hup] at ht
   have hup : h.up = true := by simpa using hup
   obtain ⟨⟨z,x⟩,htk⟩ : ∃ q,takeF b = q := ⟨_,rfl⟩
   have hft := frTake_any b htk hF hn
   rw [htk] at ht
   dsimp only at ht
   by_cases hx : x ≠ 0
   · rw [if_pos hx] at ht
     cases ht
     exact .inl (by rw [show resH (.inl x) = [] from rfl,List.append_nil]; exact hb_take_err h hup x z.k z.r z.u z.c z.ev hft hx)
   · rw [if_neg hx] at ht
     have hx : x = 0 := by simpa using hx
     subst hx
     have hlen : b.length ≤ 2048 := by
      rcases Nat.lt_or_ge 2048 b.length with h | h
      · unfold takeF at htk
        rw [if_pos (by omega)] at htk
        simp at htk
      · exact h
     have hmf : mayF z = true := by
      rcases takeF_ways b hlen with ⟨z',h1,h2,_⟩ | h1 | h1
      · rw [htk] at h1; cases h1; exact h2
      · rw [htk] at h1; cases h1
      · rw [htk] at h1; cases h1
     have hm := mayF_of hmf
     have hr0 := hm.r
     unfold takeZ at ht
     by_cases hrn : h.c.n ≤ z.r
     · rw [if_pos hrn] at ht
       cases ht
       exact .inl (by rw [show resH (.inl 23) = [] from rfl,List.append_nil]; exact hb_take_r h hup z.k z.r z.u z.c z.ev hft hrn)
     · rw [if_neg hrn] at ht
       obtain ⟨k,zr,u,c,ev⟩ := z
       dsimp only at ht hm hr0 hrn
       obtain ⟨r,rfl⟩ : ∃ r : Nat,zr = (r : Int) := ⟨zr.toNat,by omega⟩
       have hn' := hg.n
       have hr : r < h.p.sh.length := by omega
       have hr5 : r < 5 := by omega
       have hrn : (r : Int) < h.c.n := by omega
       simp only [Int.toNat_natCast] at ht
       by_cases hk1 : k = 1
       · subst hk1
         rw [if_pos rfl] at ht
         have hall : ∀ e ∈ ev,mayE e = 0 ∧ e.r = (r : Int) := fun e he => by
          have := List.all_eq_true.1 hm.ev e he
          simpa [evOk] using this
         have hev : EvB ev := ⟨by have := hm.l; dsimp only at this; omega,fun j => by
          rcases Nat.lt_or_ge j ev.length with hj | hj
          · have hz := mayE_zero (hall _ (getD_mem (d := default) hj)).1
            have z1 := hz.n1
            have z2 := hz.n2
            omega
          · rw [show ev.getD j default = default by simp [List.getD,List.getElem?_eq_none hj]]; decide⟩
         have hG := put_G (hg.p.s r hr) hall
         have hpu : ∀ {p' m y},pushP h.c.w r ev h.p = (p',m,y) → pushT h.c.w h.p p' r ev m y := fun e => pt_push_m h.c.w h.p _ r hpb hr ev hev (fun j hj => (hall _ (getD_mem hj)).2) hG.b _ _ e
         have hpG := pushP_G hg.p hr hall
         have hpl := pushP_len (w := h.c.w) (p := h.p) (r := r) (l := ev)
         unfold pushH at ht
         simp only [Int.toNat_natCast] at ht
         obtain ⟨⟨p',m,y⟩,hp⟩ : ∃ q,pushP h.c.w r ev h.p = q := ⟨_,rfl⟩
         have hpu := hpu hp
         rw [hp] at ht hpG hpl
         dsimp only at ht hpG hpl
         by_cases hy : y ≠ 0
         · rw [if_pos hy] at ht
           cases ht
           have : p' = h.p ∧ m = 0 := by
            unfold pushP at hp
            split at hp
            · cases hp; exact absurd rfl hy
            · cases hp; exact ⟨rfl,rfl⟩
           obtain ⟨rfl,rfl⟩ := this
           exact .inl (by rw [show resH (.inl y) = [] from rfl,List.append_nil]; exact hb_take_push_err h h hpb hup h.p hpb r u 0 y c ev [] hr5 hft hrn hpu hy)
         · rw [if_neg hy] at ht
           have hy : y = 0 := by simpa using hy
           subst hy
           have hml := hpl rfl
           have hs := hG.b
           have hm0 : 0 ≤ m ∧ m ≤ 1048576 := by
            have h1 : (putS h.c.w (h.p.sh.getD r default) ev).1.len = (putS h.c.w (h.p.sh.getD r default) ev).1.base + ((putS h.c.w (h.p.sh.getD r default) ev).1.kept.length : Int) := rfl
            have h2 := hs.b0
            have h3 := hs.ln
            omega
           have hre := replyT_of (mayF_2 (r := (r : Int)) (m := m) (by omega) (by omega) hm0.1 hm0.2)
           by_cases hmn : m = h.p.lenOf r
           · rw [if_pos hmn] at ht
             cases ht
             exact .inl (hb_take_push_same h h hpb hup p' hpG.b r u m 0 c ev _ hr5 hft hrn hpu hmn (hre.nil rfl))
           · rw [if_neg hmn] at ht
             obtain ⟨⟨h2,y⟩,hw⟩ : ∃ q,writeH (h.withP p') ⟨5,(r : Int),0,clk0,ev⟩ = q := ⟨_,rfl⟩
             rw [hw] at ht
             dsimp only at ht
             have hmr := mayR_5 (r := (r : Int)) (l := ev) (by omega) (by omega) (by have := hm.l; dsimp only at this; omega) fun e he => (hall e he).1
             have hwm : writeT (h.withP p') h2 ⟨5,(r : Int),0,clk0,ev⟩ y := hb_write_m (h.withP p') h2 _ y hmr (by have := hg.bs; show h.d.bs.length ≤ _; omega) hw
             by_cases hy : y = 0
             · subst hy
               rw [if_pos rfl] at ht
               cases ht
               exact .inr (hb_take_push_w h h' hpb hup p' hpG.b r u m 0 c ev _ hr5 hft hrn hpu hmn hwm (hre.nil rfl))
             · rw [if_neg hy] at ht
               cases ht
               exact .inr (by rw [show resH (.inl y) = [] from rfl,List.append_nil]; exact hb_take_push_cut h h' hpb hup p' hpG.b r u m y c ev [] hr5 hft hrn hpu hmn hwm hy)
       · rw [if_neg hk1] at ht
         by_cases hk3 : k = 3
         · subst hk3
           rw [if_pos rfl] at ht
           cases ht
           refine .inl ?_
           have hfm := fetchG_may (w := h.c.w) (r := r) (c := c) (l := h.p.sh) (i := 0) fun s hs => by
            obtain ⟨i,hi,rfl⟩ := List.getElem_of_mem hs
            have := hg.p.s i hi
            rw [List.getD,List.getElem?_eq_getElem hi] at this
            exact ⟨this.k,this.may⟩
           have hw4 := hg.w
           have h5 := hg.p.h5
           have hfl : (fetchG r c 0 h.p.sh).length ≤ 20 := by
            have h1 := hfm.1
            have h2 : h.c.w * (h.p.sh.length : Int) ≤ 4 * (h.p.sh.length : Int) := Int.mul_le_mul_of_nonneg_right hw4 (by omega)
            omega
           have hre := replyT_of (mayF_4 (r := (r : Int)) (by omega) (by omega) hfl hfm.2)
           by_cases h2 : 2 ≤ h.p.sh.length
           · exact hb_take_fetch h h hpb hup h.p hpb r u 0 0 c ev _ _ hr5 hft hrn (pt_fetch_m h.c.w h.p hpb r c hr h2) hre
           · have h1 : h.p.sh.length = 1 := by have := hg.p.h1; omega
             obtain rfl : r = 0 := by omega
             have hft1 : fetch1T h.c.w h.p 0 c := by
              obtain ⟨up,cf,⟨sh,told⟩,d⟩ := h
              dsimp only at h1 ⊢
              have ht1 := hg.p.t
              dsimp only at ht1
              rcases sh with _ | ⟨s0,_ | ⟨s1,sh⟩⟩
              · simp at h1
              · rcases told with _ | ⟨t0,_ | ⟨t1,told⟩⟩
                · simp at ht1
                · exact pt_fetch1_m _ s0 t0 c
                · simp at ht1
              · simp at h1
             have he : fetchG 0 c 0 h.p.sh = [] := by
              rcases hsh : h.p.sh with _ | ⟨s0,_ | ⟨s1,sh⟩⟩
              · rfl
              · simp [fetchG]
              · rw [hsh] at h1; simp at h1
             rw [he] at hre ⊢
             exact hb_take_fetch1 h h hpb hup h.p hpb 0 u 0 0 c ev _ hr5 hft hrn hft1 (hre.nil rfl)
         · rw [if_neg hk3] at ht
           by_cases hk5 : k = 5
           · subst hk5
             rw [if_pos rfl] at ht
             unfold ackH at ht
             simp only [Int.toNat_natCast] at ht
             have hack : ackT h.c.w h.p (ackP h.p r c) r c := pt_ack_m h.c.w h.p hpb r c hr
             have hpG := (ackP_G hg.p r c).b
             by_cases hsame : (ackP h.p r c).told.getD r clk0 = h.p.told.getD r clk0
             · rw [if_pos hsame] at ht
               cases ht
               exact .inl (by rw [show resH (.inl 0) = [] from rfl,List.append_nil]; exact hb_take_ack_same h h hpb hup _ hpG r u 0 0 c ev [] hr5 hft hrn (hb_ack_same h hpb _ hpG r u c ev hr5 hack hsame))
             · rw [if_neg hsame] at ht
               obtain ⟨⟨h2,y⟩,hw⟩ : ∃ q,writeH (h.withP (ackP h.p r c)) ⟨6,(r : Int),0,c,[]⟩ = q := ⟨_,rfl⟩
               rw [hw] at ht
               cases ht
               have hok : okC c = true := by
                have := hm.c
                simp only [okC,this.1,this.2.1,this.2.2.1,this.2.2.2.1,this.2.2.2.2,Bool.and_self]
               have hwm : writeT (h.withP (ackP h.p r c)) h2 ⟨6,(r : Int),0,c,[]⟩ y := hb_write_m (h.withP (ackP h.p r c)) h2 _ y (mayR_6 (by omega) (by omega) hok) (by have := hg.bs; show h.d.bs.length ≤ _; omega) hw
               exact .inr (by rw [show resH (.inl y) = [] from rfl,List.append_nil]; exact hb_take_ack_w h h2 hpb hup _ hpG r u 0 y c ev [] hr5 hft hrn (hb_ack_w h h2 hpb _ hpG r u c ev hr5 y hack hsame (hwm.nil rfl)))
           · rw [if_neg hk5] at ht
             cases ht
             exact .inl (by rw [show resH (.inl 23) = [] from rfl,List.append_nil]; exact hb_take_kind h hup k r u c ev hft hrn hk1 hk3 hk5)
end Go.Proofs.Ytmldeejaghflnaa
