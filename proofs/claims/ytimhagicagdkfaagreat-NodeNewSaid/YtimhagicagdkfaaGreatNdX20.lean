/-
  Contracts of the walk: LvQ, LvR, LvS.
-/
import Derived.Test.YtimhagicagdkfaaGreatNdX18
import Derived.Test.YtimhagicagdkfaaGreatNdX19
/-
 live.State's Apply,of a book told as a whole.
-/
namespace Go.Proofs.YtimhagicagdkfaaGreat
open Go.RowKit
theorem zn_ev (w : World) : (zeroValue 39).run Tryz.prog w = .ok (.slice none 0 0) w := by
 have h : (Tryz.prog.info? 39).bind (·.zero) = some (.slice none 0 0) := by kernel_rfl
 cases hi : Tryz.prog.info? 39 with
 | none => rw [hi] at h; cases h
 | some info =>
   rw [hi] at h
   have h : info.zero = _ := h
   simp [zeroValue,typeInfo,hi,h]
theorem may_kind {e : Ev} (h : mayE e = 0) : 1 ≤ e.k ∧ e.k ≤ 5 := by
 unfold mayE at h
 split at h
 · omega
 · split at h
   · omega
   · split at h
     · omega
     · unfold editE at h
       grind [Ev.ed]
def updK (K : ByteArray → List Ev) (e : Ev) : ByteArray → List Ev := fun q => if q = e.key then liveW (K e.key) e else K q
theorem OEq.st {d : Int} {m : AV} {x y : Int} (h : x = y) : OEq (.box 171 [.v (.int .u32 d), .v (.int .i32 0), .v (.int .u32 0),m, .v (.int .i64 x)]) (.box 171 [.v (.int .u32 d), .v (.int .i32 0), .v (.int .u32 0),m, .v (.int .i64 y)]) := by rw [h]; exact OEq.refl _
set_option maxHeartbeats 4000000 in
set_option maxRecDepth 100000 in
theorem apply_own (K : ByteArray → List Ev) (n : Int) (e : Ev) (hm : mayE e = 0) (hl : (K e.key).length ≤ 1000000000) (h0 : 0 ≤ n) (h1 : n ≤ 1000000000000) (kv : List (ByteArray × List Ev)) (r : Ev) (rs : List Ev)
  (hr : rs.length ≤ 1000000000) (hs : MSpec Tryz.prog 132 [(0,evR (K e.key))] [.own 0,e.av] (.own 1) [(1,evR (r :: rs))]) :
  MSpec Tryz.prog 96 [(0,stB 1 (.own 1) n),(1, .mp mapT [(e.key,some 2)] (hidE kv)),(2,evR (K e.key))] [.box 0 0,e.av] (.v (.int .i64 0)) [(0,stB 1 (.own 1) (n + ((r :: rs).length - (K e.key).length))),(1, .mp mapT [(e.key,some 3)] (hidE kv)),(3,evR (r :: rs))] := by
 have hmay := may_spec e
 rw [hm] at hmay
 generalize K e.key = l at *
 generalize hidE kv = rv at *
 obtain ⟨er,en,ec,eh,ek,ekey,el,ev⟩ := e
 dsimp only [Ev.av,Ev.cs,stB,evR,List.length_cons] at hmay hs ⊢
 refine K1.M 0x80000008ff Tryz.func96 10 ?_
 repeat' ((conv => whnf); first | refine K1.w ?_ | refine K1.u ?_ | refine K1.P1 (hmay) rfl ?_ | refine ACall.done 0 rfl rfl ?_ | refine ACall.add 0 4 rfl rfl (by omega) (by omega) ?_ | refine ZN.mk zn_ev ?_ | refine MpAt.mk 0 2 _ rfl rfl ?_ | refine ACall.hdr lay_ok (awp_snd lay_ok _) 6 2 ⟨_,_,Tryz.func132,rfl,rfl⟩ rfl rfl (fun A c => ACall.chgR 1 [(0,_)] hs rfl ⟨rfl,trivial⟩ rfl rfl ?_) | refine K1.o (id := 9) [(0,none),(1,none),(2,none),(3,none),(4,none),(5,none),(6,some [5,3,1,0])] [(1,[0]),(2,[1,0]),(3,[1,0]),(6,[5,3,1,0])] ?_ | refine K1.o (id := 10) [(0,none),(1,none),(2,none),(3,none),(4,none),(5,none),(6,none),(7,some [5,3,1,0])] [(1,[0]),(2,[1,0]),(3,[1,0]),(7,[5,3,1,0])] ?_ | refine K1.z ?_ | refine K1.y (fun _ => ?_) (fun _ => ?_) | fail)
 all_goals (conv => whnf)
 exact ⟨[(12,3)],rfl,rfl,⟨⟨_,rfl,OEq.st (by omega)⟩,⟨_,rfl,OEq.refl _⟩,⟨_,rfl,OEq.refl _⟩,trivial⟩,rfl,rfl,AEq.refl _⟩
set_option maxHeartbeats 4000000 in
set_option maxRecDepth 100000 in
theorem apply_same (l : List Ev) (n : Int) (e : Ev) (hm : mayE e = 0) (hl : l.length ≤ 1000000000) (h0 : 0 ≤ n) (h1 : n ≤ 1000000000000) (kv : List (ByteArray × List Ev)) (hn : 0 < l.length)
  (hs : MSpec Tryz.prog 132 [(0,evR l)] [.own 0,e.av] (.own 0) [(0,evR l)]) :
  MSpec Tryz.prog 96 [(0,stB 1 (.own 1) n),(1, .mp mapT [(e.key,some 2)] (hidE kv)),(2,evR l)] [.box 0 0,e.av] (.v (.int .i64 0)) [(0,stB 1 (.own 1) n),(1, .mp mapT [(e.key,some 2)] (hidE kv)),(2,evR l)] := by
 have hmay := may_spec e
 rw [hm] at hmay
 generalize hidE kv = rv at *
 obtain ⟨er,en,ec,eh,ek,ekey,el,ev⟩ := e
 dsimp only [Ev.av,Ev.cs,stB,evR] at hmay hs ⊢
 refine K1.M 0x80000008ff Tryz.func96 10 ?_
 repeat' ((conv => whnf); first | refine K1.w ?_ | refine K1.u ?_ | refine K1.P1 (hmay) rfl ?_ | refine ACall.done 0 rfl rfl ?_ | refine ACall.add 0 4 rfl rfl (by omega) (by omega) ?_ | refine ZN.mk zn_ev ?_ | refine MpAt.mk 0 2 _ rfl rfl ?_ | refine ACall.hdr lay_ok (awp_snd lay_ok _) 6 2 ⟨_,_,Tryz.func132,rfl,rfl⟩ rfl rfl (fun A c => ACall.chgR 1 [(0,_)] hs rfl ⟨rfl,trivial⟩ rfl rfl ?_) | refine K1.o (id := 9) [(0,none),(1,none),(2,none),(3,none),(4,none),(5,none),(6,some [5,3,1,0])] [(1,[0]),(2,[1,0]),(3,[1,0]),(6,[5,3,1,0])] ?_ | refine K1.o (id := 10) [(0,none),(1,none),(2,none),(3,none),(4,none),(5,none),(6,none),(7,some [5,3,1,0])] [(1,[0]),(2,[1,0]),(3,[1,0]),(7,[5,3,1,0])] ?_ | refine K1.z ?_ | refine K1.y (fun _ => ?_) (fun _ => ?_) | fail)
 all_goals (conv => whnf)
 exact ⟨[],rfl,rfl,⟨⟨_,rfl,OEq.st (by omega)⟩,⟨_,rfl,OEq.refl _⟩,⟨_,rfl,OEq.refl _⟩,trivial⟩,rfl,rfl,AEq.refl _⟩
set_option maxHeartbeats 4000000 in
set_option maxRecDepth 100000 in
theorem apply_same0 (l : List Ev) (n : Int) (e : Ev) (hm : mayE e = 0) (h0 : 0 ≤ n) (h1 : n ≤ 1000000000000) (kv : List (ByteArray × List Ev)) (hn : l = [])
  (hs : MSpec Tryz.prog 132 [(0,evR l)] [.own 0,e.av] (.own 0) [(0,evR l)]) :
  MSpec Tryz.prog 96 [(0,stB 1 (.own 1) n),(1, .mp mapT [(e.key,some 2)] (hidE kv)),(2,evR l)] [.box 0 0,e.av] (.v (.int .i64 0)) [(0,stB 1 (.own 1) n),(1, .mp mapT [(e.key,some 3)] (hidE kv)),(3,evR [])] := by
 have hmay := may_spec e
 rw [hm] at hmay
 subst hn
 generalize hidE kv = rv at *
 obtain ⟨er,en,ec,eh,ek,ekey,el,ev⟩ := e
 dsimp only [Ev.av,Ev.cs,stB,evR,List.length_nil] at hmay hs ⊢
 refine K1.M 0x80000008ff Tryz.func96 10 ?_
 repeat' ((conv => whnf); first | refine K1.w ?_ | refine K1.u ?_ | refine K1.P1 (hmay) rfl ?_ | refine ACall.done 0 rfl rfl ?_ | refine ACall.add 0 4 rfl rfl (by omega) (by omega) ?_ | refine ZN.mk zn_ev ?_ | refine MpAt.mk 0 2 _ rfl rfl ?_ | refine ACall.hdr lay_ok (awp_snd lay_ok _) 6 2 ⟨_,_,Tryz.func132,rfl,rfl⟩ rfl rfl (fun A c => ACall.chgR 1 [(0,_)] hs rfl ⟨rfl,trivial⟩ rfl rfl ?_) | refine K1.o (id := 9) [(0,none),(1,none),(2,none),(3,none),(4,none),(5,none),(6,some [5,3,1,0])] [(1,[0]),(2,[1,0]),(3,[1,0]),(6,[5,3,1,0])] ?_ | refine K1.o (id := 10) [(0,none),(1,none),(2,none),(3,none),(4,none),(5,none),(6,none),(7,some [5,3,1,0])] [(1,[0]),(2,[1,0]),(3,[1,0]),(7,[5,3,1,0])] ?_ | refine K1.z ?_ | refine K1.y (fun _ => ?_) (fun _ => ?_) | fail)
 all_goals (conv => whnf)
 first
   | exact ⟨[(12,3)],rfl,rfl,⟨⟨_,rfl,OEq.st (by omega)⟩,⟨_,rfl,OEq.refl _⟩,⟨_,rfl,OEq.row rfl (fun m hm => absurd hm (Nat.not_lt_zero m))⟩,trivial⟩,rfl,rfl,AEq.refl _⟩
   | exact ⟨[(13,3)],rfl,rfl,⟨⟨_,rfl,OEq.st (by omega)⟩,⟨_,rfl,OEq.refl _⟩,⟨_,rfl,OEq.row rfl (fun m hm => absurd hm (Nat.not_lt_zero m))⟩,trivial⟩,rfl,rfl,AEq.refl _⟩
   | exact ⟨[(14,3)],rfl,rfl,⟨⟨_,rfl,OEq.st (by omega)⟩,⟨_,rfl,OEq.refl _⟩,⟨_,rfl,OEq.row rfl (fun m hm => absurd hm (Nat.not_lt_zero m))⟩,trivial⟩,rfl,rfl,AEq.refl _⟩
   | exact ⟨[(15,3)],rfl,rfl,⟨⟨_,rfl,OEq.st (by omega)⟩,⟨_,rfl,OEq.refl _⟩,⟨_,rfl,OEq.row rfl (fun m hm => absurd hm (Nat.not_lt_zero m))⟩,trivial⟩,rfl,rfl,AEq.refl _⟩
set_option maxHeartbeats 4000000 in
set_option maxRecDepth 100000 in
theorem apply_nil (l : List Ev) (n : Int) (e : Ev) (hm : mayE e = 0) (hl : l.length ≤ 1000000000) (h0 : 0 ≤ n) (h1 : n ≤ 1000000000000) (kv : List (ByteArray × List Ev))
  (hs : MSpec Tryz.prog 132 [(0,evR l)] [.own 0,e.av] (.v (.slice none 0 0)) []) :
  MSpec Tryz.prog 96 [(0,stB 1 (.own 1) n),(1, .mp mapT [(e.key,some 2)] (hidE kv)),(2,evR l)] [.box 0 0,e.av] (.v (.int .i64 0)) [(0,stB 1 (.own 1) (n - l.length)),(1, .mp mapT [(e.key,some 3)] (hidE kv)),(3,evR [])] := by
 have hmay := may_spec e
 rw [hm] at hmay
 generalize hidE kv = rv at *
 obtain ⟨er,en,ec,eh,ek,ekey,el,ev⟩ := e
 dsimp only [Ev.av,Ev.cs,stB,evR,List.length_nil] at hmay hs ⊢
 refine K1.M 0x80000008ff Tryz.func96 10 ?_
 repeat' ((conv => whnf); first | refine K1.w ?_ | refine K1.u ?_ | refine K1.P1 (hmay) rfl ?_ | refine ACall.done 0 rfl rfl ?_ | refine ACall.add 0 4 rfl rfl (by omega) (by omega) ?_ | refine ZN.mk zn_ev ?_ | refine MpAt.mk 0 2 _ rfl rfl ?_ | refine ACall.hdr lay_ok (awp_snd lay_ok _) 6 2 ⟨_,_,Tryz.func132,rfl,rfl⟩ rfl rfl (fun A c => ACall.chgR 1 [(0,_)] hs rfl ⟨rfl,trivial⟩ rfl rfl ?_) | refine K1.o (id := 9) [(0,none),(1,none),(2,none),(3,none),(4,none),(5,none),(6,some [5,3,1,0])] [(1,[0]),(2,[1,0]),(3,[1,0]),(6,[5,3,1,0])] ?_ | refine K1.o (id := 10) [(0,none),(1,none),(2,none),(3,none),(4,none),(5,none),(6,none),(7,some [5,3,1,0])] [(1,[0]),(2,[1,0]),(3,[1,0]),(7,[5,3,1,0])] ?_ | refine K1.z ?_ | refine K1.y (fun _ => ?_) (fun _ => ?_) | fail)
 all_goals (conv => whnf)
 first
   | exact ⟨[(12,3)],rfl,rfl,⟨⟨_,rfl,OEq.st (by omega)⟩,⟨_,rfl,OEq.refl _⟩,⟨_,rfl,OEq.row rfl (fun m hm => absurd hm (Nat.not_lt_zero m))⟩,trivial⟩,rfl,rfl,AEq.refl _⟩
   | exact ⟨[(13,3)],rfl,rfl,⟨⟨_,rfl,OEq.st (by omega)⟩,⟨_,rfl,OEq.refl _⟩,⟨_,rfl,OEq.row rfl (fun m hm => absurd hm (Nat.not_lt_zero m))⟩,trivial⟩,rfl,rfl,AEq.refl _⟩
   | exact ⟨[(14,3)],rfl,rfl,⟨⟨_,rfl,OEq.st (by omega)⟩,⟨_,rfl,OEq.refl _⟩,⟨_,rfl,OEq.row rfl (fun m hm => absurd hm (Nat.not_lt_zero m))⟩,trivial⟩,rfl,rfl,AEq.refl _⟩
   | exact ⟨[(15,3)],rfl,rfl,⟨⟨_,rfl,OEq.st (by omega)⟩,⟨_,rfl,OEq.refl _⟩,⟨_,rfl,OEq.row rfl (fun m hm => absurd hm (Nat.not_lt_zero m))⟩,trivial⟩,rfl,rfl,AEq.refl _⟩
end Go.Proofs.YtimhagicagdkfaaGreat

/-
 live.State's Apply,of a book to which nothing was applied yet.
-/
namespace Go.Proofs.YtimhagicagdkfaaGreat
open Go.RowKit
set_option maxRecDepth 100000 in
theorem closure_m (n : Int) : MSpec Tryz.prog 131 [(0, .box 171 [.v (.int .u32 0), .v (.int .i32 1), .v (.int .u32 0), .v (.map none), .v (.int .i64 n)]),(1, .box 78 [.box 0 0])] [.box 1 0] (.tup [])
  [(0, .box 171 [.v (.int .u32 0), .v (.int .i32 1), .v (.int .u32 0), .own 2, .v (.int .i64 n)]),(1, .box 78 [.box 0 0]),(2, .mp mapT [] [])] := by
 refine K1.M 0x1 Tryz.func131 10 ?_
 repeat' ((conv => whnf); first | refine K1.w ?_ | refine K1.u ?_ | refine AMkK.mk [] List.nodup_nil ?_ | refine K1.z ?_ | refine K1.y (fun _ => ?_) (fun _ => ?_) | fail)
 all_goals (conv => whnf)
 first
   | exact ⟨[(10,2)],rfl,rfl,⟨⟨_,rfl,OEq.refl _⟩,⟨_,rfl,OEq.refl _⟩,⟨_,rfl,OEq.refl _⟩,trivial⟩,rfl,rfl,AEq.refl _⟩
   | exact ⟨[(11,2)],rfl,rfl,⟨⟨_,rfl,OEq.refl _⟩,⟨_,rfl,OEq.refl _⟩,⟨_,rfl,OEq.refl _⟩,trivial⟩,rfl,rfl,AEq.refl _⟩
theorem do_m (n : Int) : MSpec Tryz.prog 130 [(0,stB 0 (.v (.map none)) n),(1, .box 78 [.box 0 0])] [.box 0 0, .fn 131 [.box 1 0]] (.tup []) [(0,stB 1 (.own 2) n),(1, .box 78 [.box 0 0]),(2, .mp mapT [] [])] :=
 first_m _ _ [.v (.int .u32 0), .v (.map none), .v (.int .i64 n)] [.v (.int .u32 0), .own 2, .v (.int .i64 n)] [.box 0 0] _ (closure_m n) rfl
set_option maxHeartbeats 4000000 in
set_option maxRecDepth 100000 in
theorem new_own (n : Int) (e : Ev) (hm : mayE e = 0) (h0 : 0 ≤ n) (h1 : n ≤ 1000000000000) (r : Ev) (rs : List Ev) (hr : rs.length ≤ 1000000000)
  (hs : MSpec Tryz.prog 132 [(0,evR [])] [.own 0,e.av] (.own 1) [(1,evR (r :: rs))]) :
  MSpec Tryz.prog 96 [(0,stB 0 (.v (.map none)) n)] [.box 0 0,e.av] (.v (.int .i64 0)) [(0,stB 1 (.own 1) (n + (r :: rs).length)),(1, .mp mapT [(e.key,some 3)] (hidE [])),(3,evR (r :: rs))] := by
 have hmay := may_spec e
 rw [hm] at hmay
 have hdo := do_m n
 obtain ⟨er,en,ec,eh,ek,ekey,el,ev⟩ := e
 dsimp only [Ev.av,Ev.cs,stB,evR,List.length_cons,List.length_nil,hidE,List.map_nil] at hmay hs hdo ⊢
 refine K1.M 0x80000008ff Tryz.func96 10 ?_
 repeat' ((conv => whnf); first | refine K1.w ?_ | refine K1.u ?_ | refine K1.P1 (hmay) rfl ?_ | refine ACall.thn lay_ok (awp_snd lay_ok _) ⟨_,_,Tryz.func130,rfl,rfl⟩ (ACall.chgR 2 [(0,_),(1,_)] hdo rfl ⟨rfl,rfl,trivial⟩ rfl rfl ⟨_,ImpV.foc (e := 42) (s := 12) (f := evF []) (k := ekey) 12 13 (by decide) rfl (by simp),?_⟩) | refine ACall.add 0 4 rfl rfl (by omega) (by omega) ?_ | refine ZN.mk zn_ev ?_ | refine MpAt.mk 0 13 _ rfl rfl ?_ | refine ACall.hdr lay_ok (awp_snd lay_ok _) 6 13 ⟨_,_,Tryz.func132,rfl,rfl⟩ rfl rfl (fun A c => ACall.chgR 1 [(0,_)] hs rfl ⟨rfl,trivial⟩ rfl rfl ?_) | refine K1.o (id := 9) [(0,none),(1,none),(2,none),(3,none),(4,none),(5,none),(6,some [5,3,1,0])] [(1,[0]),(2,[1,0]),(3,[1,0]),(6,[5,3,1,0])] ?_ | refine K1.o (id := 10) [(0,none),(1,none),(2,none),(3,none),(4,none),(5,none),(6,none),(7,some [5,3,1,0])] [(1,[0]),(2,[1,0]),(3,[1,0]),(7,[5,3,1,0])] ?_ | refine K1.z ?_ | refine K1.y (fun _ => ?_) (fun _ => ?_) | fail)
 all_goals (conv => whnf)
 first
   | exact ⟨[(12,1),(14,3)],rfl,rfl,⟨⟨_,rfl,OEq.st (by omega)⟩,⟨_,rfl,OEq.refl _⟩,⟨_,rfl,OEq.row rfl (fun m hm => rfl)⟩,trivial⟩,rfl,rfl,AEq.refl _⟩
   | exact ⟨[(12,1),(15,3)],rfl,rfl,⟨⟨_,rfl,OEq.st (by omega)⟩,⟨_,rfl,OEq.refl _⟩,⟨_,rfl,OEq.row rfl (fun m hm => rfl)⟩,trivial⟩,rfl,rfl,AEq.refl _⟩
   | exact ⟨[(12,1),(16,3)],rfl,rfl,⟨⟨_,rfl,OEq.st (by omega)⟩,⟨_,rfl,OEq.refl _⟩,⟨_,rfl,OEq.row rfl (fun m hm => rfl)⟩,trivial⟩,rfl,rfl,AEq.refl _⟩
set_option maxHeartbeats 4000000 in
set_option maxRecDepth 100000 in
theorem new_same (n : Int) (e : Ev) (hm : mayE e = 0) (h0 : 0 ≤ n) (h1 : n ≤ 1000000000000) 
  (hs : MSpec Tryz.prog 132 [(0,evR [])] [.own 0,e.av] (.own 0) [(0,evR [])]) :
  MSpec Tryz.prog 96 [(0,stB 0 (.v (.map none)) n)] [.box 0 0,e.av] (.v (.int .i64 0)) [(0,stB 1 (.own 1) n),(1, .mp mapT [(e.key,some 3)] (hidE [])),(3,evR [])] := by
 have hmay := may_spec e
 rw [hm] at hmay
 have hdo := do_m n
 obtain ⟨er,en,ec,eh,ek,ekey,el,ev⟩ := e
 dsimp only [Ev.av,Ev.cs,stB,evR,List.length_cons,List.length_nil,hidE,List.map_nil] at hmay hs hdo ⊢
 refine K1.M 0x80000008ff Tryz.func96 10 ?_
 repeat' ((conv => whnf); first | refine K1.w ?_ | refine K1.u ?_ | refine K1.P1 (hmay) rfl ?_ | refine ACall.thn lay_ok (awp_snd lay_ok _) ⟨_,_,Tryz.func130,rfl,rfl⟩ (ACall.chgR 2 [(0,_),(1,_)] hdo rfl ⟨rfl,rfl,trivial⟩ rfl rfl ⟨_,ImpV.foc (e := 42) (s := 12) (f := evF []) (k := ekey) 12 13 (by decide) rfl (by simp),?_⟩) | refine ACall.add 0 4 rfl rfl (by omega) (by omega) ?_ | refine ZN.mk zn_ev ?_ | refine MpAt.mk 0 13 _ rfl rfl ?_ | refine ACall.hdr lay_ok (awp_snd lay_ok _) 6 13 ⟨_,_,Tryz.func132,rfl,rfl⟩ rfl rfl (fun A c => ACall.chgR 1 [(0,_)] hs rfl ⟨rfl,trivial⟩ rfl rfl ?_) | refine K1.o (id := 9) [(0,none),(1,none),(2,none),(3,none),(4,none),(5,none),(6,some [5,3,1,0])] [(1,[0]),(2,[1,0]),(3,[1,0]),(6,[5,3,1,0])] ?_ | refine K1.o (id := 10) [(0,none),(1,none),(2,none),(3,none),(4,none),(5,none),(6,none),(7,some [5,3,1,0])] [(1,[0]),(2,[1,0]),(3,[1,0]),(7,[5,3,1,0])] ?_ | refine K1.z ?_ | refine K1.y (fun _ => ?_) (fun _ => ?_) | fail)
 all_goals (conv => whnf)
 first
   | exact ⟨[(12,1),(14,3)],rfl,rfl,⟨⟨_,rfl,OEq.st (by omega)⟩,⟨_,rfl,OEq.refl _⟩,⟨_,rfl,OEq.row rfl (fun m hm => absurd hm (Nat.not_lt_zero m))⟩,trivial⟩,rfl,rfl,AEq.refl _⟩
   | exact ⟨[(12,1),(15,3)],rfl,rfl,⟨⟨_,rfl,OEq.st (by omega)⟩,⟨_,rfl,OEq.refl _⟩,⟨_,rfl,OEq.row rfl (fun m hm => absurd hm (Nat.not_lt_zero m))⟩,trivial⟩,rfl,rfl,AEq.refl _⟩
   | exact ⟨[(12,1),(16,3)],rfl,rfl,⟨⟨_,rfl,OEq.st (by omega)⟩,⟨_,rfl,OEq.refl _⟩,⟨_,rfl,OEq.row rfl (fun m hm => absurd hm (Nat.not_lt_zero m))⟩,trivial⟩,rfl,rfl,AEq.refl _⟩
set_option maxHeartbeats 4000000 in
set_option maxRecDepth 100000 in
theorem new_nil (n : Int) (e : Ev) (hm : mayE e = 0) (h0 : 0 ≤ n) (h1 : n ≤ 1000000000000) 
  (hs : MSpec Tryz.prog 132 [(0,evR [])] [.own 0,e.av] (.v (.slice none 0 0)) []) :
  MSpec Tryz.prog 96 [(0,stB 0 (.v (.map none)) n)] [.box 0 0,e.av] (.v (.int .i64 0)) [(0,stB 1 (.own 1) n),(1, .mp mapT [(e.key,some 3)] (hidE [])),(3,evR [])] := by
 have hmay := may_spec e
 rw [hm] at hmay
 have hdo := do_m n
 obtain ⟨er,en,ec,eh,ek,ekey,el,ev⟩ := e
 dsimp only [Ev.av,Ev.cs,stB,evR,List.length_cons,List.length_nil,hidE,List.map_nil] at hmay hs hdo ⊢
 refine K1.M 0x80000008ff Tryz.func96 10 ?_
 repeat' ((conv => whnf); first | refine K1.w ?_ | refine K1.u ?_ | refine K1.P1 (hmay) rfl ?_ | refine ACall.thn lay_ok (awp_snd lay_ok _) ⟨_,_,Tryz.func130,rfl,rfl⟩ (ACall.chgR 2 [(0,_),(1,_)] hdo rfl ⟨rfl,rfl,trivial⟩ rfl rfl ⟨_,ImpV.foc (e := 42) (s := 12) (f := evF []) (k := ekey) 12 13 (by decide) rfl (by simp),?_⟩) | refine ACall.add 0 4 rfl rfl (by omega) (by omega) ?_ | refine ZN.mk zn_ev ?_ | refine MpAt.mk 0 13 _ rfl rfl ?_ | refine ACall.hdr lay_ok (awp_snd lay_ok _) 6 13 ⟨_,_,Tryz.func132,rfl,rfl⟩ rfl rfl (fun A c => ACall.chgR 1 [(0,_)] hs rfl ⟨rfl,trivial⟩ rfl rfl ?_) | refine K1.o (id := 9) [(0,none),(1,none),(2,none),(3,none),(4,none),(5,none),(6,some [5,3,1,0])] [(1,[0]),(2,[1,0]),(3,[1,0]),(6,[5,3,1,0])] ?_ | refine K1.o (id := 10) [(0,none),(1,none),(2,none),(3,none),(4,none),(5,none),(6,none),(7,some [5,3,1,0])] [(1,[0]),(2,[1,0]),(3,[1,0]),(7,[5,3,1,0])] ?_ | refine K1.z ?_ | refine K1.y (fun _ => ?_) (fun _ => ?_) | fail)
 all_goals (conv => whnf)
 first
   | exact ⟨[(12,1),(14,3)],rfl,rfl,⟨⟨_,rfl,OEq.st (by omega)⟩,⟨_,rfl,OEq.refl _⟩,⟨_,rfl,OEq.row rfl (fun m hm => absurd hm (Nat.not_lt_zero m))⟩,trivial⟩,rfl,rfl,AEq.refl _⟩
   | exact ⟨[(12,1),(15,3)],rfl,rfl,⟨⟨_,rfl,OEq.st (by omega)⟩,⟨_,rfl,OEq.refl _⟩,⟨_,rfl,OEq.row rfl (fun m hm => absurd hm (Nat.not_lt_zero m))⟩,trivial⟩,rfl,rfl,AEq.refl _⟩
   | exact ⟨[(12,1),(16,3)],rfl,rfl,⟨⟨_,rfl,OEq.st (by omega)⟩,⟨_,rfl,OEq.refl _⟩,⟨_,rfl,OEq.row rfl (fun m hm => absurd hm (Nat.not_lt_zero m))⟩,trivial⟩,rfl,rfl,AEq.refl _⟩
end Go.Proofs.YtimhagicagdkfaaGreat

/-
 live.State's methods,of a book told as a whole: New,Apply,Size.
-/
namespace Go.Proofs.YtimhagicagdkfaaGreat
open Go.RowKit
theorem liveW_len (l : List Ev) (e : Ev) : (liveW l e).length ≤ l.length + 1 := by
 have d : ∀ k s,(dropB k s e l).length ≤ l.length := fun k s => List.length_filter_le _ _
 unfold liveW
 split
 · simp
 · split
   · exact Nat.le_trans (List.length_filter_le _ _) (Nat.le_trans (d _ _) (by omega))
   · split
     · split
       · have := d 3 (sameL2 e); simp; exact this
       · omega
     · split
       · have := d 4 (sameV2 e); omega
       · split
         · have := d 4 (sameV2 e); simp; exact this
         · omega
theorem may_size {e : Ev} (h : mayE e = 0) : e.key.size ≤ 9223372036854775807 := by
 unfold mayE at h
 split at h
 · omega
 · split at h
   · omega
   · split at h
     · omega
     · unfold editE at h
       split at h
       · omega
       · split at h
         · rename_i hk
           exact absurd h hk
         · rename_i hk
           have hk : keyE e.key = 0 := Decidable.not_not.1 hk
           unfold keyE at hk
           split at hk
           · rename_i hh; omega
           · omega
theorem updK_key (K : ByteArray → List Ev) (e : Ev) : updK K e e.key = liveW (K e.key) e := by simp [updK]
theorem updK_ne {K : ByteArray → List Ev} {e : Ev} {q : ByteArray} (h : q ≠ e.key) : updK K e q = K q := by simp [updK,h]
def sizeK (K : ByteArray → List Ev) (n : Int) (e : Ev) : Int := n + ((liveW (K e.key) e).length - (K e.key).length)
theorem apply_m (K : ByteArray → List Ev) (n : Int) (m0 : Nat) (e : Ev) (hm : mayE e = 0) (hl : (K e.key).length < 1000000000) (h0 : 0 ≤ n) (h1 : n ≤ 1000000000000) :
  MSpec Tryz.prog 96 [(0, .obs (liveO K n m0))] [.box 0 0,e.av] (.v (.int .i64 0)) [(0, .obs (liveO (updK K e) (sizeK K n e) (m0 + 1)))] := by
 have hks := may_size hm
 have hW := with_all (K e.key) e (may_kind hm) (by omega)
 have hlen := liveW_len (K e.key) e
 refine MSpec.opn (ho := []) ⟨_,_,Tryz.func96,rfl,rfl⟩ (liveO_opens K n m0 e.key) (fun y => ?_) rfl
 cases y with
 | new h =>
   have hz : K e.key = [] := h e.key
   unfold sizeK
   rw [hz] at hW hlen ⊢
   simp only [List.append_nil]
   have hcl : ∀ (l : List Ev) (m : Int),liveW [] e = l → Closes [(0,stB 1 (.own 1) m),(1, .mp mapT [(e.key,some 3)] (hidE [])),(3,evR l)] 0 (liveO (updK K e) m (m0 + 1)) := fun l m hl' =>
    liveO_closes (updK K e) m _ 3 (by omega) e.key l [] (by simp) (by simp) (fun q hq => by rw [updK_ne hq,h q]; rfl) (by rw [updK_key,hz,hl']) (by simp) (fun p hp => by cases hp) hks
   cases hW with
   | own r rs he hs =>
     refine ⟨_,hcl (r :: rs) _ he,rfl,rfl,?_⟩
     rw [he] at hlen ⊢
     have := new_own n e hm h0 h1 r rs (by simp at hlen; simp [hlen]) hs
     simp only [List.length_nil,Int.natCast_zero,Int.sub_zero] at this ⊢
     exact this
   | same he hs =>
     refine ⟨_,hcl [] _ he,rfl,rfl,?_⟩
     rw [he]
     have := new_same n e hm h0 h1 hs
     rw [show n + ((([] : List Ev).length : Int) - (([] : List Ev).length : Int)) = n by simp]
     exact this
   | nil he hs =>
     refine ⟨_,hcl [] _ he,rfl,rfl,?_⟩
     rw [he]
     have := new_nil n e hm h0 h1 hs
     rw [show n + ((([] : List Ev).length : Int) - (([] : List Ev).length : Int)) = n by simp]
     exact this
 | old kv hn hk he hmm hky =>
   simp only [List.append_nil]
   have hcl : ∀ (l : List Ev) (m : Int) (j : Nat),2 ≤ j → liveW (K e.key) e = l → Closes [(0,stB 1 (.own 1) m),(1, .mp mapT [(e.key,some j)] (hidE kv)),(j,evR l)] 0 (liveO (updK K e) m (m0 + 1)) := fun l m j hj hl' =>
    liveO_closes (updK K e) m _ j hj e.key l kv hn hk (fun q hq => by rw [updK_ne hq,he q hq]) (by rw [updK_key,hl']) (by omega) hky hks
   unfold sizeK
   cases hW with
   | own r rs hq hs =>
     refine ⟨_,hcl (r :: rs) _ 3 (by omega) hq,rfl,rfl,?_⟩
     rw [hq] at hlen ⊢
     exact apply_own K n e hm (by omega) h0 h1 kv r rs (by simp at hlen; omega) hs
   | same hq hs =>
     rw [hq,show n + (((K e.key).length : Int) - ((K e.key).length : Int)) = n by omega]
     by_cases hp : 0 < (K e.key).length
     · exact ⟨_,hcl (K e.key) _ 2 (by omega) hq,rfl,rfl,apply_same (K e.key) n e hm (by omega) h0 h1 kv hp hs⟩
     · have hp : K e.key = [] := List.eq_nil_of_length_eq_zero (by omega)
       refine ⟨_,hcl [] _ 3 (by omega) (hq.trans hp),rfl,rfl,apply_same0 (K e.key) n e hm h0 h1 kv hp hs⟩
   | nil hq hs =>
     refine ⟨_,hcl [] _ 3 (by omega) hq,rfl,rfl,?_⟩
     have := apply_nil (K e.key) n e hm (by omega) h0 h1 kv hs
     rw [hq,show n + ((([] : List Ev).length : Int) - ((K e.key).length : Int)) = n - ((K e.key).length : Int) by simp; omega]
     exact this
theorem new_m : MSpec Tryz.prog 100 [] [] (.box 0 0) [(0, .obs (liveO (fun _ => []) 0 0))] := by
 refine MSpec.cls (hs' := [(0,stB 0 (.v (.map none)) 0)]) (ho := []) (liveO_new _ 0 0 fun _ => rfl) ?_ rfl
 dsimp only [stB,List.append_nil]
 refine K1.M 0x1 Tryz.func100 10 ?_
 repeat' ((conv => whnf); first | refine K1.w ?_ | refine K1.u ?_ | refine K1.z ?_ | refine K1.y (fun _ => ?_) (fun _ => ?_) | fail)
 all_goals (conv => whnf)
 exact ⟨[(10,0)],rfl,rfl,⟨⟨_,rfl,OEq.refl _⟩,trivial⟩,rfl,rfl,AEq.refl _⟩
theorem liveHs_closes (K : ByteArray → List Ev) (n : Int) (m : Nat) (y : LiveX K m) : Closes (liveHs K n m y) 0 (liveO K n m) := by
 cases y with
 | new h => exact liveO_new K n m h
 | old kv h => exact Closes.pack (liveHs K n m) (.old kv h) rfl fun X hok => box_one (hok _ List.mem_cons_self)
end Go.Proofs.YtimhagicagdkfaaGreat
