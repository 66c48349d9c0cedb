/-
  Contracts of the walk:LvQ,LvR,LvS.
-/
import Derived.Test.YtimhagicagdkfaaGreatNi20
import Derived.Test.YtimhagicagdkfaaGreatNi21
set_option maxHeartbeats 16000000
set_option maxRecDepth 100000
set_option linter.unusedVariables false
set_option linter.unusedSimpArgs false
namespace Go.Proofs.YtimhagicagdkfaaGreat
section
open Go.RowKit
theorem Dq (w:World):(zeroValue 39).run Tryz.prog w= .ok (.slice none 0 0) w:=by
 have h:(Tryz.prog.info? 39).bind (·.zero)=some (.slice none 0 0):=by kernel_rfl
 cases hi:Tryz.prog.info? 39 with
 |none=>rw[hi]at h;cases h
 | some info=>
   rw[hi]at h
   have h:info.zero=_:=h
   simp[zeroValue,typeInfo,hi,h]
theorem Zc {e:Ev} (h:fB e=0):1≤e.k∧e.k≤5:=by
 unfold fB at h
 split at h
 · omega
 · split at h
   · omega
   · split at h
     · omega
     · unfold jF at h
       grind [Ev.ed]
def Ik (K:ByteArray→List Ev) (e:Ev):ByteArray→List Ev:=fun q=>if q=e.key then kD (K e.key) e else K q
theorem cO.st {d:Int} {m:AV} {x y:Int} (h:x=y):cO (.box 171 [.v (.int .u32 d),.v (.int .i32 0),.v (.int .u32 0),m,.v (.int .i64 x)]) (.box 171 [.v (.int .u32 d),.v (.int .i32 0),.v (.int .u32 0),m,.v (.int .i64 y)]):=by rw[h];exact cO.refl _
theorem VK (K:ByteArray→List Ev) (n:Int) (e:Ev) (hm:fB e=0) (hl:(K e.key).length≤1000000000) (h0:0≤n) (h1:n≤1000000000000) (kv:List (ByteArray×List Ev)) (r:Ev) (rs:List Ev)
  (hr:rs.length≤1000000000) (hs:aW Tryz.prog 132 [(0,jI (K e.key))] [.own 0,e.av] (.own 1) [(1,jI (r::rs))]):
  aW Tryz.prog 96 [(0,stB 1 (.own 1) n),(1,.mp jh [(e.key,some 2)] (fE kv)),(2,jI (K e.key))] [.box 0 0,e.av] (.v (.int .i64 0)) [(0,stB 1 (.own 1) (n+((r::rs).length-(K e.key).length))),(1,.mp jh [(e.key,some 3)] (fE kv)),(3,jI (r::rs))]:=by
 have hmay:=lG e
 rw[hm]at hmay
 generalize K e.key=l at*
 generalize fE kv=rv at*
 obtain⟨er,en,ec,eh,ek,Ij,el,ev⟩:=e
 dsimp only[Ev.av,Ev.cs,stB,jI,List.length_cons]at hmay hs⊢
 refine K1.M 0x80000008ff Tryz.func96 10 ?_
 repeat' ((conv=>whnf);first|refine K1.w ?_|refine K1.u ?_|refine K1.P1 hmay rfl ?_|refine dJ.done 0 rfl rfl ?_|refine dJ.add 0 4 rfl rfl (by omega) (by omega) ?_|refine ZN.mk Dq ?_|refine Dz.mk 0 2 _ rfl rfl ?_|refine dJ.hdr dW (fM dW _) 6 2 ⟨_,_,Tryz.func132,rfl,rfl⟩ rfl rfl (fun A c=>dJ.Fb 1 [(0,_)] hs rfl ⟨rfl,trivial⟩ rfl rfl ?_)|refine K1.o (id:=9) [(0,none),(1,none),(2,none),(3,none),(4,none),(5,none),(6,some [5,3,1,0])] [(1,[0]),(2,[1,0]),(3,[1,0]),(6,[5,3,1,0])] ?_|refine K1.o (id:=10) [(0,none),(1,none),(2,none),(3,none),(4,none),(5,none),(6,none),(7,some [5,3,1,0])] [(1,[0]),(2,[1,0]),(3,[1,0]),(7,[5,3,1,0])] ?_|refine K1.z ?_|refine K1.y (fun _=>?_) (fun _=>?_)|fail)
 all_goals(conv=>whnf)
 exact⟨[(12,3)],rfl,rfl,⟨⟨_,rfl,cO.st (by omega)⟩,aH rfl,aH rfl,trivial⟩,rfl,rfl,aj⟩
theorem Q7 (l:List Ev) (n:Int) (e:Ev) (hm:fB e=0) (hl:l.length≤1000000000) (h0:0≤n) (h1:n≤1000000000000) (kv:List (ByteArray×List Ev)) (hn:0<l.length)
  (hs:aW Tryz.prog 132 [(0,jI l)] [.own 0,e.av] (.own 0) [(0,jI l)]):
  aW Tryz.prog 96 [(0,stB 1 (.own 1) n),(1,.mp jh [(e.key,some 2)] (fE kv)),(2,jI l)] [.box 0 0,e.av] (.v (.int .i64 0)) [(0,stB 1 (.own 1) n),(1,.mp jh [(e.key,some 2)] (fE kv)),(2,jI l)]:=by
 have hmay:=lG e
 rw[hm]at hmay
 generalize fE kv=rv at*
 obtain⟨er,en,ec,eh,ek,Ij,el,ev⟩:=e
 dsimp only[Ev.av,Ev.cs,stB,jI]at hmay hs⊢
 refine K1.M 0x80000008ff Tryz.func96 10 ?_
 repeat' ((conv=>whnf);first|refine K1.w ?_|refine K1.u ?_|refine K1.P1 hmay rfl ?_|refine dJ.done 0 rfl rfl ?_|refine dJ.add 0 4 rfl rfl (by omega) (by omega) ?_|refine ZN.mk Dq ?_|refine Dz.mk 0 2 _ rfl rfl ?_|refine dJ.hdr dW (fM dW _) 6 2 ⟨_,_,Tryz.func132,rfl,rfl⟩ rfl rfl (fun A c=>dJ.Fb 1 [(0,_)] hs rfl ⟨rfl,trivial⟩ rfl rfl ?_)|refine K1.o (id:=9) [(0,none),(1,none),(2,none),(3,none),(4,none),(5,none),(6,some [5,3,1,0])] [(1,[0]),(2,[1,0]),(3,[1,0]),(6,[5,3,1,0])] ?_|refine K1.o (id:=10) [(0,none),(1,none),(2,none),(3,none),(4,none),(5,none),(6,none),(7,some [5,3,1,0])] [(1,[0]),(2,[1,0]),(3,[1,0]),(7,[5,3,1,0])] ?_|refine K1.z ?_|refine K1.y (fun _=>?_) (fun _=>?_)|fail)
 all_goals(conv=>whnf)
 exact⟨[],rfl,rfl,⟨⟨_,rfl,cO.st (by omega)⟩,aH rfl,aH rfl,trivial⟩,rfl,rfl,aj⟩
theorem OW (l:List Ev) (n:Int) (e:Ev) (hm:fB e=0) (h0:0≤n) (h1:n≤1000000000000) (kv:List (ByteArray×List Ev)) (hn:l=[])
  (hs:aW Tryz.prog 132 [(0,jI l)] [.own 0,e.av] (.own 0) [(0,jI l)]):
  aW Tryz.prog 96 [(0,stB 1 (.own 1) n),(1,.mp jh [(e.key,some 2)] (fE kv)),(2,jI l)] [.box 0 0,e.av] (.v (.int .i64 0)) [(0,stB 1 (.own 1) n),(1,.mp jh [(e.key,some 3)] (fE kv)),(3,jI [])]:=by
 have hmay:=lG e
 rw[hm]at hmay
 subst hn
 generalize fE kv=rv at*
 obtain⟨er,en,ec,eh,ek,Ij,el,ev⟩:=e
 dsimp only[Ev.av,Ev.cs,stB,jI,List.length_nil]at hmay hs⊢
 refine K1.M 0x80000008ff Tryz.func96 10 ?_
 repeat' ((conv=>whnf);first|refine K1.w ?_|refine K1.u ?_|refine K1.P1 hmay rfl ?_|refine dJ.done 0 rfl rfl ?_|refine dJ.add 0 4 rfl rfl (by omega) (by omega) ?_|refine ZN.mk Dq ?_|refine Dz.mk 0 2 _ rfl rfl ?_|refine dJ.hdr dW (fM dW _) 6 2 ⟨_,_,Tryz.func132,rfl,rfl⟩ rfl rfl (fun A c=>dJ.Fb 1 [(0,_)] hs rfl ⟨rfl,trivial⟩ rfl rfl ?_)|refine K1.o (id:=9) [(0,none),(1,none),(2,none),(3,none),(4,none),(5,none),(6,some [5,3,1,0])] [(1,[0]),(2,[1,0]),(3,[1,0]),(6,[5,3,1,0])] ?_|refine K1.o (id:=10) [(0,none),(1,none),(2,none),(3,none),(4,none),(5,none),(6,none),(7,some [5,3,1,0])] [(1,[0]),(2,[1,0]),(3,[1,0]),(7,[5,3,1,0])] ?_|refine K1.z ?_|refine K1.y (fun _=>?_) (fun _=>?_)|fail)
 all_goals(conv=>whnf)
 first
   |exact⟨[(12,3)],rfl,rfl,⟨⟨_,rfl,cO.st (by omega)⟩,aH rfl,⟨_,rfl,cO.row rfl (fun m hm=>absurd hm (Nat.not_lt_zero m))⟩,trivial⟩,rfl,rfl,aj⟩
   |exact⟨[(13,3)],rfl,rfl,⟨⟨_,rfl,cO.st (by omega)⟩,aH rfl,⟨_,rfl,cO.row rfl (fun m hm=>absurd hm (Nat.not_lt_zero m))⟩,trivial⟩,rfl,rfl,aj⟩
   |exact⟨[(14,3)],rfl,rfl,⟨⟨_,rfl,cO.st (by omega)⟩,aH rfl,⟨_,rfl,cO.row rfl (fun m hm=>absurd hm (Nat.not_lt_zero m))⟩,trivial⟩,rfl,rfl,aj⟩
   |exact⟨[(15,3)],rfl,rfl,⟨⟨_,rfl,cO.st (by omega)⟩,aH rfl,⟨_,rfl,cO.row rfl (fun m hm=>absurd hm (Nat.not_lt_zero m))⟩,trivial⟩,rfl,rfl,aj⟩
theorem apply_nil (l:List Ev) (n:Int) (e:Ev) (hm:fB e=0) (hl:l.length≤1000000000) (h0:0≤n) (h1:n≤1000000000000) (kv:List (ByteArray×List Ev))
  (hs:aW Tryz.prog 132 [(0,jI l)] [.own 0,e.av] (.v (.slice none 0 0)) []):
  aW Tryz.prog 96 [(0,stB 1 (.own 1) n),(1,.mp jh [(e.key,some 2)] (fE kv)),(2,jI l)] [.box 0 0,e.av] (.v (.int .i64 0)) [(0,stB 1 (.own 1) (n-l.length)),(1,.mp jh [(e.key,some 3)] (fE kv)),(3,jI [])]:=by
 have hmay:=lG e
 rw[hm]at hmay
 generalize fE kv=rv at*
 obtain⟨er,en,ec,eh,ek,Ij,el,ev⟩:=e
 dsimp only[Ev.av,Ev.cs,stB,jI,List.length_nil]at hmay hs⊢
 refine K1.M 0x80000008ff Tryz.func96 10 ?_
 repeat' ((conv=>whnf);first|refine K1.w ?_|refine K1.u ?_|refine K1.P1 hmay rfl ?_|refine dJ.done 0 rfl rfl ?_|refine dJ.add 0 4 rfl rfl (by omega) (by omega) ?_|refine ZN.mk Dq ?_|refine Dz.mk 0 2 _ rfl rfl ?_|refine dJ.hdr dW (fM dW _) 6 2 ⟨_,_,Tryz.func132,rfl,rfl⟩ rfl rfl (fun A c=>dJ.Fb 1 [(0,_)] hs rfl ⟨rfl,trivial⟩ rfl rfl ?_)|refine K1.o (id:=9) [(0,none),(1,none),(2,none),(3,none),(4,none),(5,none),(6,some [5,3,1,0])] [(1,[0]),(2,[1,0]),(3,[1,0]),(6,[5,3,1,0])] ?_|refine K1.o (id:=10) [(0,none),(1,none),(2,none),(3,none),(4,none),(5,none),(6,none),(7,some [5,3,1,0])] [(1,[0]),(2,[1,0]),(3,[1,0]),(7,[5,3,1,0])] ?_|refine K1.z ?_|refine K1.y (fun _=>?_) (fun _=>?_)|fail)
 all_goals(conv=>whnf)
 first
   |exact⟨[(12,3)],rfl,rfl,⟨⟨_,rfl,cO.st (by omega)⟩,aH rfl,⟨_,rfl,cO.row rfl (fun m hm=>absurd hm (Nat.not_lt_zero m))⟩,trivial⟩,rfl,rfl,aj⟩
   |exact⟨[(13,3)],rfl,rfl,⟨⟨_,rfl,cO.st (by omega)⟩,aH rfl,⟨_,rfl,cO.row rfl (fun m hm=>absurd hm (Nat.not_lt_zero m))⟩,trivial⟩,rfl,rfl,aj⟩
   |exact⟨[(14,3)],rfl,rfl,⟨⟨_,rfl,cO.st (by omega)⟩,aH rfl,⟨_,rfl,cO.row rfl (fun m hm=>absurd hm (Nat.not_lt_zero m))⟩,trivial⟩,rfl,rfl,aj⟩
   |exact⟨[(15,3)],rfl,rfl,⟨⟨_,rfl,cO.st (by omega)⟩,aH rfl,⟨_,rfl,cO.row rfl (fun m hm=>absurd hm (Nat.not_lt_zero m))⟩,trivial⟩,rfl,rfl,aj⟩
end
section
open Go.RowKit
theorem VL (n:Int):aW Tryz.prog 131 [(0,.box 171 [.v (.int .u32 0),.v (.int .i32 1),.v (.int .u32 0),.v (.map none),.v (.int .i64 n)]),(1,.box 78 [.box 0 0])] [.box 1 0] (.dL [])
  [(0,.box 171 [.v (.int .u32 0),.v (.int .i32 1),.v (.int .u32 0),.own 2,.v (.int .i64 n)]),(1,.box 78 [.box 0 0]),(2,.mp jh [] [])]:=by
 refine K1.M 0x1 Tryz.func131 10 ?_
 repeat' ((conv=>whnf);first|refine K1.w ?_|refine K1.u ?_|refine ab3.mk [] List.nodup_nil ?_|refine K1.z ?_|refine K1.y (fun _=>?_) (fun _=>?_)|fail)
 all_goals(conv=>whnf)
 first
   |exact⟨[(10,2)],rfl,rfl,⟨aH rfl,aH rfl,aH rfl,trivial⟩,rfl,rfl,aj⟩
   |exact⟨[(11,2)],rfl,rfl,⟨aH rfl,aH rfl,aH rfl,trivial⟩,rfl,rfl,aj⟩
theorem acY (n:Int):aW Tryz.prog 130 [(0,stB 0 (.v (.map none)) n),(1,.box 78 [.box 0 0])] [.box 0 0,.fn 131 [.box 1 0]] (.dL []) [(0,stB 1 (.own 2) n),(1,.box 78 [.box 0 0]),(2,.mp jh [] [])]:=
 aa3 _ _ [.v (.int .u32 0),.v (.map none),.v (.int .i64 n)] [.v (.int .u32 0),.own 2,.v (.int .i64 n)] [.box 0 0] _ (VL n) rfl
theorem aa5 (n:Int) (e:Ev) (hm:fB e=0) (h0:0≤n) (h1:n≤1000000000000) (r:Ev) (rs:List Ev) (hr:rs.length≤1000000000)
  (hs:aW Tryz.prog 132 [(0,jI [])] [.own 0,e.av] (.own 1) [(1,jI (r::rs))]):
  aW Tryz.prog 96 [(0,stB 0 (.v (.map none)) n)] [.box 0 0,e.av] (.v (.int .i64 0)) [(0,stB 1 (.own 1) (n+(r::rs).length)),(1,.mp jh [(e.key,some 3)] (fE [])),(3,jI (r::rs))]:=by
 have hmay:=lG e
 rw[hm]at hmay
 have hdo:=acY n
 obtain⟨er,en,ec,eh,ek,Ij,el,ev⟩:=e
 dsimp only[Ev.av,Ev.cs,stB,jI,List.length_cons,List.length_nil,fE,List.map_nil]at hmay hs hdo⊢
 refine K1.M 0x80000008ff Tryz.func96 10 ?_
 repeat' ((conv=>whnf);first|refine K1.w ?_|refine K1.u ?_|refine K1.P1 hmay rfl ?_|refine dJ.thn dW (fM dW _) ⟨_,_,Tryz.func130,rfl,rfl⟩ (dJ.Fb 2 [(0,_),(1,_)] hdo rfl ⟨rfl,rfl,trivial⟩ rfl rfl ⟨_,Vy.foc (e:=42) (s:=12) (f:=eG []) (k:=Ij) 12 13 (by decide) rfl (by simp), ?_⟩)|refine dJ.add 0 4 rfl rfl (by omega) (by omega) ?_|refine ZN.mk Dq ?_|refine Dz.mk 0 13 _ rfl rfl ?_|refine dJ.hdr dW (fM dW _) 6 13 ⟨_,_,Tryz.func132,rfl,rfl⟩ rfl rfl (fun A c=>dJ.Fb 1 [(0,_)] hs rfl ⟨rfl,trivial⟩ rfl rfl ?_)|refine K1.o (id:=9) [(0,none),(1,none),(2,none),(3,none),(4,none),(5,none),(6,some [5,3,1,0])] [(1,[0]),(2,[1,0]),(3,[1,0]),(6,[5,3,1,0])] ?_|refine K1.o (id:=10) [(0,none),(1,none),(2,none),(3,none),(4,none),(5,none),(6,none),(7,some [5,3,1,0])] [(1,[0]),(2,[1,0]),(3,[1,0]),(7,[5,3,1,0])] ?_|refine K1.z ?_|refine K1.y (fun _=>?_) (fun _=>?_)|fail)
 all_goals(conv=>whnf)
 first
   |exact⟨[(12,1),(14,3)],rfl,rfl,⟨⟨_,rfl,cO.st (by omega)⟩,aH rfl,⟨_,rfl,cO.row rfl (fun m hm=>rfl)⟩,trivial⟩,rfl,rfl,aj⟩
   |exact⟨[(12,1),(15,3)],rfl,rfl,⟨⟨_,rfl,cO.st (by omega)⟩,aH rfl,⟨_,rfl,cO.row rfl (fun m hm=>rfl)⟩,trivial⟩,rfl,rfl,aj⟩
   |exact⟨[(12,1),(16,3)],rfl,rfl,⟨⟨_,rfl,cO.st (by omega)⟩,aH rfl,⟨_,rfl,cO.row rfl (fun m hm=>rfl)⟩,trivial⟩,rfl,rfl,aj⟩
theorem Zd (n:Int) (e:Ev) (hm:fB e=0) (h0:0≤n) (h1:n≤1000000000000) 
  (hs:aW Tryz.prog 132 [(0,jI [])] [.own 0,e.av] (.own 0) [(0,jI [])]):
  aW Tryz.prog 96 [(0,stB 0 (.v (.map none)) n)] [.box 0 0,e.av] (.v (.int .i64 0)) [(0,stB 1 (.own 1) n),(1,.mp jh [(e.key,some 3)] (fE [])),(3,jI [])]:=by
 have hmay:=lG e
 rw[hm]at hmay
 have hdo:=acY n
 obtain⟨er,en,ec,eh,ek,Ij,el,ev⟩:=e
 dsimp only[Ev.av,Ev.cs,stB,jI,List.length_cons,List.length_nil,fE,List.map_nil]at hmay hs hdo⊢
 refine K1.M 0x80000008ff Tryz.func96 10 ?_
 repeat' ((conv=>whnf);first|refine K1.w ?_|refine K1.u ?_|refine K1.P1 hmay rfl ?_|refine dJ.thn dW (fM dW _) ⟨_,_,Tryz.func130,rfl,rfl⟩ (dJ.Fb 2 [(0,_),(1,_)] hdo rfl ⟨rfl,rfl,trivial⟩ rfl rfl ⟨_,Vy.foc (e:=42) (s:=12) (f:=eG []) (k:=Ij) 12 13 (by decide) rfl (by simp), ?_⟩)|refine dJ.add 0 4 rfl rfl (by omega) (by omega) ?_|refine ZN.mk Dq ?_|refine Dz.mk 0 13 _ rfl rfl ?_|refine dJ.hdr dW (fM dW _) 6 13 ⟨_,_,Tryz.func132,rfl,rfl⟩ rfl rfl (fun A c=>dJ.Fb 1 [(0,_)] hs rfl ⟨rfl,trivial⟩ rfl rfl ?_)|refine K1.o (id:=9) [(0,none),(1,none),(2,none),(3,none),(4,none),(5,none),(6,some [5,3,1,0])] [(1,[0]),(2,[1,0]),(3,[1,0]),(6,[5,3,1,0])] ?_|refine K1.o (id:=10) [(0,none),(1,none),(2,none),(3,none),(4,none),(5,none),(6,none),(7,some [5,3,1,0])] [(1,[0]),(2,[1,0]),(3,[1,0]),(7,[5,3,1,0])] ?_|refine K1.z ?_|refine K1.y (fun _=>?_) (fun _=>?_)|fail)
 all_goals(conv=>whnf)
 first
   |exact⟨[(12,1),(14,3)],rfl,rfl,⟨⟨_,rfl,cO.st (by omega)⟩,aH rfl,⟨_,rfl,cO.row rfl (fun m hm=>absurd hm (Nat.not_lt_zero m))⟩,trivial⟩,rfl,rfl,aj⟩
   |exact⟨[(12,1),(15,3)],rfl,rfl,⟨⟨_,rfl,cO.st (by omega)⟩,aH rfl,⟨_,rfl,cO.row rfl (fun m hm=>absurd hm (Nat.not_lt_zero m))⟩,trivial⟩,rfl,rfl,aj⟩
   |exact⟨[(12,1),(16,3)],rfl,rfl,⟨⟨_,rfl,cO.st (by omega)⟩,aH rfl,⟨_,rfl,cO.row rfl (fun m hm=>absurd hm (Nat.not_lt_zero m))⟩,trivial⟩,rfl,rfl,aj⟩
theorem aa6 (n:Int) (e:Ev) (hm:fB e=0) (h0:0≤n) (h1:n≤1000000000000) 
  (hs:aW Tryz.prog 132 [(0,jI [])] [.own 0,e.av] (.v (.slice none 0 0)) []):
  aW Tryz.prog 96 [(0,stB 0 (.v (.map none)) n)] [.box 0 0,e.av] (.v (.int .i64 0)) [(0,stB 1 (.own 1) n),(1,.mp jh [(e.key,some 3)] (fE [])),(3,jI [])]:=by
 have hmay:=lG e
 rw[hm]at hmay
 have hdo:=acY n
 obtain⟨er,en,ec,eh,ek,Ij,el,ev⟩:=e
 dsimp only[Ev.av,Ev.cs,stB,jI,List.length_cons,List.length_nil,fE,List.map_nil]at hmay hs hdo⊢
 refine K1.M 0x80000008ff Tryz.func96 10 ?_
 repeat' ((conv=>whnf);first|refine K1.w ?_|refine K1.u ?_|refine K1.P1 hmay rfl ?_|refine dJ.thn dW (fM dW _) ⟨_,_,Tryz.func130,rfl,rfl⟩ (dJ.Fb 2 [(0,_),(1,_)] hdo rfl ⟨rfl,rfl,trivial⟩ rfl rfl ⟨_,Vy.foc (e:=42) (s:=12) (f:=eG []) (k:=Ij) 12 13 (by decide) rfl (by simp), ?_⟩)|refine dJ.add 0 4 rfl rfl (by omega) (by omega) ?_|refine ZN.mk Dq ?_|refine Dz.mk 0 13 _ rfl rfl ?_|refine dJ.hdr dW (fM dW _) 6 13 ⟨_,_,Tryz.func132,rfl,rfl⟩ rfl rfl (fun A c=>dJ.Fb 1 [(0,_)] hs rfl ⟨rfl,trivial⟩ rfl rfl ?_)|refine K1.o (id:=9) [(0,none),(1,none),(2,none),(3,none),(4,none),(5,none),(6,some [5,3,1,0])] [(1,[0]),(2,[1,0]),(3,[1,0]),(6,[5,3,1,0])] ?_|refine K1.o (id:=10) [(0,none),(1,none),(2,none),(3,none),(4,none),(5,none),(6,none),(7,some [5,3,1,0])] [(1,[0]),(2,[1,0]),(3,[1,0]),(7,[5,3,1,0])] ?_|refine K1.z ?_|refine K1.y (fun _=>?_) (fun _=>?_)|fail)
 all_goals(conv=>whnf)
 first
   |exact⟨[(12,1),(14,3)],rfl,rfl,⟨⟨_,rfl,cO.st (by omega)⟩,aH rfl,⟨_,rfl,cO.row rfl (fun m hm=>absurd hm (Nat.not_lt_zero m))⟩,trivial⟩,rfl,rfl,aj⟩
   |exact⟨[(12,1),(15,3)],rfl,rfl,⟨⟨_,rfl,cO.st (by omega)⟩,aH rfl,⟨_,rfl,cO.row rfl (fun m hm=>absurd hm (Nat.not_lt_zero m))⟩,trivial⟩,rfl,rfl,aj⟩
   |exact⟨[(12,1),(16,3)],rfl,rfl,⟨⟨_,rfl,cO.st (by omega)⟩,aH rfl,⟨_,rfl,cO.row rfl (fun m hm=>absurd hm (Nat.not_lt_zero m))⟩,trivial⟩,rfl,rfl,aj⟩
end
section
open Go.RowKit
theorem VN (l:List Ev) (e:Ev):(kD l e).length≤l.length+1:=by
 have d: ∀k s,(qG k s e l).length≤l.length:=fun k s=>List.length_filter_le _ _
 unfold kD
 split
 · simp
 · split
   · exact Nat.le_trans (List.length_filter_le _ _) (Nat.le_trans (d _ _) (by omega))
   · split
     · split
       · have:=d 3 (wK e);simp;exact this
       · omega
     · split
       · have:=d 4 (oW e);omega
       · split
         · have:=d 4 (oW e);simp;exact this
         · omega
theorem Ze {e:Ev} (h:fB e=0):e.key.size≤9223372036854775807:=by
 unfold fB at h
 split at h
 · omega
 · split at h
   · omega
   · split at h
     · omega
     · unfold jF at h
       split at h
       · omega
       · split at h
         · rename_i hk
           exact absurd h hk
         · rename_i hk
           have hk:keyE e.key=0:=Decidable.not_not.1 hk
           unfold keyE at hk
           split at hk
           · rename_i hh;omega
           · omega
theorem GN (K:ByteArray→List Ev) (e:Ev):Ik K e e.key=kD (K e.key) e:=by simp[Ik]
theorem LU {K:ByteArray→List Ev} {e:Ev} {q:ByteArray} (h:q≠e.key):Ik K e q=K q:=by simp[Ik,h]
def OX (K:ByteArray→List Ev) (n:Int) (e:Ev):Int:=n+((kD (K e.key) e).length-(K e.key).length)
theorem aa7 (K:ByteArray→List Ev) (n:Int) (m0:Nat) (e:Ev) (hm:fB e=0) (hl:(K e.key).length<1000000000) (h0:0≤n) (h1:n≤1000000000000):
  aW Tryz.prog 96 [(0,.obs (uP K n m0))] [.box 0 0,e.av] (.v (.int .i64 0)) [(0,.obs (uP (Ik K e) (OX K n e) (m0+1)))]:=by
 have hks:=Ze hm
 have hW:=Zb (K e.key) e (Zc hm) (by omega)
 have hlen:=VN (K e.key) e
 refine aW.opn (ho:=[]) ⟨_,_,Tryz.func96,rfl,rfl⟩ (OT K n m0 e.key) (fun y=>?_) rfl
 cases y with
 | new h=>
   have hz:K e.key=[]:=h e.key
   unfold OX
   rw[hz]at hW hlen⊢
   simp only[List.append_nil]
   have hcl: ∀ (l:List Ev) (m:Int),kD [] e=l→Closes [(0,stB 1 (.own 1) m),(1,.mp jh [(e.key,some 3)] (fE [])),(3,jI l)] 0 (uP (Ik K e) m (m0+1)):=fun l m hl'=>
    Bc (Ik K e) m _ 3 (by omega) e.key l [] (by simp) (by simp) (fun q hq=>by rw[LU hq,h q];rfl) (by rw[GN,hz,hl']) (by simp) (fun p hp=>by cases hp) hks
   cases hW with
   | own r rs he hs=>
     refine⟨_,hcl (r::rs) _ he,rfl,rfl, ?_⟩
     rw[he]at hlen⊢
     have:=aa5 n e hm h0 h1 r rs (by simp at hlen;simp[hlen]) hs
     simp only[List.length_nil,Int.natCast_zero,Int.sub_zero]at this⊢
     exact this
   | same he hs=>
     refine⟨_,hcl [] _ he,rfl,rfl, ?_⟩
     rw[he]
     have:=Zd n e hm h0 h1 hs
     rw[show n+((([]:List Ev).length:Int)-(([]:List Ev).length:Int))=n by simp]
     exact this
   | nil he hs=>
     refine⟨_,hcl [] _ he,rfl,rfl, ?_⟩
     rw[he]
     have:=aa6 n e hm h0 h1 hs
     rw[show n+((([]:List Ev).length:Int)-(([]:List Ev).length:Int))=n by simp]
     exact this
 | old kv hn hk he hmm hky=>
   simp only[List.append_nil]
   have hcl: ∀ (l:List Ev) (m:Int) (j:Nat),2≤j→kD (K e.key) e=l→Closes [(0,stB 1 (.own 1) m),(1,.mp jh [(e.key,some j)] (fE kv)),(j,jI l)] 0 (uP (Ik K e) m (m0+1)):=fun l m j hj hl'=>
    Bc (Ik K e) m _ j hj e.key l kv hn hk (fun q hq=>by rw[LU hq,he q hq]) (by rw[GN,hl']) (by omega) hky hks
   unfold OX
   cases hW with
   | own r rs hq hs=>
     refine⟨_,hcl (r::rs) _ 3 (by omega) hq,rfl,rfl, ?_⟩
     rw[hq]at hlen⊢
     exact VK K n e hm (by omega) h0 h1 kv r rs (by simp at hlen;omega) hs
   | same hq hs=>
     rw[hq,show n+(((K e.key).length:Int)-((K e.key).length:Int))=n by omega]
     by_cases hp:0<(K e.key).length
     · exact⟨_,hcl (K e.key) _ 2 (by omega) hq,rfl,rfl,Q7 (K e.key) n e hm (by omega) h0 h1 kv hp hs⟩
     · have hp:K e.key=[]:=List.eq_nil_of_length_eq_zero (by omega)
       refine⟨_,hcl [] _ 3 (by omega) (hq.trans hp),rfl,rfl,OW (K e.key) n e hm h0 h1 kv hp hs⟩
   | nil hq hs=>
     refine⟨_,hcl [] _ 3 (by omega) hq,rfl,rfl, ?_⟩
     have:=apply_nil (K e.key) n e hm (by omega) h0 h1 kv hs
     rw[hq,show n+((([]:List Ev).length:Int)-((K e.key).length:Int))=n-((K e.key).length:Int) by simp;omega]
     exact this
theorem adY:aW Tryz.prog 100 [] [] (.box 0 0) [(0,.obs (uP (fun _=>[]) 0 0))]:=by
 refine aW.cls (hs':=[(0,stB 0 (.v (.map none)) 0)]) (ho:=[]) (JD _ 0 0 fun _=>rfl) ?_ rfl
 dsimp only[stB,List.append_nil]
 refine K1.M 0x1 Tryz.func100 10 ?_
 repeat' ((conv=>whnf);first|refine K1.w ?_|refine K1.u ?_|refine K1.z ?_|refine K1.y (fun _=>?_) (fun _=>?_)|fail)
 all_goals(conv=>whnf)
 exact⟨[(10,0)],rfl,rfl,⟨aH rfl,trivial⟩,rfl,rfl,aj⟩
theorem Il (K:ByteArray→List Ev) (n:Int) (m:Nat) (y:abN K m):Closes (rZ K n m y) 0 (uP K n m):=by
 cases y with
 |new h=>exact JD K n m h
 |old kv h=>exact Closes.pack (rZ K n m) (.old kv h) rfl fun X hok=>LM (hok _ List.mem_cons_self)
end
end Go.Proofs.YtimhagicagdkfaaGreat
