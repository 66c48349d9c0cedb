/-
  Contracts of the walk:LvQ,LvR,LvS.
-/
import Derived.Test.YtimhagicagdkfaaGreatNh19
import Derived.Test.YtimhagicagdkfaaGreatNh20
set_option maxHeartbeats 16000000
set_option maxRecDepth 100000
set_option linter.unusedVariables false
set_option linter.unusedSimpArgs false
namespace Go.Proofs.YtimhagicagdkfaaGreat
section
open Go.RowKit
theorem Eh (w:World):(zeroValue 39).run Tryz.prog w= .ok (.slice none 0 0) w:=by
 have h:(Tryz.prog.info? 39).bind (·.zero)=some (.slice none 0 0):=by kernel_rfl
 cases hi:Tryz.prog.info? 39 with
 |none=>rw[hi]at h;cases h
 | some info=>
   rw[hi]at h
   have h:info.zero=_:=h
   simp[zeroValue,typeInfo,hi,h]
theorem ZM {e:Ev} (h:eG e=0):1≤e.k∧e.k≤5:=by
 unfold eG at h
 split at h
 · omega
 · split at h
   · omega
   · split at h
     · omega
     · unfold jJ at h
       grind [Ev.ed]
def Jg (K:ByteArray→List Ev) (e:Ev):ByteArray→List Ev:=fun q=>if q=e.key then kH (K e.key) e else K q
theorem bW.st {d:Int} {m:AV} {x y:Int} (h:x=y):bW (.box 171 [.v (.int .u32 d),.v (.int .i32 0),.v (.int .u32 0),m,.v (.int .i64 x)]) (.box 171 [.v (.int .u32 d),.v (.int .i32 0),.v (.int .u32 0),m,.v (.int .i64 y)]):=by rw[h];exact bW.refl _
theorem WE (K:ByteArray→List Ev) (n:Int) (e:Ev) (hm:eG e=0) (hl:(K e.key).length≤1000000000) (h0:0≤n) (h1:n≤1000000000000) (kv:List (ByteArray×List Ev)) (r:Ev) (rs:List Ev)
  (hr:rs.length≤1000000000) (hs:aV Tryz.prog 132 [(0,jM (K e.key))] [.own 0,e.av] (.own 1) [(1,jM (r::rs))]):
  aV Tryz.prog 96 [(0,stB 1 (.own 1) n),(1,.mp jo [(e.key,some 2)] (fF kv)),(2,jM (K e.key))] [.box 0 0,e.av] (.v (.int .i64 0)) [(0,stB 1 (.own 1) (n+((r::rs).length-(K e.key).length))),(1,.mp jo [(e.key,some 3)] (fF kv)),(3,jM (r::rs))]:=by
 have hmay:=lS e
 rw[hm]at hmay
 generalize K e.key=l at*
 generalize fF kv=rv at*
 obtain⟨er,en,ec,eh,ek,Jf,el,ev⟩:=e
 dsimp only[Ev.av,Ev.cs,stB,jM,List.length_cons]at hmay hs⊢
 refine K1.M 0x80000008ff Tryz.func96 10 ?_
 repeat' ((conv=>whnf);first|refine K1.w ?_|refine K1.u ?_|refine K1.P1 hmay rfl ?_|refine dK.done 0 rfl rfl ?_|refine dK.add 0 4 rfl rfl (by omega) (by omega) ?_|refine ZN.mk Eh ?_|refine Ep.mk 0 2 _ rfl rfl ?_|refine dK.hdr dV (fO dV _) 6 2 ⟨_,_,Tryz.func132,rfl,rfl⟩ rfl rfl (fun A c=>dK.Gi 1 [(0,_)] hs rfl ⟨rfl,trivial⟩ rfl rfl ?_)|refine K1.o (id:=9) [(0,none),(1,none),(2,none),(3,none),(4,none),(5,none),(6,some [5,3,1,0])] [(1,[0]),(2,[1,0]),(3,[1,0]),(6,[5,3,1,0])] ?_|refine K1.o (id:=10) [(0,none),(1,none),(2,none),(3,none),(4,none),(5,none),(6,none),(7,some [5,3,1,0])] [(1,[0]),(2,[1,0]),(3,[1,0]),(7,[5,3,1,0])] ?_|refine K1.z ?_|refine K1.y (fun _=>?_) (fun _=>?_)|fail)
 all_goals(conv=>whnf)
 exact⟨[(12,3)],rfl,rfl,⟨⟨_,rfl,bW.st (by omega)⟩,aF rfl,aF rfl,trivial⟩,rfl,rfl,aj⟩
theorem Sl (l:List Ev) (n:Int) (e:Ev) (hm:eG e=0) (hl:l.length≤1000000000) (h0:0≤n) (h1:n≤1000000000000) (kv:List (ByteArray×List Ev)) (hn:0<l.length)
  (hs:aV Tryz.prog 132 [(0,jM l)] [.own 0,e.av] (.own 0) [(0,jM l)]):
  aV Tryz.prog 96 [(0,stB 1 (.own 1) n),(1,.mp jo [(e.key,some 2)] (fF kv)),(2,jM l)] [.box 0 0,e.av] (.v (.int .i64 0)) [(0,stB 1 (.own 1) n),(1,.mp jo [(e.key,some 2)] (fF kv)),(2,jM l)]:=by
 have hmay:=lS e
 rw[hm]at hmay
 generalize fF kv=rv at*
 obtain⟨er,en,ec,eh,ek,Jf,el,ev⟩:=e
 dsimp only[Ev.av,Ev.cs,stB,jM]at hmay hs⊢
 refine K1.M 0x80000008ff Tryz.func96 10 ?_
 repeat' ((conv=>whnf);first|refine K1.w ?_|refine K1.u ?_|refine K1.P1 hmay rfl ?_|refine dK.done 0 rfl rfl ?_|refine dK.add 0 4 rfl rfl (by omega) (by omega) ?_|refine ZN.mk Eh ?_|refine Ep.mk 0 2 _ rfl rfl ?_|refine dK.hdr dV (fO dV _) 6 2 ⟨_,_,Tryz.func132,rfl,rfl⟩ rfl rfl (fun A c=>dK.Gi 1 [(0,_)] hs rfl ⟨rfl,trivial⟩ rfl rfl ?_)|refine K1.o (id:=9) [(0,none),(1,none),(2,none),(3,none),(4,none),(5,none),(6,some [5,3,1,0])] [(1,[0]),(2,[1,0]),(3,[1,0]),(6,[5,3,1,0])] ?_|refine K1.o (id:=10) [(0,none),(1,none),(2,none),(3,none),(4,none),(5,none),(6,none),(7,some [5,3,1,0])] [(1,[0]),(2,[1,0]),(3,[1,0]),(7,[5,3,1,0])] ?_|refine K1.z ?_|refine K1.y (fun _=>?_) (fun _=>?_)|fail)
 all_goals(conv=>whnf)
 exact⟨[],rfl,rfl,⟨⟨_,rfl,bW.st (by omega)⟩,aF rfl,aF rfl,trivial⟩,rfl,rfl,aj⟩
theorem PS (l:List Ev) (n:Int) (e:Ev) (hm:eG e=0) (h0:0≤n) (h1:n≤1000000000000) (kv:List (ByteArray×List Ev)) (hn:l=[])
  (hs:aV Tryz.prog 132 [(0,jM l)] [.own 0,e.av] (.own 0) [(0,jM l)]):
  aV Tryz.prog 96 [(0,stB 1 (.own 1) n),(1,.mp jo [(e.key,some 2)] (fF kv)),(2,jM l)] [.box 0 0,e.av] (.v (.int .i64 0)) [(0,stB 1 (.own 1) n),(1,.mp jo [(e.key,some 3)] (fF kv)),(3,jM [])]:=by
 have hmay:=lS e
 rw[hm]at hmay
 subst hn
 generalize fF kv=rv at*
 obtain⟨er,en,ec,eh,ek,Jf,el,ev⟩:=e
 dsimp only[Ev.av,Ev.cs,stB,jM,List.length_nil]at hmay hs⊢
 refine K1.M 0x80000008ff Tryz.func96 10 ?_
 repeat' ((conv=>whnf);first|refine K1.w ?_|refine K1.u ?_|refine K1.P1 hmay rfl ?_|refine dK.done 0 rfl rfl ?_|refine dK.add 0 4 rfl rfl (by omega) (by omega) ?_|refine ZN.mk Eh ?_|refine Ep.mk 0 2 _ rfl rfl ?_|refine dK.hdr dV (fO dV _) 6 2 ⟨_,_,Tryz.func132,rfl,rfl⟩ rfl rfl (fun A c=>dK.Gi 1 [(0,_)] hs rfl ⟨rfl,trivial⟩ rfl rfl ?_)|refine K1.o (id:=9) [(0,none),(1,none),(2,none),(3,none),(4,none),(5,none),(6,some [5,3,1,0])] [(1,[0]),(2,[1,0]),(3,[1,0]),(6,[5,3,1,0])] ?_|refine K1.o (id:=10) [(0,none),(1,none),(2,none),(3,none),(4,none),(5,none),(6,none),(7,some [5,3,1,0])] [(1,[0]),(2,[1,0]),(3,[1,0]),(7,[5,3,1,0])] ?_|refine K1.z ?_|refine K1.y (fun _=>?_) (fun _=>?_)|fail)
 all_goals(conv=>whnf)
 first
   |exact⟨[(12,3)],rfl,rfl,⟨⟨_,rfl,bW.st (by omega)⟩,aF rfl,⟨_,rfl,bW.row rfl (fun m hm=>absurd hm (Nat.not_lt_zero m))⟩,trivial⟩,rfl,rfl,aj⟩
   |exact⟨[(13,3)],rfl,rfl,⟨⟨_,rfl,bW.st (by omega)⟩,aF rfl,⟨_,rfl,bW.row rfl (fun m hm=>absurd hm (Nat.not_lt_zero m))⟩,trivial⟩,rfl,rfl,aj⟩
   |exact⟨[(14,3)],rfl,rfl,⟨⟨_,rfl,bW.st (by omega)⟩,aF rfl,⟨_,rfl,bW.row rfl (fun m hm=>absurd hm (Nat.not_lt_zero m))⟩,trivial⟩,rfl,rfl,aj⟩
   |exact⟨[(15,3)],rfl,rfl,⟨⟨_,rfl,bW.st (by omega)⟩,aF rfl,⟨_,rfl,bW.row rfl (fun m hm=>absurd hm (Nat.not_lt_zero m))⟩,trivial⟩,rfl,rfl,aj⟩
theorem apply_nil (l:List Ev) (n:Int) (e:Ev) (hm:eG e=0) (hl:l.length≤1000000000) (h0:0≤n) (h1:n≤1000000000000) (kv:List (ByteArray×List Ev))
  (hs:aV Tryz.prog 132 [(0,jM l)] [.own 0,e.av] (.v (.slice none 0 0)) []):
  aV Tryz.prog 96 [(0,stB 1 (.own 1) n),(1,.mp jo [(e.key,some 2)] (fF kv)),(2,jM l)] [.box 0 0,e.av] (.v (.int .i64 0)) [(0,stB 1 (.own 1) (n-l.length)),(1,.mp jo [(e.key,some 3)] (fF kv)),(3,jM [])]:=by
 have hmay:=lS e
 rw[hm]at hmay
 generalize fF kv=rv at*
 obtain⟨er,en,ec,eh,ek,Jf,el,ev⟩:=e
 dsimp only[Ev.av,Ev.cs,stB,jM,List.length_nil]at hmay hs⊢
 refine K1.M 0x80000008ff Tryz.func96 10 ?_
 repeat' ((conv=>whnf);first|refine K1.w ?_|refine K1.u ?_|refine K1.P1 hmay rfl ?_|refine dK.done 0 rfl rfl ?_|refine dK.add 0 4 rfl rfl (by omega) (by omega) ?_|refine ZN.mk Eh ?_|refine Ep.mk 0 2 _ rfl rfl ?_|refine dK.hdr dV (fO dV _) 6 2 ⟨_,_,Tryz.func132,rfl,rfl⟩ rfl rfl (fun A c=>dK.Gi 1 [(0,_)] hs rfl ⟨rfl,trivial⟩ rfl rfl ?_)|refine K1.o (id:=9) [(0,none),(1,none),(2,none),(3,none),(4,none),(5,none),(6,some [5,3,1,0])] [(1,[0]),(2,[1,0]),(3,[1,0]),(6,[5,3,1,0])] ?_|refine K1.o (id:=10) [(0,none),(1,none),(2,none),(3,none),(4,none),(5,none),(6,none),(7,some [5,3,1,0])] [(1,[0]),(2,[1,0]),(3,[1,0]),(7,[5,3,1,0])] ?_|refine K1.z ?_|refine K1.y (fun _=>?_) (fun _=>?_)|fail)
 all_goals(conv=>whnf)
 first
   |exact⟨[(12,3)],rfl,rfl,⟨⟨_,rfl,bW.st (by omega)⟩,aF rfl,⟨_,rfl,bW.row rfl (fun m hm=>absurd hm (Nat.not_lt_zero m))⟩,trivial⟩,rfl,rfl,aj⟩
   |exact⟨[(13,3)],rfl,rfl,⟨⟨_,rfl,bW.st (by omega)⟩,aF rfl,⟨_,rfl,bW.row rfl (fun m hm=>absurd hm (Nat.not_lt_zero m))⟩,trivial⟩,rfl,rfl,aj⟩
   |exact⟨[(14,3)],rfl,rfl,⟨⟨_,rfl,bW.st (by omega)⟩,aF rfl,⟨_,rfl,bW.row rfl (fun m hm=>absurd hm (Nat.not_lt_zero m))⟩,trivial⟩,rfl,rfl,aj⟩
   |exact⟨[(15,3)],rfl,rfl,⟨⟨_,rfl,bW.st (by omega)⟩,aF rfl,⟨_,rfl,bW.row rfl (fun m hm=>absurd hm (Nat.not_lt_zero m))⟩,trivial⟩,rfl,rfl,aj⟩
end
section
open Go.RowKit
theorem WG (n:Int):aV Tryz.prog 131 [(0,.box 171 [.v (.int .u32 0),.v (.int .i32 1),.v (.int .u32 0),.v (.map none),.v (.int .i64 n)]),(1,.box 78 [.box 0 0])] [.box 1 0] (.dF [])
  [(0,.box 171 [.v (.int .u32 0),.v (.int .i32 1),.v (.int .u32 0),.own 2,.v (.int .i64 n)]),(1,.box 78 [.box 0 0]),(2,.mp jo [] [])]:=by
 refine K1.M 0x1 Tryz.func131 10 ?_
 repeat' ((conv=>whnf);first|refine K1.w ?_|refine K1.u ?_|refine acH.mk [] List.nodup_nil ?_|refine K1.z ?_|refine K1.y (fun _=>?_) (fun _=>?_)|fail)
 all_goals(conv=>whnf)
 first
   |exact⟨[(10,2)],rfl,rfl,⟨aF rfl,aF rfl,aF rfl,trivial⟩,rfl,rfl,aj⟩
   |exact⟨[(11,2)],rfl,rfl,⟨aF rfl,aF rfl,aF rfl,trivial⟩,rfl,rfl,aj⟩
theorem ads (n:Int):aV Tryz.prog 130 [(0,stB 0 (.v (.map none)) n),(1,.box 78 [.box 0 0])] [.box 0 0,.fn 131 [.box 1 0]] (.dF []) [(0,stB 1 (.own 2) n),(1,.box 78 [.box 0 0]),(2,.mp jo [] [])]:=
 abz _ _ [.v (.int .u32 0),.v (.map none),.v (.int .i64 n)] [.v (.int .u32 0),.own 2,.v (.int .i64 n)] [.box 0 0] _ (WG n) rfl
theorem abB (n:Int) (e:Ev) (hm:eG e=0) (h0:0≤n) (h1:n≤1000000000000) (r:Ev) (rs:List Ev) (hr:rs.length≤1000000000)
  (hs:aV Tryz.prog 132 [(0,jM [])] [.own 0,e.av] (.own 1) [(1,jM (r::rs))]):
  aV Tryz.prog 96 [(0,stB 0 (.v (.map none)) n)] [.box 0 0,e.av] (.v (.int .i64 0)) [(0,stB 1 (.own 1) (n+(r::rs).length)),(1,.mp jo [(e.key,some 3)] (fF [])),(3,jM (r::rs))]:=by
 have hmay:=lS e
 rw[hm]at hmay
 have hdo:=ads n
 obtain⟨er,en,ec,eh,ek,Jf,el,ev⟩:=e
 dsimp only[Ev.av,Ev.cs,stB,jM,List.length_cons,List.length_nil,fF,List.map_nil]at hmay hs hdo⊢
 refine K1.M 0x80000008ff Tryz.func96 10 ?_
 repeat' ((conv=>whnf);first|refine K1.w ?_|refine K1.u ?_|refine K1.P1 hmay rfl ?_|refine dK.thn dV (fO dV _) ⟨_,_,Tryz.func130,rfl,rfl⟩ (dK.Gi 2 [(0,_),(1,_)] hdo rfl ⟨rfl,rfl,trivial⟩ rfl rfl ⟨_,Wn.foc (e:=42) (s:=12) (f:=dX []) (k:=Jf) 12 13 (by decide) rfl (by simp), ?_⟩)|refine dK.add 0 4 rfl rfl (by omega) (by omega) ?_|refine ZN.mk Eh ?_|refine Ep.mk 0 13 _ rfl rfl ?_|refine dK.hdr dV (fO dV _) 6 13 ⟨_,_,Tryz.func132,rfl,rfl⟩ rfl rfl (fun A c=>dK.Gi 1 [(0,_)] hs rfl ⟨rfl,trivial⟩ rfl rfl ?_)|refine K1.o (id:=9) [(0,none),(1,none),(2,none),(3,none),(4,none),(5,none),(6,some [5,3,1,0])] [(1,[0]),(2,[1,0]),(3,[1,0]),(6,[5,3,1,0])] ?_|refine K1.o (id:=10) [(0,none),(1,none),(2,none),(3,none),(4,none),(5,none),(6,none),(7,some [5,3,1,0])] [(1,[0]),(2,[1,0]),(3,[1,0]),(7,[5,3,1,0])] ?_|refine K1.z ?_|refine K1.y (fun _=>?_) (fun _=>?_)|fail)
 all_goals(conv=>whnf)
 first
   |exact⟨[(12,1),(14,3)],rfl,rfl,⟨⟨_,rfl,bW.st (by omega)⟩,aF rfl,⟨_,rfl,bW.row rfl (fun m hm=>rfl)⟩,trivial⟩,rfl,rfl,aj⟩
   |exact⟨[(12,1),(15,3)],rfl,rfl,⟨⟨_,rfl,bW.st (by omega)⟩,aF rfl,⟨_,rfl,bW.row rfl (fun m hm=>rfl)⟩,trivial⟩,rfl,rfl,aj⟩
   |exact⟨[(12,1),(16,3)],rfl,rfl,⟨⟨_,rfl,bW.st (by omega)⟩,aF rfl,⟨_,rfl,bW.row rfl (fun m hm=>rfl)⟩,trivial⟩,rfl,rfl,aj⟩
theorem ZO (n:Int) (e:Ev) (hm:eG e=0) (h0:0≤n) (h1:n≤1000000000000) 
  (hs:aV Tryz.prog 132 [(0,jM [])] [.own 0,e.av] (.own 0) [(0,jM [])]):
  aV Tryz.prog 96 [(0,stB 0 (.v (.map none)) n)] [.box 0 0,e.av] (.v (.int .i64 0)) [(0,stB 1 (.own 1) n),(1,.mp jo [(e.key,some 3)] (fF [])),(3,jM [])]:=by
 have hmay:=lS e
 rw[hm]at hmay
 have hdo:=ads n
 obtain⟨er,en,ec,eh,ek,Jf,el,ev⟩:=e
 dsimp only[Ev.av,Ev.cs,stB,jM,List.length_cons,List.length_nil,fF,List.map_nil]at hmay hs hdo⊢
 refine K1.M 0x80000008ff Tryz.func96 10 ?_
 repeat' ((conv=>whnf);first|refine K1.w ?_|refine K1.u ?_|refine K1.P1 hmay rfl ?_|refine dK.thn dV (fO dV _) ⟨_,_,Tryz.func130,rfl,rfl⟩ (dK.Gi 2 [(0,_),(1,_)] hdo rfl ⟨rfl,rfl,trivial⟩ rfl rfl ⟨_,Wn.foc (e:=42) (s:=12) (f:=dX []) (k:=Jf) 12 13 (by decide) rfl (by simp), ?_⟩)|refine dK.add 0 4 rfl rfl (by omega) (by omega) ?_|refine ZN.mk Eh ?_|refine Ep.mk 0 13 _ rfl rfl ?_|refine dK.hdr dV (fO dV _) 6 13 ⟨_,_,Tryz.func132,rfl,rfl⟩ rfl rfl (fun A c=>dK.Gi 1 [(0,_)] hs rfl ⟨rfl,trivial⟩ rfl rfl ?_)|refine K1.o (id:=9) [(0,none),(1,none),(2,none),(3,none),(4,none),(5,none),(6,some [5,3,1,0])] [(1,[0]),(2,[1,0]),(3,[1,0]),(6,[5,3,1,0])] ?_|refine K1.o (id:=10) [(0,none),(1,none),(2,none),(3,none),(4,none),(5,none),(6,none),(7,some [5,3,1,0])] [(1,[0]),(2,[1,0]),(3,[1,0]),(7,[5,3,1,0])] ?_|refine K1.z ?_|refine K1.y (fun _=>?_) (fun _=>?_)|fail)
 all_goals(conv=>whnf)
 first
   |exact⟨[(12,1),(14,3)],rfl,rfl,⟨⟨_,rfl,bW.st (by omega)⟩,aF rfl,⟨_,rfl,bW.row rfl (fun m hm=>absurd hm (Nat.not_lt_zero m))⟩,trivial⟩,rfl,rfl,aj⟩
   |exact⟨[(12,1),(15,3)],rfl,rfl,⟨⟨_,rfl,bW.st (by omega)⟩,aF rfl,⟨_,rfl,bW.row rfl (fun m hm=>absurd hm (Nat.not_lt_zero m))⟩,trivial⟩,rfl,rfl,aj⟩
   |exact⟨[(12,1),(16,3)],rfl,rfl,⟨⟨_,rfl,bW.st (by omega)⟩,aF rfl,⟨_,rfl,bW.row rfl (fun m hm=>absurd hm (Nat.not_lt_zero m))⟩,trivial⟩,rfl,rfl,aj⟩
theorem abC (n:Int) (e:Ev) (hm:eG e=0) (h0:0≤n) (h1:n≤1000000000000) 
  (hs:aV Tryz.prog 132 [(0,jM [])] [.own 0,e.av] (.v (.slice none 0 0)) []):
  aV Tryz.prog 96 [(0,stB 0 (.v (.map none)) n)] [.box 0 0,e.av] (.v (.int .i64 0)) [(0,stB 1 (.own 1) n),(1,.mp jo [(e.key,some 3)] (fF [])),(3,jM [])]:=by
 have hmay:=lS e
 rw[hm]at hmay
 have hdo:=ads n
 obtain⟨er,en,ec,eh,ek,Jf,el,ev⟩:=e
 dsimp only[Ev.av,Ev.cs,stB,jM,List.length_cons,List.length_nil,fF,List.map_nil]at hmay hs hdo⊢
 refine K1.M 0x80000008ff Tryz.func96 10 ?_
 repeat' ((conv=>whnf);first|refine K1.w ?_|refine K1.u ?_|refine K1.P1 hmay rfl ?_|refine dK.thn dV (fO dV _) ⟨_,_,Tryz.func130,rfl,rfl⟩ (dK.Gi 2 [(0,_),(1,_)] hdo rfl ⟨rfl,rfl,trivial⟩ rfl rfl ⟨_,Wn.foc (e:=42) (s:=12) (f:=dX []) (k:=Jf) 12 13 (by decide) rfl (by simp), ?_⟩)|refine dK.add 0 4 rfl rfl (by omega) (by omega) ?_|refine ZN.mk Eh ?_|refine Ep.mk 0 13 _ rfl rfl ?_|refine dK.hdr dV (fO dV _) 6 13 ⟨_,_,Tryz.func132,rfl,rfl⟩ rfl rfl (fun A c=>dK.Gi 1 [(0,_)] hs rfl ⟨rfl,trivial⟩ rfl rfl ?_)|refine K1.o (id:=9) [(0,none),(1,none),(2,none),(3,none),(4,none),(5,none),(6,some [5,3,1,0])] [(1,[0]),(2,[1,0]),(3,[1,0]),(6,[5,3,1,0])] ?_|refine K1.o (id:=10) [(0,none),(1,none),(2,none),(3,none),(4,none),(5,none),(6,none),(7,some [5,3,1,0])] [(1,[0]),(2,[1,0]),(3,[1,0]),(7,[5,3,1,0])] ?_|refine K1.z ?_|refine K1.y (fun _=>?_) (fun _=>?_)|fail)
 all_goals(conv=>whnf)
 first
   |exact⟨[(12,1),(14,3)],rfl,rfl,⟨⟨_,rfl,bW.st (by omega)⟩,aF rfl,⟨_,rfl,bW.row rfl (fun m hm=>absurd hm (Nat.not_lt_zero m))⟩,trivial⟩,rfl,rfl,aj⟩
   |exact⟨[(12,1),(15,3)],rfl,rfl,⟨⟨_,rfl,bW.st (by omega)⟩,aF rfl,⟨_,rfl,bW.row rfl (fun m hm=>absurd hm (Nat.not_lt_zero m))⟩,trivial⟩,rfl,rfl,aj⟩
   |exact⟨[(12,1),(16,3)],rfl,rfl,⟨⟨_,rfl,bW.st (by omega)⟩,aF rfl,⟨_,rfl,bW.row rfl (fun m hm=>absurd hm (Nat.not_lt_zero m))⟩,trivial⟩,rfl,rfl,aj⟩
end
section
open Go.RowKit
theorem WH (l:List Ev) (e:Ev):(kH l e).length≤l.length+1:=by
 have d: ∀k s,(qQ k s e l).length≤l.length:=fun k s=>List.length_filter_le _ _
 unfold kH
 split
 · simp
 · split
   · exact Nat.le_trans (List.length_filter_le _ _) (Nat.le_trans (d _ _) (by omega))
   · split
     · split
       · have:=d 3 (wX e);simp;exact this
       · omega
     · split
       · have:=d 4 (pJ e);omega
       · split
         · have:=d 4 (pJ e);simp;exact this
         · omega
theorem ZP {e:Ev} (h:eG e=0):e.key.size≤9223372036854775807:=by
 unfold eG at h
 split at h
 · omega
 · split at h
   · omega
   · split at h
     · omega
     · unfold jJ at h
       split at h
       · omega
       · split at h
         · rename_i hk
           exact absurd h hk
         · rename_i hk
           have hk:keyE e.key=0:=Decidable.not_not.1 hk
           unfold keyE at hk
           split at hk
           · rename_i hh;omega
           · omega
theorem Ie (K:ByteArray→List Ev) (e:Ev):Jg K e e.key=kH (K e.key) e:=by simp[Jg]
theorem MR {K:ByteArray→List Ev} {e:Ev} {q:ByteArray} (h:q≠e.key):Jg K e q=K q:=by simp[Jg,h]
def PU (K:ByteArray→List Ev) (n:Int) (e:Ev):Int:=n+((kH (K e.key) e).length-(K e.key).length)
theorem abD (K:ByteArray→List Ev) (n:Int) (m0:Nat) (e:Ev) (hm:eG e=0) (hl:(K e.key).length<1000000000) (h0:0≤n) (h1:n≤1000000000000):
  aV Tryz.prog 96 [(0,.obs (vw K n m0))] [.box 0 0,e.av] (.v (.int .i64 0)) [(0,.obs (vw (Jg K e) (PU K n e) (m0+1)))]:=by
 have hks:=ZP hm
 have hW:=ZL (K e.key) e (ZM hm) (by omega)
 have hlen:=WH (K e.key) e
 refine aV.opn (ho:=[]) ⟨_,_,Tryz.func96,rfl,rfl⟩ (PL K n m0 e.key) (fun y=>?_) rfl
 cases y with
 | new h=>
   have hz:K e.key=[]:=h e.key
   unfold PU
   rw[hz]at hW hlen⊢
   simp only[List.append_nil]
   have hcl: ∀ (l:List Ev) (m:Int),kH [] e=l→Closes [(0,stB 1 (.own 1) m),(1,.mp jo [(e.key,some 3)] (fF [])),(3,jM l)] 0 (vw (Jg K e) m (m0+1)):=fun l m hl'=>
    BM (Jg K e) m _ 3 (by omega) e.key l [] (by simp) (by simp) (fun q hq=>by rw[MR hq,h q];rfl) (by rw[Ie,hz,hl']) (by simp) (fun p hp=>by cases hp) hks
   cases hW with
   | own r rs he hs=>
     refine⟨_,hcl (r::rs) _ he,rfl,rfl, ?_⟩
     rw[he]at hlen⊢
     have:=abB n e hm h0 h1 r rs (by simp at hlen;simp[hlen]) hs
     simp only[List.length_nil,Int.natCast_zero,Int.sub_zero]at this⊢
     exact this
   | same he hs=>
     refine⟨_,hcl [] _ he,rfl,rfl, ?_⟩
     rw[he]
     have:=ZO n e hm h0 h1 hs
     rw[show n+((([]:List Ev).length:Int)-(([]:List Ev).length:Int))=n by simp]
     exact this
   | nil he hs=>
     refine⟨_,hcl [] _ he,rfl,rfl, ?_⟩
     rw[he]
     have:=abC n e hm h0 h1 hs
     rw[show n+((([]:List Ev).length:Int)-(([]:List Ev).length:Int))=n by simp]
     exact this
 | old kv hn hk he hmm hky=>
   simp only[List.append_nil]
   have hcl: ∀ (l:List Ev) (m:Int) (j:Nat),2≤j→kH (K e.key) e=l→Closes [(0,stB 1 (.own 1) m),(1,.mp jo [(e.key,some j)] (fF kv)),(j,jM l)] 0 (vw (Jg K e) m (m0+1)):=fun l m j hj hl'=>
    BM (Jg K e) m _ j hj e.key l kv hn hk (fun q hq=>by rw[MR hq,he q hq]) (by rw[Ie,hl']) (by omega) hky hks
   unfold PU
   cases hW with
   | own r rs hq hs=>
     refine⟨_,hcl (r::rs) _ 3 (by omega) hq,rfl,rfl, ?_⟩
     rw[hq]at hlen⊢
     exact WE K n e hm (by omega) h0 h1 kv r rs (by simp at hlen;omega) hs
   | same hq hs=>
     rw[hq,show n+(((K e.key).length:Int)-((K e.key).length:Int))=n by omega]
     by_cases hp:0<(K e.key).length
     · exact⟨_,hcl (K e.key) _ 2 (by omega) hq,rfl,rfl,Sl (K e.key) n e hm (by omega) h0 h1 kv hp hs⟩
     · have hp:K e.key=[]:=List.eq_nil_of_length_eq_zero (by omega)
       refine⟨_,hcl [] _ 3 (by omega) (hq.trans hp),rfl,rfl,PS (K e.key) n e hm h0 h1 kv hp hs⟩
   | nil hq hs=>
     refine⟨_,hcl [] _ 3 (by omega) hq,rfl,rfl, ?_⟩
     have:=apply_nil (K e.key) n e hm (by omega) h0 h1 kv hs
     rw[hq,show n+((([]:List Ev).length:Int)-((K e.key).length:Int))=n-((K e.key).length:Int) by simp;omega]
     exact this
theorem aem:aV Tryz.prog 100 [] [] (.box 0 0) [(0,.obs (vw (fun _=>[]) 0 0))]:=by
 refine aV.cls (hs':=[(0,stB 0 (.v (.map none)) 0)]) (ho:=[]) (Kv _ 0 0 fun _=>rfl) ?_ rfl
 dsimp only[stB,List.append_nil]
 refine K1.M 0x1 Tryz.func100 10 ?_
 repeat' ((conv=>whnf);first|refine K1.w ?_|refine K1.u ?_|refine K1.z ?_|refine K1.y (fun _=>?_) (fun _=>?_)|fail)
 all_goals(conv=>whnf)
 exact⟨[(10,0)],rfl,rfl,⟨aF rfl,trivial⟩,rfl,rfl,aj⟩
theorem Jh (K:ByteArray→List Ev) (n:Int) (m:Nat) (y:aco K m):Closes (sW K n m y) 0 (vw K n m):=by
 cases y with
 |new h=>exact Kv K n m h
 |old kv h=>exact Closes.pack (sW K n m) (.old kv h) rfl fun X hok=>MO (hok _ List.mem_cons_self)
end
end Go.Proofs.YtimhagicagdkfaaGreat
