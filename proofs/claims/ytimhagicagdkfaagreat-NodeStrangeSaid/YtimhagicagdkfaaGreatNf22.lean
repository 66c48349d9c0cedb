/-
  Contracts of the walk:LvQ,LvR,LvS.
-/
import Derived.Test.YtimhagicagdkfaaGreatNf20
import Derived.Test.YtimhagicagdkfaaGreatNf21
set_option linter.unusedVariables false
set_option linter.unusedSimpArgs false
set_option maxHeartbeats 16000000
set_option maxRecDepth 100000
namespace Go.Proofs.YtimhagicagdkfaaGreat
section
open Go.RowKit
theorem Dw (w:World):(zeroValue 39).run Tryz.prog w= .ok (.slice none 0 0) w:=by
 have h:(Tryz.prog.info? 39).bind (·.zero)=some (.slice none 0 0):=by kernel_rfl
 cases hi:Tryz.prog.info? 39 with
 |none=>rw[hi]at h;cases h
 | some info=>
   rw[hi]at h
   have h:info.zero=_:=h
   simp[zeroValue,typeInfo,hi,h]
theorem Zg {e:Ev} (h:eG e=0):1≤e.k∧e.k≤5:=by
 unfold eG at h
 split at h
 · omega
 · split at h
   · omega
   · split at h
     · omega
     · unfold jE at h
       grind [Ev.ed]
def Ir (K:ByteArray→List Ev) (e:Ev):ByteArray→List Ev:=fun q=>if q=e.key then kF (K e.key) e else K q
theorem au.st {d:Int} {m:AV} {x y:Int} (h:x=y):au (.box 171 [.v (.int .u32 d),.v (.int .i32 0),.v (.int .u32 0),m,.v (.int .i64 x)]) (.box 171 [.v (.int .u32 d),.v (.int .i32 0),.v (.int .u32 0),m,.v (.int .i64 y)]):=by rw[h];exact au.refl _
theorem VQ (K:ByteArray→List Ev) (n:Int) (e:Ev) (hm:eG e=0) (hl:(K e.key).length≤1000000000) (h0:0≤n) (h1:n≤1000000000000) (kv:List (ByteArray×List Ev)) (r:Ev) (rs:List Ev)
  (hr:rs.length≤1000000000) (hs:aY Tryz.prog 132 [(0,jI (K e.key))] [.own 0,e.av] (.own 1) [(1,jI (r::rs))]):
  aY Tryz.prog 96 [(0,stB 1 (.own 1) n),(1,.mp jg [(e.key,some 2)] (fB kv)),(2,jI (K e.key))] [.box 0 0,e.av] (.v (.int .i64 0)) [(0,stB 1 (.own 1) (n+((r::rs).length-(K e.key).length))),(1,.mp jg [(e.key,some 3)] (fB kv)),(3,jI (r::rs))]:=by
 have hmay:=lH e
 rw[hm]at hmay
 generalize K e.key=l at*
 generalize fB kv=rv at*
 obtain⟨er,en,ec,eh,ek,Iq,el,ev⟩:=e
 dsimp only[Ev.av,Ev.cs,stB,jI,List.length_cons]at hmay hs⊢
 refine K1.M 0x80000008ff Tryz.func96 10 ?_
 repeat' ((conv=>whnf);first|refine K1.w ?_|refine K1.u ?_|refine K1.P1 (hmay) rfl ?_|refine dI.done 0 rfl rfl ?_|refine dI.add 0 4 rfl rfl (by omega) (by omega) ?_|refine ZN.mk Dw ?_|refine DI.mk 0 2 _ rfl rfl ?_|refine dI.hdr dR (fJ dR _) 6 2 ⟨_,_,Tryz.func132,rfl,rfl⟩ rfl rfl (fun A c=>dI.Fe 1 [(0,_)] hs rfl ⟨rfl,trivial⟩ rfl rfl ?_)|refine K1.o (id:=9) [(0,none),(1,none),(2,none),(3,none),(4,none),(5,none),(6,some [5,3,1,0])] [(1,[0]),(2,[1,0]),(3,[1,0]),(6,[5,3,1,0])] ?_|refine K1.o (id:=10) [(0,none),(1,none),(2,none),(3,none),(4,none),(5,none),(6,none),(7,some [5,3,1,0])] [(1,[0]),(2,[1,0]),(3,[1,0]),(7,[5,3,1,0])] ?_|refine K1.z ?_|refine K1.y (fun _=> ?_) (fun _=> ?_)|fail)
 all_goals(conv=>whnf)
 exact⟨[(12,3)],rfl,rfl,⟨⟨_,rfl,au.st (by omega)⟩,⟨_,rfl,au.refl _⟩,⟨_,rfl,au.refl _⟩,trivial⟩,rfl,rfl,aj.refl _⟩
theorem Rn (l:List Ev) (n:Int) (e:Ev) (hm:eG e=0) (hl:l.length≤1000000000) (h0:0≤n) (h1:n≤1000000000000) (kv:List (ByteArray×List Ev)) (hn:0<l.length)
  (hs:aY Tryz.prog 132 [(0,jI l)] [.own 0,e.av] (.own 0) [(0,jI l)]):
  aY Tryz.prog 96 [(0,stB 1 (.own 1) n),(1,.mp jg [(e.key,some 2)] (fB kv)),(2,jI l)] [.box 0 0,e.av] (.v (.int .i64 0)) [(0,stB 1 (.own 1) n),(1,.mp jg [(e.key,some 2)] (fB kv)),(2,jI l)]:=by
 have hmay:=lH e
 rw[hm]at hmay
 generalize fB kv=rv at*
 obtain⟨er,en,ec,eh,ek,Iq,el,ev⟩:=e
 dsimp only[Ev.av,Ev.cs,stB,jI]at hmay hs⊢
 refine K1.M 0x80000008ff Tryz.func96 10 ?_
 repeat' ((conv=>whnf);first|refine K1.w ?_|refine K1.u ?_|refine K1.P1 (hmay) rfl ?_|refine dI.done 0 rfl rfl ?_|refine dI.add 0 4 rfl rfl (by omega) (by omega) ?_|refine ZN.mk Dw ?_|refine DI.mk 0 2 _ rfl rfl ?_|refine dI.hdr dR (fJ dR _) 6 2 ⟨_,_,Tryz.func132,rfl,rfl⟩ rfl rfl (fun A c=>dI.Fe 1 [(0,_)] hs rfl ⟨rfl,trivial⟩ rfl rfl ?_)|refine K1.o (id:=9) [(0,none),(1,none),(2,none),(3,none),(4,none),(5,none),(6,some [5,3,1,0])] [(1,[0]),(2,[1,0]),(3,[1,0]),(6,[5,3,1,0])] ?_|refine K1.o (id:=10) [(0,none),(1,none),(2,none),(3,none),(4,none),(5,none),(6,none),(7,some [5,3,1,0])] [(1,[0]),(2,[1,0]),(3,[1,0]),(7,[5,3,1,0])] ?_|refine K1.z ?_|refine K1.y (fun _=> ?_) (fun _=> ?_)|fail)
 all_goals(conv=>whnf)
 exact⟨[],rfl,rfl,⟨⟨_,rfl,au.st (by omega)⟩,⟨_,rfl,au.refl _⟩,⟨_,rfl,au.refl _⟩,trivial⟩,rfl,rfl,aj.refl _⟩
theorem Ph (l:List Ev) (n:Int) (e:Ev) (hm:eG e=0) (h0:0≤n) (h1:n≤1000000000000) (kv:List (ByteArray×List Ev)) (hn:l=[])
  (hs:aY Tryz.prog 132 [(0,jI l)] [.own 0,e.av] (.own 0) [(0,jI l)]):
  aY Tryz.prog 96 [(0,stB 1 (.own 1) n),(1,.mp jg [(e.key,some 2)] (fB kv)),(2,jI l)] [.box 0 0,e.av] (.v (.int .i64 0)) [(0,stB 1 (.own 1) n),(1,.mp jg [(e.key,some 3)] (fB kv)),(3,jI [])]:=by
 have hmay:=lH e
 rw[hm]at hmay
 subst hn
 generalize fB kv=rv at*
 obtain⟨er,en,ec,eh,ek,Iq,el,ev⟩:=e
 dsimp only[Ev.av,Ev.cs,stB,jI,List.length_nil]at hmay hs⊢
 refine K1.M 0x80000008ff Tryz.func96 10 ?_
 repeat' ((conv=>whnf);first|refine K1.w ?_|refine K1.u ?_|refine K1.P1 (hmay) rfl ?_|refine dI.done 0 rfl rfl ?_|refine dI.add 0 4 rfl rfl (by omega) (by omega) ?_|refine ZN.mk Dw ?_|refine DI.mk 0 2 _ rfl rfl ?_|refine dI.hdr dR (fJ dR _) 6 2 ⟨_,_,Tryz.func132,rfl,rfl⟩ rfl rfl (fun A c=>dI.Fe 1 [(0,_)] hs rfl ⟨rfl,trivial⟩ rfl rfl ?_)|refine K1.o (id:=9) [(0,none),(1,none),(2,none),(3,none),(4,none),(5,none),(6,some [5,3,1,0])] [(1,[0]),(2,[1,0]),(3,[1,0]),(6,[5,3,1,0])] ?_|refine K1.o (id:=10) [(0,none),(1,none),(2,none),(3,none),(4,none),(5,none),(6,none),(7,some [5,3,1,0])] [(1,[0]),(2,[1,0]),(3,[1,0]),(7,[5,3,1,0])] ?_|refine K1.z ?_|refine K1.y (fun _=> ?_) (fun _=> ?_)|fail)
 all_goals(conv=>whnf)
 first
   |exact⟨[(12,3)],rfl,rfl,⟨⟨_,rfl,au.st (by omega)⟩,⟨_,rfl,au.refl _⟩,⟨_,rfl,au.row rfl (fun m hm=>absurd hm (Nat.not_lt_zero m))⟩,trivial⟩,rfl,rfl,aj.refl _⟩
   |exact⟨[(13,3)],rfl,rfl,⟨⟨_,rfl,au.st (by omega)⟩,⟨_,rfl,au.refl _⟩,⟨_,rfl,au.row rfl (fun m hm=>absurd hm (Nat.not_lt_zero m))⟩,trivial⟩,rfl,rfl,aj.refl _⟩
   |exact⟨[(14,3)],rfl,rfl,⟨⟨_,rfl,au.st (by omega)⟩,⟨_,rfl,au.refl _⟩,⟨_,rfl,au.row rfl (fun m hm=>absurd hm (Nat.not_lt_zero m))⟩,trivial⟩,rfl,rfl,aj.refl _⟩
   |exact⟨[(15,3)],rfl,rfl,⟨⟨_,rfl,au.st (by omega)⟩,⟨_,rfl,au.refl _⟩,⟨_,rfl,au.row rfl (fun m hm=>absurd hm (Nat.not_lt_zero m))⟩,trivial⟩,rfl,rfl,aj.refl _⟩
theorem apply_nil (l:List Ev) (n:Int) (e:Ev) (hm:eG e=0) (hl:l.length≤1000000000) (h0:0≤n) (h1:n≤1000000000000) (kv:List (ByteArray×List Ev))
  (hs:aY Tryz.prog 132 [(0,jI l)] [.own 0,e.av] (.v (.slice none 0 0)) []):
  aY Tryz.prog 96 [(0,stB 1 (.own 1) n),(1,.mp jg [(e.key,some 2)] (fB kv)),(2,jI l)] [.box 0 0,e.av] (.v (.int .i64 0)) [(0,stB 1 (.own 1) (n-l.length)),(1,.mp jg [(e.key,some 3)] (fB kv)),(3,jI [])]:=by
 have hmay:=lH e
 rw[hm]at hmay
 generalize fB kv=rv at*
 obtain⟨er,en,ec,eh,ek,Iq,el,ev⟩:=e
 dsimp only[Ev.av,Ev.cs,stB,jI,List.length_nil]at hmay hs⊢
 refine K1.M 0x80000008ff Tryz.func96 10 ?_
 repeat' ((conv=>whnf);first|refine K1.w ?_|refine K1.u ?_|refine K1.P1 (hmay) rfl ?_|refine dI.done 0 rfl rfl ?_|refine dI.add 0 4 rfl rfl (by omega) (by omega) ?_|refine ZN.mk Dw ?_|refine DI.mk 0 2 _ rfl rfl ?_|refine dI.hdr dR (fJ dR _) 6 2 ⟨_,_,Tryz.func132,rfl,rfl⟩ rfl rfl (fun A c=>dI.Fe 1 [(0,_)] hs rfl ⟨rfl,trivial⟩ rfl rfl ?_)|refine K1.o (id:=9) [(0,none),(1,none),(2,none),(3,none),(4,none),(5,none),(6,some [5,3,1,0])] [(1,[0]),(2,[1,0]),(3,[1,0]),(6,[5,3,1,0])] ?_|refine K1.o (id:=10) [(0,none),(1,none),(2,none),(3,none),(4,none),(5,none),(6,none),(7,some [5,3,1,0])] [(1,[0]),(2,[1,0]),(3,[1,0]),(7,[5,3,1,0])] ?_|refine K1.z ?_|refine K1.y (fun _=> ?_) (fun _=> ?_)|fail)
 all_goals(conv=>whnf)
 first
   |exact⟨[(12,3)],rfl,rfl,⟨⟨_,rfl,au.st (by omega)⟩,⟨_,rfl,au.refl _⟩,⟨_,rfl,au.row rfl (fun m hm=>absurd hm (Nat.not_lt_zero m))⟩,trivial⟩,rfl,rfl,aj.refl _⟩
   |exact⟨[(13,3)],rfl,rfl,⟨⟨_,rfl,au.st (by omega)⟩,⟨_,rfl,au.refl _⟩,⟨_,rfl,au.row rfl (fun m hm=>absurd hm (Nat.not_lt_zero m))⟩,trivial⟩,rfl,rfl,aj.refl _⟩
   |exact⟨[(14,3)],rfl,rfl,⟨⟨_,rfl,au.st (by omega)⟩,⟨_,rfl,au.refl _⟩,⟨_,rfl,au.row rfl (fun m hm=>absurd hm (Nat.not_lt_zero m))⟩,trivial⟩,rfl,rfl,aj.refl _⟩
   |exact⟨[(15,3)],rfl,rfl,⟨⟨_,rfl,au.st (by omega)⟩,⟨_,rfl,au.refl _⟩,⟨_,rfl,au.row rfl (fun m hm=>absurd hm (Nat.not_lt_zero m))⟩,trivial⟩,rfl,rfl,aj.refl _⟩
end
section
open Go.RowKit
theorem VR (n:Int):aY Tryz.prog 131 [(0,.box 171 [.v (.int .u32 0),.v (.int .i32 1),.v (.int .u32 0),.v (.map none),.v (.int .i64 n)]),(1,.box 78 [.box 0 0])] [.box 1 0] (.dM [])
  [(0,.box 171 [.v (.int .u32 0),.v (.int .i32 1),.v (.int .u32 0),.own 2,.v (.int .i64 n)]),(1,.box 78 [.box 0 0]),(2,.mp jg [] [])]:=by
 refine K1.M 0x1 Tryz.func131 10 ?_
 repeat' ((conv=>whnf);first|refine K1.w ?_|refine K1.u ?_|refine ab3.mk [] List.nodup_nil ?_|refine K1.z ?_|refine K1.y (fun _=> ?_) (fun _=> ?_)|fail)
 all_goals(conv=>whnf)
 first
   |exact⟨[(10,2)],rfl,rfl,⟨⟨_,rfl,au.refl _⟩,⟨_,rfl,au.refl _⟩,⟨_,rfl,au.refl _⟩,trivial⟩,rfl,rfl,aj.refl _⟩
   |exact⟨[(11,2)],rfl,rfl,⟨⟨_,rfl,au.refl _⟩,⟨_,rfl,au.refl _⟩,⟨_,rfl,au.refl _⟩,trivial⟩,rfl,rfl,aj.refl _⟩
theorem acY (n:Int):aY Tryz.prog 130 [(0,stB 0 (.v (.map none)) n),(1,.box 78 [.box 0 0])] [.box 0 0,.fn 131 [.box 1 0]] (.dM []) [(0,stB 1 (.own 2) n),(1,.box 78 [.box 0 0]),(2,.mp jg [] [])]:=
 aa3 _ _ [.v (.int .u32 0),.v (.map none),.v (.int .i64 n)] [.v (.int .u32 0),.own 2,.v (.int .i64 n)] [.box 0 0] _ (VR n) rfl
theorem aa5 (n:Int) (e:Ev) (hm:eG e=0) (h0:0≤n) (h1:n≤1000000000000) (r:Ev) (rs:List Ev) (hr:rs.length≤1000000000)
  (hs:aY Tryz.prog 132 [(0,jI [])] [.own 0,e.av] (.own 1) [(1,jI (r::rs))]):
  aY Tryz.prog 96 [(0,stB 0 (.v (.map none)) n)] [.box 0 0,e.av] (.v (.int .i64 0)) [(0,stB 1 (.own 1) (n+(r::rs).length)),(1,.mp jg [(e.key,some 3)] (fB [])),(3,jI (r::rs))]:=by
 have hmay:=lH e
 rw[hm]at hmay
 have hdo:=acY n
 obtain⟨er,en,ec,eh,ek,Iq,el,ev⟩:=e
 dsimp only[Ev.av,Ev.cs,stB,jI,List.length_cons,List.length_nil,fB,List.map_nil]at hmay hs hdo⊢
 refine K1.M 0x80000008ff Tryz.func96 10 ?_
 repeat' ((conv=>whnf);first|refine K1.w ?_|refine K1.u ?_|refine K1.P1 (hmay) rfl ?_|refine dI.thn dR (fJ dR _) ⟨_,_,Tryz.func130,rfl,rfl⟩ (dI.Fe 2 [(0,_),(1,_)] hdo rfl ⟨rfl,rfl,trivial⟩ rfl rfl ⟨_,VE.foc (e:=42) (s:=12) (f:=dV []) (k:=Iq) 12 13 (by decide) rfl (by simp), ?_⟩)|refine dI.add 0 4 rfl rfl (by omega) (by omega) ?_|refine ZN.mk Dw ?_|refine DI.mk 0 13 _ rfl rfl ?_|refine dI.hdr dR (fJ dR _) 6 13 ⟨_,_,Tryz.func132,rfl,rfl⟩ rfl rfl (fun A c=>dI.Fe 1 [(0,_)] hs rfl ⟨rfl,trivial⟩ rfl rfl ?_)|refine K1.o (id:=9) [(0,none),(1,none),(2,none),(3,none),(4,none),(5,none),(6,some [5,3,1,0])] [(1,[0]),(2,[1,0]),(3,[1,0]),(6,[5,3,1,0])] ?_|refine K1.o (id:=10) [(0,none),(1,none),(2,none),(3,none),(4,none),(5,none),(6,none),(7,some [5,3,1,0])] [(1,[0]),(2,[1,0]),(3,[1,0]),(7,[5,3,1,0])] ?_|refine K1.z ?_|refine K1.y (fun _=> ?_) (fun _=> ?_)|fail)
 all_goals(conv=>whnf)
 first
   |exact⟨[(12,1),(14,3)],rfl,rfl,⟨⟨_,rfl,au.st (by omega)⟩,⟨_,rfl,au.refl _⟩,⟨_,rfl,au.row rfl (fun m hm=>rfl)⟩,trivial⟩,rfl,rfl,aj.refl _⟩
   |exact⟨[(12,1),(15,3)],rfl,rfl,⟨⟨_,rfl,au.st (by omega)⟩,⟨_,rfl,au.refl _⟩,⟨_,rfl,au.row rfl (fun m hm=>rfl)⟩,trivial⟩,rfl,rfl,aj.refl _⟩
   |exact⟨[(12,1),(16,3)],rfl,rfl,⟨⟨_,rfl,au.st (by omega)⟩,⟨_,rfl,au.refl _⟩,⟨_,rfl,au.row rfl (fun m hm=>rfl)⟩,trivial⟩,rfl,rfl,aj.refl _⟩
theorem Zh (n:Int) (e:Ev) (hm:eG e=0) (h0:0≤n) (h1:n≤1000000000000) 
  (hs:aY Tryz.prog 132 [(0,jI [])] [.own 0,e.av] (.own 0) [(0,jI [])]):
  aY Tryz.prog 96 [(0,stB 0 (.v (.map none)) n)] [.box 0 0,e.av] (.v (.int .i64 0)) [(0,stB 1 (.own 1) n),(1,.mp jg [(e.key,some 3)] (fB [])),(3,jI [])]:=by
 have hmay:=lH e
 rw[hm]at hmay
 have hdo:=acY n
 obtain⟨er,en,ec,eh,ek,Iq,el,ev⟩:=e
 dsimp only[Ev.av,Ev.cs,stB,jI,List.length_cons,List.length_nil,fB,List.map_nil]at hmay hs hdo⊢
 refine K1.M 0x80000008ff Tryz.func96 10 ?_
 repeat' ((conv=>whnf);first|refine K1.w ?_|refine K1.u ?_|refine K1.P1 (hmay) rfl ?_|refine dI.thn dR (fJ dR _) ⟨_,_,Tryz.func130,rfl,rfl⟩ (dI.Fe 2 [(0,_),(1,_)] hdo rfl ⟨rfl,rfl,trivial⟩ rfl rfl ⟨_,VE.foc (e:=42) (s:=12) (f:=dV []) (k:=Iq) 12 13 (by decide) rfl (by simp), ?_⟩)|refine dI.add 0 4 rfl rfl (by omega) (by omega) ?_|refine ZN.mk Dw ?_|refine DI.mk 0 13 _ rfl rfl ?_|refine dI.hdr dR (fJ dR _) 6 13 ⟨_,_,Tryz.func132,rfl,rfl⟩ rfl rfl (fun A c=>dI.Fe 1 [(0,_)] hs rfl ⟨rfl,trivial⟩ rfl rfl ?_)|refine K1.o (id:=9) [(0,none),(1,none),(2,none),(3,none),(4,none),(5,none),(6,some [5,3,1,0])] [(1,[0]),(2,[1,0]),(3,[1,0]),(6,[5,3,1,0])] ?_|refine K1.o (id:=10) [(0,none),(1,none),(2,none),(3,none),(4,none),(5,none),(6,none),(7,some [5,3,1,0])] [(1,[0]),(2,[1,0]),(3,[1,0]),(7,[5,3,1,0])] ?_|refine K1.z ?_|refine K1.y (fun _=> ?_) (fun _=> ?_)|fail)
 all_goals(conv=>whnf)
 first
   |exact⟨[(12,1),(14,3)],rfl,rfl,⟨⟨_,rfl,au.st (by omega)⟩,⟨_,rfl,au.refl _⟩,⟨_,rfl,au.row rfl (fun m hm=>absurd hm (Nat.not_lt_zero m))⟩,trivial⟩,rfl,rfl,aj.refl _⟩
   |exact⟨[(12,1),(15,3)],rfl,rfl,⟨⟨_,rfl,au.st (by omega)⟩,⟨_,rfl,au.refl _⟩,⟨_,rfl,au.row rfl (fun m hm=>absurd hm (Nat.not_lt_zero m))⟩,trivial⟩,rfl,rfl,aj.refl _⟩
   |exact⟨[(12,1),(16,3)],rfl,rfl,⟨⟨_,rfl,au.st (by omega)⟩,⟨_,rfl,au.refl _⟩,⟨_,rfl,au.row rfl (fun m hm=>absurd hm (Nat.not_lt_zero m))⟩,trivial⟩,rfl,rfl,aj.refl _⟩
theorem aa6 (n:Int) (e:Ev) (hm:eG e=0) (h0:0≤n) (h1:n≤1000000000000) 
  (hs:aY Tryz.prog 132 [(0,jI [])] [.own 0,e.av] (.v (.slice none 0 0)) []):
  aY Tryz.prog 96 [(0,stB 0 (.v (.map none)) n)] [.box 0 0,e.av] (.v (.int .i64 0)) [(0,stB 1 (.own 1) n),(1,.mp jg [(e.key,some 3)] (fB [])),(3,jI [])]:=by
 have hmay:=lH e
 rw[hm]at hmay
 have hdo:=acY n
 obtain⟨er,en,ec,eh,ek,Iq,el,ev⟩:=e
 dsimp only[Ev.av,Ev.cs,stB,jI,List.length_cons,List.length_nil,fB,List.map_nil]at hmay hs hdo⊢
 refine K1.M 0x80000008ff Tryz.func96 10 ?_
 repeat' ((conv=>whnf);first|refine K1.w ?_|refine K1.u ?_|refine K1.P1 (hmay) rfl ?_|refine dI.thn dR (fJ dR _) ⟨_,_,Tryz.func130,rfl,rfl⟩ (dI.Fe 2 [(0,_),(1,_)] hdo rfl ⟨rfl,rfl,trivial⟩ rfl rfl ⟨_,VE.foc (e:=42) (s:=12) (f:=dV []) (k:=Iq) 12 13 (by decide) rfl (by simp), ?_⟩)|refine dI.add 0 4 rfl rfl (by omega) (by omega) ?_|refine ZN.mk Dw ?_|refine DI.mk 0 13 _ rfl rfl ?_|refine dI.hdr dR (fJ dR _) 6 13 ⟨_,_,Tryz.func132,rfl,rfl⟩ rfl rfl (fun A c=>dI.Fe 1 [(0,_)] hs rfl ⟨rfl,trivial⟩ rfl rfl ?_)|refine K1.o (id:=9) [(0,none),(1,none),(2,none),(3,none),(4,none),(5,none),(6,some [5,3,1,0])] [(1,[0]),(2,[1,0]),(3,[1,0]),(6,[5,3,1,0])] ?_|refine K1.o (id:=10) [(0,none),(1,none),(2,none),(3,none),(4,none),(5,none),(6,none),(7,some [5,3,1,0])] [(1,[0]),(2,[1,0]),(3,[1,0]),(7,[5,3,1,0])] ?_|refine K1.z ?_|refine K1.y (fun _=> ?_) (fun _=> ?_)|fail)
 all_goals(conv=>whnf)
 first
   |exact⟨[(12,1),(14,3)],rfl,rfl,⟨⟨_,rfl,au.st (by omega)⟩,⟨_,rfl,au.refl _⟩,⟨_,rfl,au.row rfl (fun m hm=>absurd hm (Nat.not_lt_zero m))⟩,trivial⟩,rfl,rfl,aj.refl _⟩
   |exact⟨[(12,1),(15,3)],rfl,rfl,⟨⟨_,rfl,au.st (by omega)⟩,⟨_,rfl,au.refl _⟩,⟨_,rfl,au.row rfl (fun m hm=>absurd hm (Nat.not_lt_zero m))⟩,trivial⟩,rfl,rfl,aj.refl _⟩
   |exact⟨[(12,1),(16,3)],rfl,rfl,⟨⟨_,rfl,au.st (by omega)⟩,⟨_,rfl,au.refl _⟩,⟨_,rfl,au.row rfl (fun m hm=>absurd hm (Nat.not_lt_zero m))⟩,trivial⟩,rfl,rfl,aj.refl _⟩
end
section
open Go.RowKit
theorem VT (l:List Ev) (e:Ev):(kF l e).length≤l.length+1:=by
 have d: ∀k s,(qF k s e l).length≤l.length:=fun k s=>List.length_filter_le _ _
 unfold kF
 split
 · simp
 · split
   · exact Nat.le_trans (List.length_filter_le _ _) (Nat.le_trans (d _ _) (by omega))
   · split
     · split
       · have:=d 3 (wQ e);simp;exact this
       · omega
     · split
       · have:=d 4 (oQ e);omega
       · split
         · have:=d 4 (oQ e);simp;exact this
         · omega
theorem Zi {e:Ev} (h:eG e=0):e.key.size≤9223372036854775807:=by
 unfold eG at h
 split at h
 · omega
 · split at h
   · omega
   · split at h
     · omega
     · unfold jE at h
       split at h
       · omega
       · split at h
         · rename_i hk
           exact absurd h hk
         · rename_i hk
           have hk:keyE e.key=0:=Decidable.not_not.1 hk
           unfold keyE at hk
           split at hk
           · rename_i hh;omega
           · omega
theorem G7 (K:ByteArray→List Ev) (e:Ev):Ir K e e.key=kF (K e.key) e:=by simp[Ir]
theorem Md {K:ByteArray→List Ev} {e:Ev} {q:ByteArray} (h:q≠e.key):Ir K e q=K q:=by simp[Ir,h]
def Pj (K:ByteArray→List Ev) (n:Int) (e:Ev):Int:=n+((kF (K e.key) e).length-(K e.key).length)
theorem aa7 (K:ByteArray→List Ev) (n:Int) (m0:Nat) (e:Ev) (hm:eG e=0) (hl:(K e.key).length<1000000000) (h0:0≤n) (h1:n≤1000000000000):
  aY Tryz.prog 96 [(0,.obs (uS K n m0))] [.box 0 0,e.av] (.v (.int .i64 0)) [(0,.obs (uS (Ir K e) (Pj K n e) (m0+1)))]:=by
 have hks:=Zi hm
 have hW:=Zf (K e.key) e (Zg hm) (by omega)
 have hlen:=VT (K e.key) e
 refine aY.opn (ho:=[]) ⟨_,_,Tryz.func96,rfl,rfl⟩ (O8 K n m0 e.key) (fun y=> ?_) rfl
 cases y with
 | new h=>
   have hz:K e.key=[]:=h e.key
   unfold Pj
   rw[hz]at hW hlen⊢
   simp only[List.append_nil]
   have hcl: ∀ (l:List Ev) (m:Int),kF [] e=l→Closes [(0,stB 1 (.own 1) m),(1,.mp jg [(e.key,some 3)] (fB [])),(3,jI l)] 0 (uS (Ir K e) m (m0+1)):=fun l m hl'=>
    Bf (Ir K e) m _ 3 (by omega) e.key l [] (by simp) (by simp) (fun q hq=>by rw[Md hq,h q];rfl) (by rw[G7,hz,hl']) (by simp) (fun p hp=>by cases hp) hks
   cases hW with
   | own r rs he hs=>
     refine⟨_,hcl (r::rs) _ he,rfl,rfl, ?_⟩
     rw[he]at hlen⊢
     have:=aa5 n e hm h0 h1 r rs (by simp at hlen;simp[hlen]) hs
     simp only[List.length_nil,Int.natCast_zero,Int.sub_zero]at this⊢
     exact this
   | same he hs=>
     refine⟨_,hcl [] _ he,rfl,rfl, ?_⟩
     rw[he]
     have:=Zh n e hm h0 h1 hs
     rw[show n+((([]:List Ev).length:Int)-(([]:List Ev).length:Int))=n by simp]
     exact this
   | nil he hs=>
     refine⟨_,hcl [] _ he,rfl,rfl, ?_⟩
     rw[he]
     have:=aa6 n e hm h0 h1 hs
     rw[show n+((([]:List Ev).length:Int)-(([]:List Ev).length:Int))=n by simp]
     exact this
 | old kv hn hk he hmm hky=>
   simp only[List.append_nil]
   have hcl: ∀ (l:List Ev) (m:Int) (j:Nat),2≤j→kF (K e.key) e=l→Closes [(0,stB 1 (.own 1) m),(1,.mp jg [(e.key,some j)] (fB kv)),(j,jI l)] 0 (uS (Ir K e) m (m0+1)):=fun l m j hj hl'=>
    Bf (Ir K e) m _ j hj e.key l kv hn hk (fun q hq=>by rw[Md hq,he q hq]) (by rw[G7,hl']) (by omega) hky hks
   unfold Pj
   cases hW with
   | own r rs hq hs=>
     refine⟨_,hcl (r::rs) _ 3 (by omega) hq,rfl,rfl, ?_⟩
     rw[hq]at hlen⊢
     exact VQ K n e hm (by omega) h0 h1 kv r rs (by simp at hlen;omega) hs
   | same hq hs=>
     rw[hq,show n+(((K e.key).length:Int)-((K e.key).length:Int))=n by omega]
     by_cases hp:0<(K e.key).length
     · exact⟨_,hcl (K e.key) _ 2 (by omega) hq,rfl,rfl,Rn (K e.key) n e hm (by omega) h0 h1 kv hp hs⟩
     · have hp:K e.key=[]:=List.eq_nil_of_length_eq_zero (by omega)
       refine⟨_,hcl [] _ 3 (by omega) (hq.trans hp),rfl,rfl,Ph (K e.key) n e hm h0 h1 kv hp hs⟩
   | nil hq hs=>
     refine⟨_,hcl [] _ 3 (by omega) hq,rfl,rfl, ?_⟩
     have:=apply_nil (K e.key) n e hm (by omega) h0 h1 kv hs
     rw[hq,show n+((([]:List Ev).length:Int)-((K e.key).length:Int))=n-((K e.key).length:Int) by simp;omega]
     exact this
theorem adX:aY Tryz.prog 100 [] [] (.box 0 0) [(0,.obs (uS (fun _=>[]) 0 0))]:=by
 refine aY.cls (hs':=[(0,stB 0 (.v (.map none)) 0)]) (ho:=[]) (JQ _ 0 0 fun _=>rfl) ?_ rfl
 dsimp only[stB,List.append_nil]
 refine K1.M 0x1 Tryz.func100 10 ?_
 repeat' ((conv=>whnf);first|refine K1.w ?_|refine K1.u ?_|refine K1.z ?_|refine K1.y (fun _=> ?_) (fun _=> ?_)|fail)
 all_goals(conv=>whnf)
 exact⟨[(10,0)],rfl,rfl,⟨⟨_,rfl,au.refl _⟩,trivial⟩,rfl,rfl,aj.refl _⟩
theorem Iu (K:ByteArray→List Ev) (n:Int) (m:Nat) (y:abN K m):Closes (su K n m y) 0 (uS K n m):=by
 cases y with
 |new h=>exact JQ K n m h
 |old kv h=>exact Closes.pack (su K n m) (.old kv h) rfl fun X hok=>L8 (hok _ List.mem_cons_self)
end
end Go.Proofs.YtimhagicagdkfaaGreat
