/-
  Contracts of the walk:TkLawB,TkLawC,TkLawD,TkF.
-/
import Derived.Test.YtimhagicagdkfaaGreatNh13
import Derived.Test.YtimhagicagdkfaaGreatNh6
set_option maxHeartbeats 16000000
set_option maxRecDepth 100000
set_option linter.unusedVariables false
set_option linter.unusedSimpArgs false
namespace Go.Proofs.YtimhagicagdkfaaGreat
theorem drop_cons {bs t:List UInt8} {u:Nat} {b:UInt8} (h:bs.drop u=b::t):u<bs.length∧bs.getD u 0=b∧bs.drop (u+1)=t:=by
 have hlt:u<bs.length:=by
  rcases Nat.lt_or_ge u bs.length with h'|h'
  · exact h'
  · rw[List.drop_of_length_le h']at h;cases h
 refine⟨hlt, ?_, ?_⟩
 · rw[List.drop_eq_getElem_cons hlt]at h
   rw[List.getD_eq_getElem?_getD,List.getElem?_eq_getElem hlt]
   exact(List.cons.inj h).1
 · rw[List.drop_eq_getElem_cons hlt]at h
   exact(List.cons.inj h).2
theorem O9 {bs l t:List UInt8} {u:Nat} (h:bs.drop u=l++t):bs.drop (u+l.length)=t:=by
 rw[←List.drop_drop,h,List.drop_left]
theorem bU {bs t:List UInt8} {u:Nat} {b:UInt8} {lo hi:Int} (h:bs.drop u=b::t) (h1:lo≤(b.toNat:Int)) (h2:(b.toNat:Int)≤hi):fK bs lo hi (u,0)=((b.toNat:Int),(u+1,0))∧bs.drop (u+1)=t:=by
 obtain⟨h3,h4,h5⟩:=drop_cons h
 refine⟨?_,h5⟩
 unfold fK
 rw[if_neg (by simp),if_neg (by simpa using h3),h4,if_pos ⟨h1,h2⟩]
theorem aY {bs t:List UInt8} {u n:Nat} {lo hi:Int} (h:bs.drop u=ak n++t) (hn:n≤4294967296) (h1:lo≤(n:Int)) (h2:(n:Int)≤hi):eY bs lo hi (u,0)=((n:Int),(u+(ak n).length,0))∧bs.drop (u+(ak n).length)=t:=by
 refine⟨?_,O9 h⟩
 unfold eY
 simp only[h,uf n t hn]
 rw[if_neg (by simp),if_neg (by simp),if_pos ⟨h1,h2⟩]
theorem iD {bs t:List UInt8} {u:Nat} {s:ByteArray} {may:ByteArray→Int} (h:bs.drop u=s.data.toList++t) (h0:1≤s.size) (h1:may s=0):fU bs (s.size:Int) may (u,0)=(s,(u+s.size,0))∧bs.drop (u+s.size)=t:=by
 have hs:s.data.toList.length=s.size:=rfl
 have hc:I8 bs u s.size=s:=by
  unfold I8
  rw[h,←hs,List.take_left]
 have hl:s.size≤bs.length-u:=by
  have:=congrArg List.length h
  rw[List.length_drop,List.length_append]at this
  omega
 refine⟨?_,by have:=O9 h;rwa [hs]at this⟩
 unfold fU
 rw[if_neg (by simp),if_neg (by dsimp only;omega)]
 simp only[Int.toNat_natCast,hc,h1,if_true]
theorem fP {n:Int} (h0:0≤n) (h1:n≤255):((byteOf n).toNat:Int)=n:=by
 unfold byteOf
 rw[UInt8.toNat_ofNat',Nat.mod_eq_of_lt (by omega)]
 omega
theorem ug {s:ByteArray} (h:s.size≤255):((UInt8.ofNat s.size).toNat:Int)=s.size:=by
 rw[UInt8.toNat_ofNat',Nat.mod_eq_of_lt (by omega)]
theorem dS (n:Nat):iF (n:Int)=ak n:=by simp[iF]
theorem size_nil {s:ByteArray} (h:s.size=0):s=⟨#[]⟩:=by
 cases s with
 | mk d=>
   have:d= #[]:=Array.eq_empty_of_size_eq_zero h
   rw[this]
theorem VO (e:Ev) (h:eG e=0) (rest:List UInt8):dJ (aT e++rest) (0,0)=(e,((aT e).length,0)):=by
 have m:=yh h
 have g:=qI m.ed
 obtain⟨r,n,⟨c0,c1,c2,c3,c4⟩,hh,k,key,l,v⟩:=e
 obtain⟨r0,r4,n1,n2,h1,h2,a0,a1,a2,a3,a4,own,ed⟩:=m
 dsimp only[Ev.ed]at r0 r4 n1 n2 h1 h2 a0 a1 a2 a3 a4 g own
 obtain⟨g1,g2,g3,g4,g5,g6,g7⟩:=g
 clear ed h
 obtain⟨n,rfl⟩:=Int.eq_ofNat_of_zero_le (show 0≤n by omega)
 obtain⟨hh,rfl⟩:=Int.eq_ofNat_of_zero_le (show 0≤hh by omega)
 obtain⟨c0,rfl⟩:=Int.eq_ofNat_of_zero_le a0.1
 obtain⟨c1,rfl⟩:=Int.eq_ofNat_of_zero_le a1.1
 obtain⟨c2,rfl⟩:=Int.eq_ofNat_of_zero_le a2.1
 obtain⟨c3,rfl⟩:=Int.eq_ofNat_of_zero_le a3.1
 obtain⟨c4,rfl⟩:=Int.eq_ofNat_of_zero_le a4.1
 have hkey:keyE key=0:=by unfold keyE;rw[if_pos ⟨g3,g4,g5⟩]
 have bk:=fP (n:=k) (by omega) (by omega)
 have Jb:=ug (s:=key) (by omega)
 rcases(show r=0∨r=1∨r=2∨r=3∨r=4 by omega)with rfl|rfl|rfl|rfl|rfl
 · simp only[aW.get]at own;simp at own
   have br:((byteOf 0).toNat:Int)=0:=fP (by omega) (by omega)
   cases hl:dN k with
   | true=>
     obtain⟨x1,x2,x3,x4⟩:=g6 hl
     have bl:=fP (n:=l) (by omega) (by omega)
     have bv:=ug (s:=v) (by omega)
     have hval:fA v=0:=by unfold fA;rw[if_pos ⟨x3,x4⟩]
     generalize hbs:aT _++rest=bs
     generalize hlen:(aT _).length=len
     have d0:bs.drop 0=byteOf k::byteOf 0::(ak n++(ak c1++(ak c2++(ak c3++(ak c4++((ak hh++(UInt8.ofNat key.size::(key.data.toList++(byteOf l::UInt8.ofNat v.size::(v.data.toList++rest))))))))))):=by
      rw[←hbs];simp[aT,others,words,dS,hl]
     obtain⟨e1,d1⟩:=bU (lo:=1) (hi:=5) d0 (by omega) (by omega)
     obtain⟨e2,d2⟩:=bU (lo:=0) (hi:=4) d1 (by omega) (by omega)
     obtain⟨e3,d3⟩:=aY (lo:=1) (hi:=1048576) d2 (by omega) (by omega) (by omega)
     obtain⟨f1,d11⟩:=aY (lo:=0) (hi:=1048576) d3 (by omega) (by omega) (by omega)
     obtain⟨f2,d12⟩:=aY (lo:=0) (hi:=1048576) d11 (by omega) (by omega) (by omega)
     obtain⟨f3,d13⟩:=aY (lo:=0) (hi:=1048576) d12 (by omega) (by omega) (by omega)
     obtain⟨f4,RF⟩:=aY (lo:=0) (hi:=1048576) d13 (by omega) (by omega) (by omega)
     obtain⟨e5,d5⟩:=aY (lo:=1) (hi:=16777216) RF (by omega) (by omega) (by omega)
     obtain⟨e6,d6⟩:=bU (lo:=1) (hi:=8) d5 (by omega) (by omega)
     obtain⟨e7,d7⟩:=iD (may:=keyE) d6 g3 hkey
     obtain⟨e8,d8⟩:=bU (lo:=0) (hi:=1) d7 (by omega) (by omega)
     obtain⟨e9,d9⟩:=bU (lo:=1) (hi:=12) d8 (by omega) (by omega)
     obtain⟨e10,d10⟩:=iD (may:=fA) d9 x3 hval
     rw[bk]at e1;rw[br]at e2;rw[Jb]at e6;rw[bl]at e8;rw[bv]at e9
     simp[dJ,jc,kF,kP,aW.sK,aW.put,e1,e2,e3,f1,f2,f3,f4,e5,e6,e7,e8,e9,e10,hl]
     refine⟨?_, ?_⟩
     · simp[own]
     · rw[←hlen];simp[aT,others,words,dS,hl];omega
   | false=>
     obtain⟨x1,x2⟩:=g7 hl
     have hv0:v=⟨#[]⟩:=size_nil x2
     generalize hbs:aT _++rest=bs
     generalize hlen:(aT _).length=len
     have d0:bs.drop 0=byteOf k::byteOf 0::(ak n++(ak c1++(ak c2++(ak c3++(ak c4++((ak hh++(UInt8.ofNat key.size::(key.data.toList++(rest)))))))))):=by
      rw[←hbs];simp[aT,others,words,dS,hl]
     obtain⟨e1,d1⟩:=bU (lo:=1) (hi:=5) d0 (by omega) (by omega)
     obtain⟨e2,d2⟩:=bU (lo:=0) (hi:=4) d1 (by omega) (by omega)
     obtain⟨e3,d3⟩:=aY (lo:=1) (hi:=1048576) d2 (by omega) (by omega) (by omega)
     obtain⟨f1,d11⟩:=aY (lo:=0) (hi:=1048576) d3 (by omega) (by omega) (by omega)
     obtain⟨f2,d12⟩:=aY (lo:=0) (hi:=1048576) d11 (by omega) (by omega) (by omega)
     obtain⟨f3,d13⟩:=aY (lo:=0) (hi:=1048576) d12 (by omega) (by omega) (by omega)
     obtain⟨f4,RF⟩:=aY (lo:=0) (hi:=1048576) d13 (by omega) (by omega) (by omega)
     obtain⟨e5,d5⟩:=aY (lo:=1) (hi:=16777216) RF (by omega) (by omega) (by omega)
     obtain⟨e6,d6⟩:=bU (lo:=1) (hi:=8) d5 (by omega) (by omega)
     obtain⟨e7,d7⟩:=iD (may:=keyE) d6 g3 hkey
     rw[bk]at e1;rw[br]at e2;rw[Jb]at e6
     simp[dJ,jc,kF,kP,aW.sK,aW.put,e1,e2,e3,f1,f2,f3,f4,e5,e6,e7,hl]
     refine⟨?_, ?_⟩
     · simp[own,x1,hv0]
     · rw[←hlen];simp[aT,others,words,dS,hl];omega
 · simp only[aW.get]at own;simp at own
   have br:((byteOf 1).toNat:Int)=1:=fP (by omega) (by omega)
   cases hl:dN k with
   | true=>
     obtain⟨x1,x2,x3,x4⟩:=g6 hl
     have bl:=fP (n:=l) (by omega) (by omega)
     have bv:=ug (s:=v) (by omega)
     have hval:fA v=0:=by unfold fA;rw[if_pos ⟨x3,x4⟩]
     generalize hbs:aT _++rest=bs
     generalize hlen:(aT _).length=len
     have d0:bs.drop 0=byteOf k::byteOf 1::(ak n++(ak c0++(ak c2++(ak c3++(ak c4++((ak hh++(UInt8.ofNat key.size::(key.data.toList++(byteOf l::UInt8.ofNat v.size::(v.data.toList++rest))))))))))):=by
      rw[←hbs];simp[aT,others,words,dS,hl]
     obtain⟨e1,d1⟩:=bU (lo:=1) (hi:=5) d0 (by omega) (by omega)
     obtain⟨e2,d2⟩:=bU (lo:=0) (hi:=4) d1 (by omega) (by omega)
     obtain⟨e3,d3⟩:=aY (lo:=1) (hi:=1048576) d2 (by omega) (by omega) (by omega)
     obtain⟨f0,d10⟩:=aY (lo:=0) (hi:=1048576) d3 (by omega) (by omega) (by omega)
     obtain⟨f2,d12⟩:=aY (lo:=0) (hi:=1048576) d10 (by omega) (by omega) (by omega)
     obtain⟨f3,d13⟩:=aY (lo:=0) (hi:=1048576) d12 (by omega) (by omega) (by omega)
     obtain⟨f4,RF⟩:=aY (lo:=0) (hi:=1048576) d13 (by omega) (by omega) (by omega)
     obtain⟨e5,d5⟩:=aY (lo:=1) (hi:=16777216) RF (by omega) (by omega) (by omega)
     obtain⟨e6,d6⟩:=bU (lo:=1) (hi:=8) d5 (by omega) (by omega)
     obtain⟨e7,d7⟩:=iD (may:=keyE) d6 g3 hkey
     obtain⟨e8,d8⟩:=bU (lo:=0) (hi:=1) d7 (by omega) (by omega)
     obtain⟨e9,d9⟩:=bU (lo:=1) (hi:=12) d8 (by omega) (by omega)
     obtain⟨e10,d10⟩:=iD (may:=fA) d9 x3 hval
     rw[bk]at e1;rw[br]at e2;rw[Jb]at e6;rw[bl]at e8;rw[bv]at e9
     simp[dJ,jc,kF,kP,aW.sK,aW.put,e1,e2,e3,f0,f2,f3,f4,e5,e6,e7,e8,e9,e10,hl]
     refine⟨?_, ?_⟩
     · simp[own]
     · rw[←hlen];simp[aT,others,words,dS,hl];omega
   | false=>
     obtain⟨x1,x2⟩:=g7 hl
     have hv0:v=⟨#[]⟩:=size_nil x2
     generalize hbs:aT _++rest=bs
     generalize hlen:(aT _).length=len
     have d0:bs.drop 0=byteOf k::byteOf 1::(ak n++(ak c0++(ak c2++(ak c3++(ak c4++((ak hh++(UInt8.ofNat key.size::(key.data.toList++(rest)))))))))):=by
      rw[←hbs];simp[aT,others,words,dS,hl]
     obtain⟨e1,d1⟩:=bU (lo:=1) (hi:=5) d0 (by omega) (by omega)
     obtain⟨e2,d2⟩:=bU (lo:=0) (hi:=4) d1 (by omega) (by omega)
     obtain⟨e3,d3⟩:=aY (lo:=1) (hi:=1048576) d2 (by omega) (by omega) (by omega)
     obtain⟨f0,d10⟩:=aY (lo:=0) (hi:=1048576) d3 (by omega) (by omega) (by omega)
     obtain⟨f2,d12⟩:=aY (lo:=0) (hi:=1048576) d10 (by omega) (by omega) (by omega)
     obtain⟨f3,d13⟩:=aY (lo:=0) (hi:=1048576) d12 (by omega) (by omega) (by omega)
     obtain⟨f4,RF⟩:=aY (lo:=0) (hi:=1048576) d13 (by omega) (by omega) (by omega)
     obtain⟨e5,d5⟩:=aY (lo:=1) (hi:=16777216) RF (by omega) (by omega) (by omega)
     obtain⟨e6,d6⟩:=bU (lo:=1) (hi:=8) d5 (by omega) (by omega)
     obtain⟨e7,d7⟩:=iD (may:=keyE) d6 g3 hkey
     rw[bk]at e1;rw[br]at e2;rw[Jb]at e6
     simp[dJ,jc,kF,kP,aW.sK,aW.put,e1,e2,e3,f0,f2,f3,f4,e5,e6,e7,hl]
     refine⟨?_, ?_⟩
     · simp[own,x1,hv0]
     · rw[←hlen];simp[aT,others,words,dS,hl];omega
 · simp only[aW.get]at own;simp at own
   have br:((byteOf 2).toNat:Int)=2:=fP (by omega) (by omega)
   cases hl:dN k with
   | true=>
     obtain⟨x1,x2,x3,x4⟩:=g6 hl
     have bl:=fP (n:=l) (by omega) (by omega)
     have bv:=ug (s:=v) (by omega)
     have hval:fA v=0:=by unfold fA;rw[if_pos ⟨x3,x4⟩]
     generalize hbs:aT _++rest=bs
     generalize hlen:(aT _).length=len
     have d0:bs.drop 0=byteOf k::byteOf 2::(ak n++(ak c0++(ak c1++(ak c3++(ak c4++((ak hh++(UInt8.ofNat key.size::(key.data.toList++(byteOf l::UInt8.ofNat v.size::(v.data.toList++rest))))))))))):=by
      rw[←hbs];simp[aT,others,words,dS,hl]
     obtain⟨e1,d1⟩:=bU (lo:=1) (hi:=5) d0 (by omega) (by omega)
     obtain⟨e2,d2⟩:=bU (lo:=0) (hi:=4) d1 (by omega) (by omega)
     obtain⟨e3,d3⟩:=aY (lo:=1) (hi:=1048576) d2 (by omega) (by omega) (by omega)
     obtain⟨f0,d10⟩:=aY (lo:=0) (hi:=1048576) d3 (by omega) (by omega) (by omega)
     obtain⟨f1,d11⟩:=aY (lo:=0) (hi:=1048576) d10 (by omega) (by omega) (by omega)
     obtain⟨f3,d13⟩:=aY (lo:=0) (hi:=1048576) d11 (by omega) (by omega) (by omega)
     obtain⟨f4,RF⟩:=aY (lo:=0) (hi:=1048576) d13 (by omega) (by omega) (by omega)
     obtain⟨e5,d5⟩:=aY (lo:=1) (hi:=16777216) RF (by omega) (by omega) (by omega)
     obtain⟨e6,d6⟩:=bU (lo:=1) (hi:=8) d5 (by omega) (by omega)
     obtain⟨e7,d7⟩:=iD (may:=keyE) d6 g3 hkey
     obtain⟨e8,d8⟩:=bU (lo:=0) (hi:=1) d7 (by omega) (by omega)
     obtain⟨e9,d9⟩:=bU (lo:=1) (hi:=12) d8 (by omega) (by omega)
     obtain⟨e10,d10⟩:=iD (may:=fA) d9 x3 hval
     rw[bk]at e1;rw[br]at e2;rw[Jb]at e6;rw[bl]at e8;rw[bv]at e9
     simp[dJ,jc,kF,kP,aW.sK,aW.put,e1,e2,e3,f0,f1,f3,f4,e5,e6,e7,e8,e9,e10,hl]
     refine⟨?_, ?_⟩
     · simp[own]
     · rw[←hlen];simp[aT,others,words,dS,hl];omega
   | false=>
     obtain⟨x1,x2⟩:=g7 hl
     have hv0:v=⟨#[]⟩:=size_nil x2
     generalize hbs:aT _++rest=bs
     generalize hlen:(aT _).length=len
     have d0:bs.drop 0=byteOf k::byteOf 2::(ak n++(ak c0++(ak c1++(ak c3++(ak c4++((ak hh++(UInt8.ofNat key.size::(key.data.toList++(rest)))))))))):=by
      rw[←hbs];simp[aT,others,words,dS,hl]
     obtain⟨e1,d1⟩:=bU (lo:=1) (hi:=5) d0 (by omega) (by omega)
     obtain⟨e2,d2⟩:=bU (lo:=0) (hi:=4) d1 (by omega) (by omega)
     obtain⟨e3,d3⟩:=aY (lo:=1) (hi:=1048576) d2 (by omega) (by omega) (by omega)
     obtain⟨f0,d10⟩:=aY (lo:=0) (hi:=1048576) d3 (by omega) (by omega) (by omega)
     obtain⟨f1,d11⟩:=aY (lo:=0) (hi:=1048576) d10 (by omega) (by omega) (by omega)
     obtain⟨f3,d13⟩:=aY (lo:=0) (hi:=1048576) d11 (by omega) (by omega) (by omega)
     obtain⟨f4,RF⟩:=aY (lo:=0) (hi:=1048576) d13 (by omega) (by omega) (by omega)
     obtain⟨e5,d5⟩:=aY (lo:=1) (hi:=16777216) RF (by omega) (by omega) (by omega)
     obtain⟨e6,d6⟩:=bU (lo:=1) (hi:=8) d5 (by omega) (by omega)
     obtain⟨e7,d7⟩:=iD (may:=keyE) d6 g3 hkey
     rw[bk]at e1;rw[br]at e2;rw[Jb]at e6
     simp[dJ,jc,kF,kP,aW.sK,aW.put,e1,e2,e3,f0,f1,f3,f4,e5,e6,e7,hl]
     refine⟨?_, ?_⟩
     · simp[own,x1,hv0]
     · rw[←hlen];simp[aT,others,words,dS,hl];omega
 · simp only[aW.get]at own;simp at own
   have br:((byteOf 3).toNat:Int)=3:=fP (by omega) (by omega)
   cases hl:dN k with
   | true=>
     obtain⟨x1,x2,x3,x4⟩:=g6 hl
     have bl:=fP (n:=l) (by omega) (by omega)
     have bv:=ug (s:=v) (by omega)
     have hval:fA v=0:=by unfold fA;rw[if_pos ⟨x3,x4⟩]
     generalize hbs:aT _++rest=bs
     generalize hlen:(aT _).length=len
     have d0:bs.drop 0=byteOf k::byteOf 3::(ak n++(ak c0++(ak c1++(ak c2++(ak c4++((ak hh++(UInt8.ofNat key.size::(key.data.toList++(byteOf l::UInt8.ofNat v.size::(v.data.toList++rest))))))))))):=by
      rw[←hbs];simp[aT,others,words,dS,hl]
     obtain⟨e1,d1⟩:=bU (lo:=1) (hi:=5) d0 (by omega) (by omega)
     obtain⟨e2,d2⟩:=bU (lo:=0) (hi:=4) d1 (by omega) (by omega)
     obtain⟨e3,d3⟩:=aY (lo:=1) (hi:=1048576) d2 (by omega) (by omega) (by omega)
     obtain⟨f0,d10⟩:=aY (lo:=0) (hi:=1048576) d3 (by omega) (by omega) (by omega)
     obtain⟨f1,d11⟩:=aY (lo:=0) (hi:=1048576) d10 (by omega) (by omega) (by omega)
     obtain⟨f2,d12⟩:=aY (lo:=0) (hi:=1048576) d11 (by omega) (by omega) (by omega)
     obtain⟨f4,RF⟩:=aY (lo:=0) (hi:=1048576) d12 (by omega) (by omega) (by omega)
     obtain⟨e5,d5⟩:=aY (lo:=1) (hi:=16777216) RF (by omega) (by omega) (by omega)
     obtain⟨e6,d6⟩:=bU (lo:=1) (hi:=8) d5 (by omega) (by omega)
     obtain⟨e7,d7⟩:=iD (may:=keyE) d6 g3 hkey
     obtain⟨e8,d8⟩:=bU (lo:=0) (hi:=1) d7 (by omega) (by omega)
     obtain⟨e9,d9⟩:=bU (lo:=1) (hi:=12) d8 (by omega) (by omega)
     obtain⟨e10,d10⟩:=iD (may:=fA) d9 x3 hval
     rw[bk]at e1;rw[br]at e2;rw[Jb]at e6;rw[bl]at e8;rw[bv]at e9
     simp[dJ,jc,kF,kP,aW.sK,aW.put,e1,e2,e3,f0,f1,f2,f4,e5,e6,e7,e8,e9,e10,hl]
     refine⟨?_, ?_⟩
     · simp[own]
     · rw[←hlen];simp[aT,others,words,dS,hl];omega
   | false=>
     obtain⟨x1,x2⟩:=g7 hl
     have hv0:v=⟨#[]⟩:=size_nil x2
     generalize hbs:aT _++rest=bs
     generalize hlen:(aT _).length=len
     have d0:bs.drop 0=byteOf k::byteOf 3::(ak n++(ak c0++(ak c1++(ak c2++(ak c4++((ak hh++(UInt8.ofNat key.size::(key.data.toList++(rest)))))))))):=by
      rw[←hbs];simp[aT,others,words,dS,hl]
     obtain⟨e1,d1⟩:=bU (lo:=1) (hi:=5) d0 (by omega) (by omega)
     obtain⟨e2,d2⟩:=bU (lo:=0) (hi:=4) d1 (by omega) (by omega)
     obtain⟨e3,d3⟩:=aY (lo:=1) (hi:=1048576) d2 (by omega) (by omega) (by omega)
     obtain⟨f0,d10⟩:=aY (lo:=0) (hi:=1048576) d3 (by omega) (by omega) (by omega)
     obtain⟨f1,d11⟩:=aY (lo:=0) (hi:=1048576) d10 (by omega) (by omega) (by omega)
     obtain⟨f2,d12⟩:=aY (lo:=0) (hi:=1048576) d11 (by omega) (by omega) (by omega)
     obtain⟨f4,RF⟩:=aY (lo:=0) (hi:=1048576) d12 (by omega) (by omega) (by omega)
     obtain⟨e5,d5⟩:=aY (lo:=1) (hi:=16777216) RF (by omega) (by omega) (by omega)
     obtain⟨e6,d6⟩:=bU (lo:=1) (hi:=8) d5 (by omega) (by omega)
     obtain⟨e7,d7⟩:=iD (may:=keyE) d6 g3 hkey
     rw[bk]at e1;rw[br]at e2;rw[Jb]at e6
     simp[dJ,jc,kF,kP,aW.sK,aW.put,e1,e2,e3,f0,f1,f2,f4,e5,e6,e7,hl]
     refine⟨?_, ?_⟩
     · simp[own,x1,hv0]
     · rw[←hlen];simp[aT,others,words,dS,hl];omega
 · simp only[aW.get]at own;simp at own
   have br:((byteOf 4).toNat:Int)=4:=fP (by omega) (by omega)
   cases hl:dN k with
   | true=>
     obtain⟨x1,x2,x3,x4⟩:=g6 hl
     have bl:=fP (n:=l) (by omega) (by omega)
     have bv:=ug (s:=v) (by omega)
     have hval:fA v=0:=by unfold fA;rw[if_pos ⟨x3,x4⟩]
     generalize hbs:aT _++rest=bs
     generalize hlen:(aT _).length=len
     have d0:bs.drop 0=byteOf k::byteOf 4::(ak n++(ak c0++(ak c1++(ak c2++(ak c3++((ak hh++(UInt8.ofNat key.size::(key.data.toList++(byteOf l::UInt8.ofNat v.size::(v.data.toList++rest))))))))))):=by
      rw[←hbs];simp[aT,others,words,dS,hl]
     obtain⟨e1,d1⟩:=bU (lo:=1) (hi:=5) d0 (by omega) (by omega)
     obtain⟨e2,d2⟩:=bU (lo:=0) (hi:=4) d1 (by omega) (by omega)
     obtain⟨e3,d3⟩:=aY (lo:=1) (hi:=1048576) d2 (by omega) (by omega) (by omega)
     obtain⟨f0,d10⟩:=aY (lo:=0) (hi:=1048576) d3 (by omega) (by omega) (by omega)
     obtain⟨f1,d11⟩:=aY (lo:=0) (hi:=1048576) d10 (by omega) (by omega) (by omega)
     obtain⟨f2,d12⟩:=aY (lo:=0) (hi:=1048576) d11 (by omega) (by omega) (by omega)
     obtain⟨f3,d13⟩:=aY (lo:=0) (hi:=1048576) d12 (by omega) (by omega) (by omega)
     obtain⟨e5,d5⟩:=aY (lo:=1) (hi:=16777216) d13 (by omega) (by omega) (by omega)
     obtain⟨e6,d6⟩:=bU (lo:=1) (hi:=8) d5 (by omega) (by omega)
     obtain⟨e7,d7⟩:=iD (may:=keyE) d6 g3 hkey
     obtain⟨e8,d8⟩:=bU (lo:=0) (hi:=1) d7 (by omega) (by omega)
     obtain⟨e9,d9⟩:=bU (lo:=1) (hi:=12) d8 (by omega) (by omega)
     obtain⟨e10,d10⟩:=iD (may:=fA) d9 x3 hval
     rw[bk]at e1;rw[br]at e2;rw[Jb]at e6;rw[bl]at e8;rw[bv]at e9
     simp[dJ,jc,kF,kP,aW.sK,aW.put,e1,e2,e3,f0,f1,f2,f3,e5,e6,e7,e8,e9,e10,hl]
     refine⟨?_, ?_⟩
     · simp[own]
     · rw[←hlen];simp[aT,others,words,dS,hl];omega
   | false=>
     obtain⟨x1,x2⟩:=g7 hl
     have hv0:v=⟨#[]⟩:=size_nil x2
     generalize hbs:aT _++rest=bs
     generalize hlen:(aT _).length=len
     have d0:bs.drop 0=byteOf k::byteOf 4::(ak n++(ak c0++(ak c1++(ak c2++(ak c3++((ak hh++(UInt8.ofNat key.size::(key.data.toList++(rest)))))))))):=by
      rw[←hbs];simp[aT,others,words,dS,hl]
     obtain⟨e1,d1⟩:=bU (lo:=1) (hi:=5) d0 (by omega) (by omega)
     obtain⟨e2,d2⟩:=bU (lo:=0) (hi:=4) d1 (by omega) (by omega)
     obtain⟨e3,d3⟩:=aY (lo:=1) (hi:=1048576) d2 (by omega) (by omega) (by omega)
     obtain⟨f0,d10⟩:=aY (lo:=0) (hi:=1048576) d3 (by omega) (by omega) (by omega)
     obtain⟨f1,d11⟩:=aY (lo:=0) (hi:=1048576) d10 (by omega) (by omega) (by omega)
     obtain⟨f2,d12⟩:=aY (lo:=0) (hi:=1048576) d11 (by omega) (by omega) (by omega)
     obtain⟨f3,d13⟩:=aY (lo:=0) (hi:=1048576) d12 (by omega) (by omega) (by omega)
     obtain⟨e5,d5⟩:=aY (lo:=1) (hi:=16777216) d13 (by omega) (by omega) (by omega)
     obtain⟨e6,d6⟩:=bU (lo:=1) (hi:=8) d5 (by omega) (by omega)
     obtain⟨e7,d7⟩:=iD (may:=keyE) d6 g3 hkey
     rw[bk]at e1;rw[br]at e2;rw[Jb]at e6
     simp[dJ,jc,kF,kP,aW.sK,aW.put,e1,e2,e3,f0,f1,f2,f3,e5,e6,e7,hl]
     refine⟨?_, ?_⟩
     · simp[own,x1,hv0]
     · rw[←hlen];simp[aT,others,words,dS,hl];omega
theorem dH {bs:List UInt8} {lo hi c:Int} {s s':Sq} (h:fK bs lo hi s=(c,s')) (h0:s'.2=0):s.2=0∧lo≤c∧c≤hi∧0≤c∧c≤255∧s'.1≤bs.length∧bs.drop s.1=byteOf c::bs.drop s'.1:=by
 unfold fK at h
 split at h
 · rename_i h1;cases h;exact absurd h0 h1
 · rename_i h1
   split at h
   · cases h;cases h0
   · rename_i h2
     split at h
     · rename_i h3
       cases h
       have hb:=UInt8.toNat_lt (bs.getD s.1 0)
       refine⟨by simpa using h1,h3.1,h3.2,by omega,by omega,by dsimp only;omega, ?_⟩
       have hlt:s.1<bs.length:=by omega
       rw[List.drop_eq_getElem_cons hlt]
       congr 1
       apply acj
       have:=fP (n:=((bs.getD s.1 0).toNat:Int)) (by omega) (by omega)
       have e:bs.getD s.1 0=bs[s.1]:=by rw[List.getD_eq_getElem?_getD,List.getElem?_eq_getElem hlt];rfl
       rw[e]at this⊢
       omega
     · cases h;cases h0
theorem bG {bs:List UInt8} {lo hi c:Int} {s s':Sq} (h:eY bs lo hi s=(c,s')) (h0:s'.2=0) (hs:s.1≤bs.length):s.2=0∧lo≤c∧c≤hi∧0≤c∧s'.1≤bs.length∧bs.drop s.1=iF c++bs.drop s'.1:=by
 unfold eY at h
 split at h
 · rename_i h1;cases h;exact absurd h0 h1
 · rename_i h1
   split at h
   · rename_i h2;cases h;exact absurd h0 h2
   · rename_i h2
     split at h
     · rename_i h3
       cases h
       have h2':(dG (bs.drop s.1)).2.2=0:=by simpa using h2
       obtain⟨k1,k2,k3⟩:=Zb (l:=bs.drop s.1) (m:=(dG (bs.drop s.1)).1) (k:=(dG (bs.drop s.1)).2.1) (by rw[←h2'])
       rw[List.length_drop]at k2
       refine⟨by simpa using h1,h3.1,h3.2,by omega,by dsimp only;omega, ?_⟩
       have e:iF (((dG (bs.drop s.1)).1:Nat):Int)=ak (dG (bs.drop s.1)).1:=dS _
       rw[e,←k3,←List.drop_drop,List.take_append_drop]
     · cases h;cases h0
theorem je {bs:List UInt8} {sz:Int} {may:ByteArray→Int} {c:ByteArray} {s s':Sq} (h:fU bs sz may s=(c,s')) (h0:s'.2=0) (hs:s.1≤bs.length) (hz:0≤sz):s.2=0∧(c.size:Int)=sz∧may c=0∧s'.1≤bs.length∧bs.drop s.1=c.data.toList++bs.drop s'.1:=by
 unfold fU at h
 split at h
 · rename_i h1;cases h;exact absurd h0 h1
 · rename_i h1
   split at h
   · cases h;cases h0
   · rename_i h2
     cases h
     dsimp only at h0
     have h3:may (I8 bs s.1 sz.toNat)=0:=by
      split at h0
      · assumption
      · cases h0
     refine⟨by simpa using h1, ?_,h3,by dsimp only;omega, ?_⟩
     · show((I8 bs s.1 sz.toNat).data.size:Int)=sz
       simp only[I8,List.size_toArray,List.length_take,List.length_drop]
       omega
     · simp only[I8]
       rw[←List.drop_drop,List.take_append_drop]
theorem wS {k:Int} (h:dN k=false):k=1∨k=2:=by
 simp only[dN,Bool.and_eq_false_iff,bne_eq_false_iff_eq]at h
 exact h
theorem lW {s:ByteArray} (h:keyE s=0):1≤s.size∧s.size≤8∧wI s=true:=by
 unfold keyE at h
 split at h
 · assumption
 · cases h
theorem jf (s:ByteArray) {c:Int} (h:(s.size:Int)=c):byteOf c::s.data.toList=words s:=by
 subst h
 simp[words,byteOf]
theorem pz {e:Ed} (h1:1≤e.k∧e.k≤5) (h2:keyE e.key=0) (h3:e.k=1∨e.k=2) (h4:e.l=0) (h5:e.v.size=0):jJ e=0:=by
 unfold jJ
 rw[if_neg (by omega),if_neg (by simp[h2]),if_pos h3,if_neg (by simp[h4]),if_neg (by simp[h5])]
theorem qN {e:Ed} (h1:1≤e.k∧e.k≤5) (h2:keyE e.key=0) (h3:dN e.k=true) (h4:0≤e.l∧e.l<2) (h5:fA e.v=0):jJ e=0:=by
 have hk: ¬ (e.k=1∨e.k=2):=by
  simp only[dN,Bool.and_eq_true,bne_iff_ne,ne_eq]at h3
  omega
 have hlab:l7 e.l=0:=by unfold l7;rw[if_pos h4]
 unfold jJ
 rw[if_neg (by omega),if_neg (by simp[h2]),if_neg hk,if_neg (by simp[hlab]),h5]
theorem gQ {bs:List UInt8} {lo hi c:Int} {s s':Sq} (h:fK bs lo hi s=(c,s')) (h0:s'.2=0):s.2=0:=(dH h h0).1
theorem bZ {bs:List UInt8} {lo hi c:Int} {s s':Sq} (h:eY bs lo hi s=(c,s')) (h0:s'.2=0):s.2=0:=by
 unfold eY at h
 split at h
 · rename_i h1;cases h;exact absurd h0 h1
 · rename_i h1;simpa using h1
theorem ku {bs:List UInt8} {sz:Int} {may:ByteArray→Int} {c:ByteArray} {s s':Sq} (h:fU bs sz may s=(c,s')) (h0:s'.2=0):s.2=0:=by
 unfold fU at h
 split at h
 · rename_i h1;cases h;exact absurd h0 h1
 · rename_i h1;simpa using h1
theorem oO {bs l:List UInt8} {m:Nat} (_hm:m≤bs.length) (h:bs=l++bs.drop m):bs.take m=l:=by
 have h1:bs=bs.take m++bs.drop m:=(List.take_append_drop m bs).symm
 exact List.append_cancel_right (h1.symm.trans h)
theorem Zc (bs:List UInt8) {e:Ev} {m:Nat} (h:dJ bs (0,0)=(e,(m,0))):eG e=0∧m≤bs.length∧bs.take m=aT e:=by
 obtain⟨⟨k,s1⟩,e1⟩: ∃p,fK bs 1 5 (0,0)=p:=⟨_,rfl⟩
 obtain⟨⟨R,s2⟩,e2⟩: ∃p,fK bs 0 4 s1=p:=⟨_,rfl⟩
 obtain⟨⟨N,s3⟩,e3⟩: ∃p,eY bs 1 1048576 s2=p:=⟨_,rfl⟩
 have hR0:=GH (bs:=bs) (lo:=0) (hi:=4) (s:=s1)
 rw[e2]at hR0
 rcases(show R=0∨R=1∨R=2∨R=3∨R=4 by simp only at hR0;omega)with rfl|rfl|rfl|rfl|rfl
 · obtain⟨⟨c1,t2⟩,f1⟩: ∃p,eY bs 0 1048576 s3=p:=⟨_,rfl⟩
   obtain⟨⟨c2,t3⟩,f2⟩: ∃p,eY bs 0 1048576 t2=p:=⟨_,rfl⟩
   obtain⟨⟨c3,t4⟩,f3⟩: ∃p,eY bs 0 1048576 t3=p:=⟨_,rfl⟩
   obtain⟨⟨c4,t5⟩,f4⟩: ∃p,eY bs 0 1048576 t4=p:=⟨_,rfl⟩
   obtain⟨⟨H,s5⟩,e5⟩: ∃p,eY bs 1 16777216 t5=p:=⟨_,rfl⟩
   obtain⟨⟨ks,s6⟩,e6⟩: ∃p,fK bs 1 8 s5=p:=⟨_,rfl⟩
   obtain⟨⟨key,s7⟩,e7⟩: ∃p,fU bs ks keyE s6=p:=⟨_,rfl⟩
   obtain⟨⟨l,s8⟩,e8⟩: ∃p,fK bs 0 1 s7=p:=⟨_,rfl⟩
   obtain⟨⟨vs,s9⟩,e9⟩: ∃p,fK bs 1 12 s8=p:=⟨_,rfl⟩
   obtain⟨⟨v,s10⟩,e10⟩: ∃p,fU bs vs fA s9=p:=⟨_,rfl⟩
   have hF:dJ bs (0,0)=if dN k then(⟨0,N,⟨N-1,c1,c2,c3,c4⟩,H,k,key,l,v⟩,s10)else(⟨0,N,⟨N-1,c1,c2,c3,c4⟩,H,k,key,0,⟨#[]⟩⟩,s7):=by
    simp[dJ,jc,kF,kP,aW.sK,aW.put,e1,e2,e3,f1,f2,f3,f4,e5,e6,e7,e8,e9,e10]
   rw[hF]at h
   cases hl:dN k with
   | false=>
     rw[hl]at h
     simp only[Bool.false_eq_true,if_false,Prod.mk.injEq]at h
     obtain⟨rfl,hs⟩:=h
     have y7:s7.2=0:=by rw[hs]
     have hm:s7.1=m:=by rw[hs]
     have y6:=(ku e7 y7)
     have y5:=(gQ e6 y6)
     have yp:=(bZ e5 y5)
     have Hf:=(bZ f4 yp)
     have Hg:=(bZ f3 Hf)
     have Hl:=(bZ f2 Hg)
     have y3:=(bZ f1 Hl)
     have y2:=(bZ e3 y3)
     have y1:=(gQ e2 y2)
     obtain⟨_,k1,k2,_,_,u1,b1⟩:=dH e1 y1
     obtain⟨_,r1,r2,_,_,u2,b2⟩:=dH e2 y2
     obtain⟨_,n1,n2,_,u3,b3⟩:=bG e3 y3 u2
     obtain⟨_,m1,mm1,_,v1,g1⟩:=bG f1 Hl u3
     obtain⟨_,m2,mm2,_,v2,g2⟩:=bG f2 Hg v1
     obtain⟨_,m3,mm3,_,v3,g3⟩:=bG f3 Hf v2
     obtain⟨_,m4,mm4,_,v4,g4⟩:=bG f4 yp v3
     obtain⟨_,h1,h2,_,u5,b5⟩:=bG e5 y5 v4
     obtain⟨_,k3,k4,k5,_,u6,b6⟩:=dH e6 y6
     obtain⟨_,q1,q2,u7,b7⟩:=je e7 y7 u6 k5
     obtain⟨q3,q4,q5⟩:=lW q2
     refine⟨oM ⟨by dsimp only;omega,by dsimp only;omega,n1,n2,h1,h2,by dsimp only;omega,by dsimp only;omega,by dsimp only;omega,by dsimp only;omega,by dsimp only;omega,by simp[aW.get], ?_⟩,by rw[←hm];exact u7, ?_⟩
     · exact pz (e:=⟨k,key,0,⟨#[]⟩⟩) ⟨by dsimp only;omega,by dsimp only;omega⟩ q2 (wS hl) rfl rfl
     · refine oO (by rw[←hm];exact u7) (l:=aT _) ?_
       rw[←hm]
       have b0:bs=bs.drop (0,(0:Int)).1:=rfl
       conv=>lhs;rw[b0,b1,b2,b3,g1,g2,g3,g4,b5,b6,b7]
       simp[aT,others,hl,←jf key q1]
   | true=>
     rw[hl]at h
     simp only[if_true,Prod.mk.injEq]at h
     obtain⟨rfl,hs⟩:=h
     have Us:s10.2=0:=by rw[hs]
     have hm:s10.1=m:=by rw[hs]
     have y9:=(ku e10 Us)
     have y8:=(gQ e9 y9)
     have y7:=(gQ e8 y8)
     have y6:=(ku e7 y7)
     have y5:=(gQ e6 y6)
     have yp:=(bZ e5 y5)
     have Hf:=(bZ f4 yp)
     have Hg:=(bZ f3 Hf)
     have Hl:=(bZ f2 Hg)
     have y3:=(bZ f1 Hl)
     have y2:=(bZ e3 y3)
     have y1:=(gQ e2 y2)
     obtain⟨_,k1,k2,_,_,u1,b1⟩:=dH e1 y1
     obtain⟨_,r1,r2,_,_,u2,b2⟩:=dH e2 y2
     obtain⟨_,n1,n2,_,u3,b3⟩:=bG e3 y3 u2
     obtain⟨_,m1,mm1,_,v1,g1⟩:=bG f1 Hl u3
     obtain⟨_,m2,mm2,_,v2,g2⟩:=bG f2 Hg v1
     obtain⟨_,m3,mm3,_,v3,g3⟩:=bG f3 Hf v2
     obtain⟨_,m4,mm4,_,v4,g4⟩:=bG f4 yp v3
     obtain⟨_,h1,h2,_,u5,b5⟩:=bG e5 y5 v4
     obtain⟨_,k3,k4,k5,_,u6,b6⟩:=dH e6 y6
     obtain⟨_,q1,q2,u7,b7⟩:=je e7 y7 u6 k5
     obtain⟨q3,q4,q5⟩:=lW q2
     obtain⟨_,l1,l2,_,_,u8,b8⟩:=dH e8 y8
     obtain⟨_,l3,l4,l5,_,u9,b9⟩:=dH e9 y9
     obtain⟨_,p1,p2,u10,b10⟩:=je e10 Us u9 l5
     refine⟨oM ⟨by dsimp only;omega,by dsimp only;omega,n1,n2,h1,h2,by dsimp only;omega,by dsimp only;omega,by dsimp only;omega,by dsimp only;omega,by dsimp only;omega,by simp[aW.get], ?_⟩,by rw[←hm];exact u10, ?_⟩
     · exact qN (e:=⟨k,key,l,v⟩) ⟨by dsimp only;omega,by dsimp only;omega⟩ q2 hl (by dsimp only;omega) p2
     · refine oO (by rw[←hm];exact u10) (l:=aT _) ?_
       rw[←hm]
       have b0:bs=bs.drop (0,(0:Int)).1:=rfl
       conv=>lhs;rw[b0,b1,b2,b3,g1,g2,g3,g4,b5,b6,b7,b8,b9,b10]
       simp[aT,others,hl,←jf key q1,←jf v p1]
 · obtain⟨⟨c0,t1⟩,f0⟩: ∃p,eY bs 0 1048576 s3=p:=⟨_,rfl⟩
   obtain⟨⟨c2,t3⟩,f2⟩: ∃p,eY bs 0 1048576 t1=p:=⟨_,rfl⟩
   obtain⟨⟨c3,t4⟩,f3⟩: ∃p,eY bs 0 1048576 t3=p:=⟨_,rfl⟩
   obtain⟨⟨c4,t5⟩,f4⟩: ∃p,eY bs 0 1048576 t4=p:=⟨_,rfl⟩
   obtain⟨⟨H,s5⟩,e5⟩: ∃p,eY bs 1 16777216 t5=p:=⟨_,rfl⟩
   obtain⟨⟨ks,s6⟩,e6⟩: ∃p,fK bs 1 8 s5=p:=⟨_,rfl⟩
   obtain⟨⟨key,s7⟩,e7⟩: ∃p,fU bs ks keyE s6=p:=⟨_,rfl⟩
   obtain⟨⟨l,s8⟩,e8⟩: ∃p,fK bs 0 1 s7=p:=⟨_,rfl⟩
   obtain⟨⟨vs,s9⟩,e9⟩: ∃p,fK bs 1 12 s8=p:=⟨_,rfl⟩
   obtain⟨⟨v,s10⟩,e10⟩: ∃p,fU bs vs fA s9=p:=⟨_,rfl⟩
   have hF:dJ bs (0,0)=if dN k then(⟨1,N,⟨c0,N-1,c2,c3,c4⟩,H,k,key,l,v⟩,s10)else(⟨1,N,⟨c0,N-1,c2,c3,c4⟩,H,k,key,0,⟨#[]⟩⟩,s7):=by
    simp[dJ,jc,kF,kP,aW.sK,aW.put,e1,e2,e3,f0,f2,f3,f4,e5,e6,e7,e8,e9,e10]
   rw[hF]at h
   cases hl:dN k with
   | false=>
     rw[hl]at h
     simp only[Bool.false_eq_true,if_false,Prod.mk.injEq]at h
     obtain⟨rfl,hs⟩:=h
     have y7:s7.2=0:=by rw[hs]
     have hm:s7.1=m:=by rw[hs]
     have y6:=(ku e7 y7)
     have y5:=(gQ e6 y6)
     have yp:=(bZ e5 y5)
     have Hf:=(bZ f4 yp)
     have Hg:=(bZ f3 Hf)
     have Hl:=(bZ f2 Hg)
     have y3:=(bZ f0 Hl)
     have y2:=(bZ e3 y3)
     have y1:=(gQ e2 y2)
     obtain⟨_,k1,k2,_,_,u1,b1⟩:=dH e1 y1
     obtain⟨_,r1,r2,_,_,u2,b2⟩:=dH e2 y2
     obtain⟨_,n1,n2,_,u3,b3⟩:=bG e3 y3 u2
     obtain⟨_,m0,mm0,_,v0,g0⟩:=bG f0 Hl u3
     obtain⟨_,m2,mm2,_,v2,g2⟩:=bG f2 Hg v0
     obtain⟨_,m3,mm3,_,v3,g3⟩:=bG f3 Hf v2
     obtain⟨_,m4,mm4,_,v4,g4⟩:=bG f4 yp v3
     obtain⟨_,h1,h2,_,u5,b5⟩:=bG e5 y5 v4
     obtain⟨_,k3,k4,k5,_,u6,b6⟩:=dH e6 y6
     obtain⟨_,q1,q2,u7,b7⟩:=je e7 y7 u6 k5
     obtain⟨q3,q4,q5⟩:=lW q2
     refine⟨oM ⟨by dsimp only;omega,by dsimp only;omega,n1,n2,h1,h2,by dsimp only;omega,by dsimp only;omega,by dsimp only;omega,by dsimp only;omega,by dsimp only;omega,by simp[aW.get], ?_⟩,by rw[←hm];exact u7, ?_⟩
     · exact pz (e:=⟨k,key,0,⟨#[]⟩⟩) ⟨by dsimp only;omega,by dsimp only;omega⟩ q2 (wS hl) rfl rfl
     · refine oO (by rw[←hm];exact u7) (l:=aT _) ?_
       rw[←hm]
       have b0:bs=bs.drop (0,(0:Int)).1:=rfl
       conv=>lhs;rw[b0,b1,b2,b3,g0,g2,g3,g4,b5,b6,b7]
       simp[aT,others,hl,←jf key q1]
   | true=>
     rw[hl]at h
     simp only[if_true,Prod.mk.injEq]at h
     obtain⟨rfl,hs⟩:=h
     have Us:s10.2=0:=by rw[hs]
     have hm:s10.1=m:=by rw[hs]
     have y9:=(ku e10 Us)
     have y8:=(gQ e9 y9)
     have y7:=(gQ e8 y8)
     have y6:=(ku e7 y7)
     have y5:=(gQ e6 y6)
     have yp:=(bZ e5 y5)
     have Hf:=(bZ f4 yp)
     have Hg:=(bZ f3 Hf)
     have Hl:=(bZ f2 Hg)
     have y3:=(bZ f0 Hl)
     have y2:=(bZ e3 y3)
     have y1:=(gQ e2 y2)
     obtain⟨_,k1,k2,_,_,u1,b1⟩:=dH e1 y1
     obtain⟨_,r1,r2,_,_,u2,b2⟩:=dH e2 y2
     obtain⟨_,n1,n2,_,u3,b3⟩:=bG e3 y3 u2
     obtain⟨_,m0,mm0,_,v0,g0⟩:=bG f0 Hl u3
     obtain⟨_,m2,mm2,_,v2,g2⟩:=bG f2 Hg v0
     obtain⟨_,m3,mm3,_,v3,g3⟩:=bG f3 Hf v2
     obtain⟨_,m4,mm4,_,v4,g4⟩:=bG f4 yp v3
     obtain⟨_,h1,h2,_,u5,b5⟩:=bG e5 y5 v4
     obtain⟨_,k3,k4,k5,_,u6,b6⟩:=dH e6 y6
     obtain⟨_,q1,q2,u7,b7⟩:=je e7 y7 u6 k5
     obtain⟨q3,q4,q5⟩:=lW q2
     obtain⟨_,l1,l2,_,_,u8,b8⟩:=dH e8 y8
     obtain⟨_,l3,l4,l5,_,u9,b9⟩:=dH e9 y9
     obtain⟨_,p1,p2,u10,b10⟩:=je e10 Us u9 l5
     refine⟨oM ⟨by dsimp only;omega,by dsimp only;omega,n1,n2,h1,h2,by dsimp only;omega,by dsimp only;omega,by dsimp only;omega,by dsimp only;omega,by dsimp only;omega,by simp[aW.get], ?_⟩,by rw[←hm];exact u10, ?_⟩
     · exact qN (e:=⟨k,key,l,v⟩) ⟨by dsimp only;omega,by dsimp only;omega⟩ q2 hl (by dsimp only;omega) p2
     · refine oO (by rw[←hm];exact u10) (l:=aT _) ?_
       rw[←hm]
       have b0:bs=bs.drop (0,(0:Int)).1:=rfl
       conv=>lhs;rw[b0,b1,b2,b3,g0,g2,g3,g4,b5,b6,b7,b8,b9,b10]
       simp[aT,others,hl,←jf key q1,←jf v p1]
 · obtain⟨⟨c0,t1⟩,f0⟩: ∃p,eY bs 0 1048576 s3=p:=⟨_,rfl⟩
   obtain⟨⟨c1,t2⟩,f1⟩: ∃p,eY bs 0 1048576 t1=p:=⟨_,rfl⟩
   obtain⟨⟨c3,t4⟩,f3⟩: ∃p,eY bs 0 1048576 t2=p:=⟨_,rfl⟩
   obtain⟨⟨c4,t5⟩,f4⟩: ∃p,eY bs 0 1048576 t4=p:=⟨_,rfl⟩
   obtain⟨⟨H,s5⟩,e5⟩: ∃p,eY bs 1 16777216 t5=p:=⟨_,rfl⟩
   obtain⟨⟨ks,s6⟩,e6⟩: ∃p,fK bs 1 8 s5=p:=⟨_,rfl⟩
   obtain⟨⟨key,s7⟩,e7⟩: ∃p,fU bs ks keyE s6=p:=⟨_,rfl⟩
   obtain⟨⟨l,s8⟩,e8⟩: ∃p,fK bs 0 1 s7=p:=⟨_,rfl⟩
   obtain⟨⟨vs,s9⟩,e9⟩: ∃p,fK bs 1 12 s8=p:=⟨_,rfl⟩
   obtain⟨⟨v,s10⟩,e10⟩: ∃p,fU bs vs fA s9=p:=⟨_,rfl⟩
   have hF:dJ bs (0,0)=if dN k then(⟨2,N,⟨c0,c1,N-1,c3,c4⟩,H,k,key,l,v⟩,s10)else(⟨2,N,⟨c0,c1,N-1,c3,c4⟩,H,k,key,0,⟨#[]⟩⟩,s7):=by
    simp[dJ,jc,kF,kP,aW.sK,aW.put,e1,e2,e3,f0,f1,f3,f4,e5,e6,e7,e8,e9,e10]
   rw[hF]at h
   cases hl:dN k with
   | false=>
     rw[hl]at h
     simp only[Bool.false_eq_true,if_false,Prod.mk.injEq]at h
     obtain⟨rfl,hs⟩:=h
     have y7:s7.2=0:=by rw[hs]
     have hm:s7.1=m:=by rw[hs]
     have y6:=(ku e7 y7)
     have y5:=(gQ e6 y6)
     have yp:=(bZ e5 y5)
     have Hf:=(bZ f4 yp)
     have Hg:=(bZ f3 Hf)
     have Pg:=(bZ f1 Hg)
     have y3:=(bZ f0 Pg)
     have y2:=(bZ e3 y3)
     have y1:=(gQ e2 y2)
     obtain⟨_,k1,k2,_,_,u1,b1⟩:=dH e1 y1
     obtain⟨_,r1,r2,_,_,u2,b2⟩:=dH e2 y2
     obtain⟨_,n1,n2,_,u3,b3⟩:=bG e3 y3 u2
     obtain⟨_,m0,mm0,_,v0,g0⟩:=bG f0 Pg u3
     obtain⟨_,m1,mm1,_,v1,g1⟩:=bG f1 Hg v0
     obtain⟨_,m3,mm3,_,v3,g3⟩:=bG f3 Hf v1
     obtain⟨_,m4,mm4,_,v4,g4⟩:=bG f4 yp v3
     obtain⟨_,h1,h2,_,u5,b5⟩:=bG e5 y5 v4
     obtain⟨_,k3,k4,k5,_,u6,b6⟩:=dH e6 y6
     obtain⟨_,q1,q2,u7,b7⟩:=je e7 y7 u6 k5
     obtain⟨q3,q4,q5⟩:=lW q2
     refine⟨oM ⟨by dsimp only;omega,by dsimp only;omega,n1,n2,h1,h2,by dsimp only;omega,by dsimp only;omega,by dsimp only;omega,by dsimp only;omega,by dsimp only;omega,by simp[aW.get], ?_⟩,by rw[←hm];exact u7, ?_⟩
     · exact pz (e:=⟨k,key,0,⟨#[]⟩⟩) ⟨by dsimp only;omega,by dsimp only;omega⟩ q2 (wS hl) rfl rfl
     · refine oO (by rw[←hm];exact u7) (l:=aT _) ?_
       rw[←hm]
       have b0:bs=bs.drop (0,(0:Int)).1:=rfl
       conv=>lhs;rw[b0,b1,b2,b3,g0,g1,g3,g4,b5,b6,b7]
       simp[aT,others,hl,←jf key q1]
   | true=>
     rw[hl]at h
     simp only[if_true,Prod.mk.injEq]at h
     obtain⟨rfl,hs⟩:=h
     have Us:s10.2=0:=by rw[hs]
     have hm:s10.1=m:=by rw[hs]
     have y9:=(ku e10 Us)
     have y8:=(gQ e9 y9)
     have y7:=(gQ e8 y8)
     have y6:=(ku e7 y7)
     have y5:=(gQ e6 y6)
     have yp:=(bZ e5 y5)
     have Hf:=(bZ f4 yp)
     have Hg:=(bZ f3 Hf)
     have Pg:=(bZ f1 Hg)
     have y3:=(bZ f0 Pg)
     have y2:=(bZ e3 y3)
     have y1:=(gQ e2 y2)
     obtain⟨_,k1,k2,_,_,u1,b1⟩:=dH e1 y1
     obtain⟨_,r1,r2,_,_,u2,b2⟩:=dH e2 y2
     obtain⟨_,n1,n2,_,u3,b3⟩:=bG e3 y3 u2
     obtain⟨_,m0,mm0,_,v0,g0⟩:=bG f0 Pg u3
     obtain⟨_,m1,mm1,_,v1,g1⟩:=bG f1 Hg v0
     obtain⟨_,m3,mm3,_,v3,g3⟩:=bG f3 Hf v1
     obtain⟨_,m4,mm4,_,v4,g4⟩:=bG f4 yp v3
     obtain⟨_,h1,h2,_,u5,b5⟩:=bG e5 y5 v4
     obtain⟨_,k3,k4,k5,_,u6,b6⟩:=dH e6 y6
     obtain⟨_,q1,q2,u7,b7⟩:=je e7 y7 u6 k5
     obtain⟨q3,q4,q5⟩:=lW q2
     obtain⟨_,l1,l2,_,_,u8,b8⟩:=dH e8 y8
     obtain⟨_,l3,l4,l5,_,u9,b9⟩:=dH e9 y9
     obtain⟨_,p1,p2,u10,b10⟩:=je e10 Us u9 l5
     refine⟨oM ⟨by dsimp only;omega,by dsimp only;omega,n1,n2,h1,h2,by dsimp only;omega,by dsimp only;omega,by dsimp only;omega,by dsimp only;omega,by dsimp only;omega,by simp[aW.get], ?_⟩,by rw[←hm];exact u10, ?_⟩
     · exact qN (e:=⟨k,key,l,v⟩) ⟨by dsimp only;omega,by dsimp only;omega⟩ q2 hl (by dsimp only;omega) p2
     · refine oO (by rw[←hm];exact u10) (l:=aT _) ?_
       rw[←hm]
       have b0:bs=bs.drop (0,(0:Int)).1:=rfl
       conv=>lhs;rw[b0,b1,b2,b3,g0,g1,g3,g4,b5,b6,b7,b8,b9,b10]
       simp[aT,others,hl,←jf key q1,←jf v p1]
 · obtain⟨⟨c0,t1⟩,f0⟩: ∃p,eY bs 0 1048576 s3=p:=⟨_,rfl⟩
   obtain⟨⟨c1,t2⟩,f1⟩: ∃p,eY bs 0 1048576 t1=p:=⟨_,rfl⟩
   obtain⟨⟨c2,t3⟩,f2⟩: ∃p,eY bs 0 1048576 t2=p:=⟨_,rfl⟩
   obtain⟨⟨c4,t5⟩,f4⟩: ∃p,eY bs 0 1048576 t3=p:=⟨_,rfl⟩
   obtain⟨⟨H,s5⟩,e5⟩: ∃p,eY bs 1 16777216 t5=p:=⟨_,rfl⟩
   obtain⟨⟨ks,s6⟩,e6⟩: ∃p,fK bs 1 8 s5=p:=⟨_,rfl⟩
   obtain⟨⟨key,s7⟩,e7⟩: ∃p,fU bs ks keyE s6=p:=⟨_,rfl⟩
   obtain⟨⟨l,s8⟩,e8⟩: ∃p,fK bs 0 1 s7=p:=⟨_,rfl⟩
   obtain⟨⟨vs,s9⟩,e9⟩: ∃p,fK bs 1 12 s8=p:=⟨_,rfl⟩
   obtain⟨⟨v,s10⟩,e10⟩: ∃p,fU bs vs fA s9=p:=⟨_,rfl⟩
   have hF:dJ bs (0,0)=if dN k then(⟨3,N,⟨c0,c1,c2,N-1,c4⟩,H,k,key,l,v⟩,s10)else(⟨3,N,⟨c0,c1,c2,N-1,c4⟩,H,k,key,0,⟨#[]⟩⟩,s7):=by
    simp[dJ,jc,kF,kP,aW.sK,aW.put,e1,e2,e3,f0,f1,f2,f4,e5,e6,e7,e8,e9,e10]
   rw[hF]at h
   cases hl:dN k with
   | false=>
     rw[hl]at h
     simp only[Bool.false_eq_true,if_false,Prod.mk.injEq]at h
     obtain⟨rfl,hs⟩:=h
     have y7:s7.2=0:=by rw[hs]
     have hm:s7.1=m:=by rw[hs]
     have y6:=(ku e7 y7)
     have y5:=(gQ e6 y6)
     have yp:=(bZ e5 y5)
     have Hf:=(bZ f4 yp)
     have Hl:=(bZ f2 Hf)
     have Pg:=(bZ f1 Hl)
     have y3:=(bZ f0 Pg)
     have y2:=(bZ e3 y3)
     have y1:=(gQ e2 y2)
     obtain⟨_,k1,k2,_,_,u1,b1⟩:=dH e1 y1
     obtain⟨_,r1,r2,_,_,u2,b2⟩:=dH e2 y2
     obtain⟨_,n1,n2,_,u3,b3⟩:=bG e3 y3 u2
     obtain⟨_,m0,mm0,_,v0,g0⟩:=bG f0 Pg u3
     obtain⟨_,m1,mm1,_,v1,g1⟩:=bG f1 Hl v0
     obtain⟨_,m2,mm2,_,v2,g2⟩:=bG f2 Hf v1
     obtain⟨_,m4,mm4,_,v4,g4⟩:=bG f4 yp v2
     obtain⟨_,h1,h2,_,u5,b5⟩:=bG e5 y5 v4
     obtain⟨_,k3,k4,k5,_,u6,b6⟩:=dH e6 y6
     obtain⟨_,q1,q2,u7,b7⟩:=je e7 y7 u6 k5
     obtain⟨q3,q4,q5⟩:=lW q2
     refine⟨oM ⟨by dsimp only;omega,by dsimp only;omega,n1,n2,h1,h2,by dsimp only;omega,by dsimp only;omega,by dsimp only;omega,by dsimp only;omega,by dsimp only;omega,by simp[aW.get], ?_⟩,by rw[←hm];exact u7, ?_⟩
     · exact pz (e:=⟨k,key,0,⟨#[]⟩⟩) ⟨by dsimp only;omega,by dsimp only;omega⟩ q2 (wS hl) rfl rfl
     · refine oO (by rw[←hm];exact u7) (l:=aT _) ?_
       rw[←hm]
       have b0:bs=bs.drop (0,(0:Int)).1:=rfl
       conv=>lhs;rw[b0,b1,b2,b3,g0,g1,g2,g4,b5,b6,b7]
       simp[aT,others,hl,←jf key q1]
   | true=>
     rw[hl]at h
     simp only[if_true,Prod.mk.injEq]at h
     obtain⟨rfl,hs⟩:=h
     have Us:s10.2=0:=by rw[hs]
     have hm:s10.1=m:=by rw[hs]
     have y9:=(ku e10 Us)
     have y8:=(gQ e9 y9)
     have y7:=(gQ e8 y8)
     have y6:=(ku e7 y7)
     have y5:=(gQ e6 y6)
     have yp:=(bZ e5 y5)
     have Hf:=(bZ f4 yp)
     have Hl:=(bZ f2 Hf)
     have Pg:=(bZ f1 Hl)
     have y3:=(bZ f0 Pg)
     have y2:=(bZ e3 y3)
     have y1:=(gQ e2 y2)
     obtain⟨_,k1,k2,_,_,u1,b1⟩:=dH e1 y1
     obtain⟨_,r1,r2,_,_,u2,b2⟩:=dH e2 y2
     obtain⟨_,n1,n2,_,u3,b3⟩:=bG e3 y3 u2
     obtain⟨_,m0,mm0,_,v0,g0⟩:=bG f0 Pg u3
     obtain⟨_,m1,mm1,_,v1,g1⟩:=bG f1 Hl v0
     obtain⟨_,m2,mm2,_,v2,g2⟩:=bG f2 Hf v1
     obtain⟨_,m4,mm4,_,v4,g4⟩:=bG f4 yp v2
     obtain⟨_,h1,h2,_,u5,b5⟩:=bG e5 y5 v4
     obtain⟨_,k3,k4,k5,_,u6,b6⟩:=dH e6 y6
     obtain⟨_,q1,q2,u7,b7⟩:=je e7 y7 u6 k5
     obtain⟨q3,q4,q5⟩:=lW q2
     obtain⟨_,l1,l2,_,_,u8,b8⟩:=dH e8 y8
     obtain⟨_,l3,l4,l5,_,u9,b9⟩:=dH e9 y9
     obtain⟨_,p1,p2,u10,b10⟩:=je e10 Us u9 l5
     refine⟨oM ⟨by dsimp only;omega,by dsimp only;omega,n1,n2,h1,h2,by dsimp only;omega,by dsimp only;omega,by dsimp only;omega,by dsimp only;omega,by dsimp only;omega,by simp[aW.get], ?_⟩,by rw[←hm];exact u10, ?_⟩
     · exact qN (e:=⟨k,key,l,v⟩) ⟨by dsimp only;omega,by dsimp only;omega⟩ q2 hl (by dsimp only;omega) p2
     · refine oO (by rw[←hm];exact u10) (l:=aT _) ?_
       rw[←hm]
       have b0:bs=bs.drop (0,(0:Int)).1:=rfl
       conv=>lhs;rw[b0,b1,b2,b3,g0,g1,g2,g4,b5,b6,b7,b8,b9,b10]
       simp[aT,others,hl,←jf key q1,←jf v p1]
 · obtain⟨⟨c0,t1⟩,f0⟩: ∃p,eY bs 0 1048576 s3=p:=⟨_,rfl⟩
   obtain⟨⟨c1,t2⟩,f1⟩: ∃p,eY bs 0 1048576 t1=p:=⟨_,rfl⟩
   obtain⟨⟨c2,t3⟩,f2⟩: ∃p,eY bs 0 1048576 t2=p:=⟨_,rfl⟩
   obtain⟨⟨c3,t4⟩,f3⟩: ∃p,eY bs 0 1048576 t3=p:=⟨_,rfl⟩
   obtain⟨⟨H,s5⟩,e5⟩: ∃p,eY bs 1 16777216 t4=p:=⟨_,rfl⟩
   obtain⟨⟨ks,s6⟩,e6⟩: ∃p,fK bs 1 8 s5=p:=⟨_,rfl⟩
   obtain⟨⟨key,s7⟩,e7⟩: ∃p,fU bs ks keyE s6=p:=⟨_,rfl⟩
   obtain⟨⟨l,s8⟩,e8⟩: ∃p,fK bs 0 1 s7=p:=⟨_,rfl⟩
   obtain⟨⟨vs,s9⟩,e9⟩: ∃p,fK bs 1 12 s8=p:=⟨_,rfl⟩
   obtain⟨⟨v,s10⟩,e10⟩: ∃p,fU bs vs fA s9=p:=⟨_,rfl⟩
   have hF:dJ bs (0,0)=if dN k then(⟨4,N,⟨c0,c1,c2,c3,N-1⟩,H,k,key,l,v⟩,s10)else(⟨4,N,⟨c0,c1,c2,c3,N-1⟩,H,k,key,0,⟨#[]⟩⟩,s7):=by
    simp[dJ,jc,kF,kP,aW.sK,aW.put,e1,e2,e3,f0,f1,f2,f3,e5,e6,e7,e8,e9,e10]
   rw[hF]at h
   cases hl:dN k with
   | false=>
     rw[hl]at h
     simp only[Bool.false_eq_true,if_false,Prod.mk.injEq]at h
     obtain⟨rfl,hs⟩:=h
     have y7:s7.2=0:=by rw[hs]
     have hm:s7.1=m:=by rw[hs]
     have y6:=(ku e7 y7)
     have y5:=(gQ e6 y6)
     have yp:=(bZ e5 y5)
     have Hg:=(bZ f3 yp)
     have Hl:=(bZ f2 Hg)
     have Pg:=(bZ f1 Hl)
     have y3:=(bZ f0 Pg)
     have y2:=(bZ e3 y3)
     have y1:=(gQ e2 y2)
     obtain⟨_,k1,k2,_,_,u1,b1⟩:=dH e1 y1
     obtain⟨_,r1,r2,_,_,u2,b2⟩:=dH e2 y2
     obtain⟨_,n1,n2,_,u3,b3⟩:=bG e3 y3 u2
     obtain⟨_,m0,mm0,_,v0,g0⟩:=bG f0 Pg u3
     obtain⟨_,m1,mm1,_,v1,g1⟩:=bG f1 Hl v0
     obtain⟨_,m2,mm2,_,v2,g2⟩:=bG f2 Hg v1
     obtain⟨_,m3,mm3,_,v3,g3⟩:=bG f3 yp v2
     obtain⟨_,h1,h2,_,u5,b5⟩:=bG e5 y5 v3
     obtain⟨_,k3,k4,k5,_,u6,b6⟩:=dH e6 y6
     obtain⟨_,q1,q2,u7,b7⟩:=je e7 y7 u6 k5
     obtain⟨q3,q4,q5⟩:=lW q2
     refine⟨oM ⟨by dsimp only;omega,by dsimp only;omega,n1,n2,h1,h2,by dsimp only;omega,by dsimp only;omega,by dsimp only;omega,by dsimp only;omega,by dsimp only;omega,by simp[aW.get], ?_⟩,by rw[←hm];exact u7, ?_⟩
     · exact pz (e:=⟨k,key,0,⟨#[]⟩⟩) ⟨by dsimp only;omega,by dsimp only;omega⟩ q2 (wS hl) rfl rfl
     · refine oO (by rw[←hm];exact u7) (l:=aT _) ?_
       rw[←hm]
       have b0:bs=bs.drop (0,(0:Int)).1:=rfl
       conv=>lhs;rw[b0,b1,b2,b3,g0,g1,g2,g3,b5,b6,b7]
       simp[aT,others,hl,←jf key q1]
   | true=>
     rw[hl]at h
     simp only[if_true,Prod.mk.injEq]at h
     obtain⟨rfl,hs⟩:=h
     have Us:s10.2=0:=by rw[hs]
     have hm:s10.1=m:=by rw[hs]
     have y9:=(ku e10 Us)
     have y8:=(gQ e9 y9)
     have y7:=(gQ e8 y8)
     have y6:=(ku e7 y7)
     have y5:=(gQ e6 y6)
     have yp:=(bZ e5 y5)
     have Hg:=(bZ f3 yp)
     have Hl:=(bZ f2 Hg)
     have Pg:=(bZ f1 Hl)
     have y3:=(bZ f0 Pg)
     have y2:=(bZ e3 y3)
     have y1:=(gQ e2 y2)
     obtain⟨_,k1,k2,_,_,u1,b1⟩:=dH e1 y1
     obtain⟨_,r1,r2,_,_,u2,b2⟩:=dH e2 y2
     obtain⟨_,n1,n2,_,u3,b3⟩:=bG e3 y3 u2
     obtain⟨_,m0,mm0,_,v0,g0⟩:=bG f0 Pg u3
     obtain⟨_,m1,mm1,_,v1,g1⟩:=bG f1 Hl v0
     obtain⟨_,m2,mm2,_,v2,g2⟩:=bG f2 Hg v1
     obtain⟨_,m3,mm3,_,v3,g3⟩:=bG f3 yp v2
     obtain⟨_,h1,h2,_,u5,b5⟩:=bG e5 y5 v3
     obtain⟨_,k3,k4,k5,_,u6,b6⟩:=dH e6 y6
     obtain⟨_,q1,q2,u7,b7⟩:=je e7 y7 u6 k5
     obtain⟨q3,q4,q5⟩:=lW q2
     obtain⟨_,l1,l2,_,_,u8,b8⟩:=dH e8 y8
     obtain⟨_,l3,l4,l5,_,u9,b9⟩:=dH e9 y9
     obtain⟨_,p1,p2,u10,b10⟩:=je e10 Us u9 l5
     refine⟨oM ⟨by dsimp only;omega,by dsimp only;omega,n1,n2,h1,h2,by dsimp only;omega,by dsimp only;omega,by dsimp only;omega,by dsimp only;omega,by dsimp only;omega,by simp[aW.get], ?_⟩,by rw[←hm];exact u10, ?_⟩
     · exact qN (e:=⟨k,key,l,v⟩) ⟨by dsimp only;omega,by dsimp only;omega⟩ q2 hl (by dsimp only;omega) p2
     · refine oO (by rw[←hm];exact u10) (l:=aT _) ?_
       rw[←hm]
       have b0:bs=bs.drop (0,(0:Int)).1:=rfl
       conv=>lhs;rw[b0,b1,b2,b3,g0,g1,g2,g3,b5,b6,b7,b8,b9,b10]
       simp[aT,others,hl,←jf key q1,←jf v p1]

section
open Go.RowKit
def Xn (x:Int):Prop:=x=0∨x=2∨x=3
theorem wU {bs:List UInt8} {lo hi:Int} {s:Sq} (h:Xn s.2):Xn (fK bs lo hi s).2.2:=by
 unfold fK
 split
 · exact h
 · split
   · exact .inr (.inl rfl)
   · split
     · exact .inl rfl
     · exact .inr (.inr rfl)
theorem Ho {bs:List UInt8} {lo hi:Int} {s:Sq} (h:Xn s.2):Xn (eY bs lo hi s).2.2:=by
 unfold eY
 split
 · exact h
 · split
   · have h:ig ((bs.drop s.1).take 10) 0 0=dG (bs.drop s.1):=rfl
     have:=G9 ((bs.drop s.1).take 10) 0 0
     rw[h]at this
     exact this
   · split
     · exact .inl rfl
     · exact .inr (.inr rfl)
theorem J3 {bs:List UInt8} {sz:Int} {may:ByteArray→Int} {s:Sq} (h:Xn s.2):Xn (fU bs sz may s).2.2:=by
 unfold fU
 split
 · exact h
 · split
   · exact .inr (.inl rfl)
   · dsimp only
     split
     · exact .inl rfl
     · exact .inr (.inr rfl)
theorem VP {bs:List UInt8} {r:Int} {j:Nat} {s:Sq} (h:Xn s.2):Xn (kP bs r j s).2.2:=by
 unfold kP
 split
 · exact h
 · exact Ho h
theorem J4 {bs:List UInt8} {r:Int} {s:Sq} (h:Xn s.2): ∀j,Xn (kF bs r s j).2.2
  |0=>h
  |j+1=>VP (J4 h j)
theorem RG (bs:List UInt8):Xn (dJ bs (0,0)).2.2:=by
 have h6:Xn (fU bs (fK bs 1 8 (eY bs 1 16777216 (jc bs (fK bs 0 4 (fK bs 1 5 (0,0)).2).1 (eY bs 1 1048576 (fK bs 0 4 (fK bs 1 5 (0,0)).2).2).2).2).2).1 keyE (fK bs 1 8 (eY bs 1 16777216 (jc bs (fK bs 0 4 (fK bs 1 5 (0,0)).2).1 (eY bs 1 1048576 (fK bs 0 4 (fK bs 1 5 (0,0)).2).2).2).2).2).2).2.2:=
  J3 (wU (Ho (J4 (Ho (wU (wU (.inl rfl)))) 5)))
 unfold dJ
 dsimp only
 split
 · exact J3 (wU (wU h6))
 · exact h6
theorem uS (bs:List UInt8):(∃e m,nK bs=(e,m,0)∧eG e=0∧m≤bs.length∧bs.take m=aT e∧m=(aT e).length)∨nK bs=(MI,0,2)∨nK bs=(MI,0,3):=by
 obtain⟨⟨e,m,x⟩,hf⟩: ∃p,dJ bs (0,0)=p:=⟨_,rfl⟩
 have he:=RG bs
 rw[hf]at he
 unfold nK
 rw[hf]
 rcases he with h|h|h<;>dsimp only at h<;>subst h
 · obtain⟨h1,h2,h3⟩:=Zc bs hf
   refine .inl ⟨e,m,by simp,h1,h2,h3, ?_⟩
   rw[←h3,List.length_take]
   omega
 · exact .inr (.inl (by simp))
 · exact .inr (.inr (by simp))
theorem VQ (e:Ev) (h:eG e=0) (rest:List UInt8):nK (aT e++rest)=(e,(aT e).length,0):=by
 unfold nK
 rw[VO e h rest]
 simp
theorem Ch.nT {n:Nat} {sc:Bool} {F:Nat→List AV} {l:List UInt8} {xs ys:List AV} (h:bg F l) (hn:n=l.length) (k:Ch xs ys):Ch (.sl 1 n sc F::xs) (.sl 1 l.length sc (aU l)::ys):=
 .of (fun X u hu=>aS.nT (sc:=sc) h hn X u hu) k
theorem take_any {n:Nat} {F:Nat→List AV} (l:List UInt8) {e:Ev} {m:Nat} {x:Int} (ht:nK l=(e,m,x)) (hF:bg F l) (hn:n=l.length) (hl:l.length≤1000000000):
  aH Tryz.prog 114 [.sl 1 n true F] (.dF [e.av,.v (.int .i64 (m:Int)),.v (.int .i64 x)]) []:=by
 have h:=VL l hl
 rw[ht]at h
 exact h.args (Ch.nT hF hn .nil)
end
end Go.Proofs.YtimhagicagdkfaaGreat
