/-
  Contracts of the walk:TkLawB,TkLawC,TkLawD,TkF.
-/
import Derived.Test.YtimhagicagdkfaaGreatNf14
import Derived.Test.YtimhagicagdkfaaGreatNf6
set_option linter.unusedVariables false
set_option linter.unusedSimpArgs false
set_option maxHeartbeats 16000000
set_option maxRecDepth 100000
namespace Go.Proofs.YtimhagicagdkfaaGreat
theorem drop_cons {bs t:List UInt8} {u:Nat} {b:UInt8} (h:bs.drop u=b::t):u<bs.length∧bs.getD u 0=b∧bs.drop (u+1)=t:=by
 have hlt:u<bs.length:=by
  rcases Nat.lt_or_ge u bs.length with h'|h'
  · exact h'
  · rw[List.drop_of_length_le h']at h;cases h
 refine⟨hlt, ?_, ?_⟩
 · rw[List.drop_eq_getElem_cons hlt]at h
   rw[List.getD_eq_getElem?_getD,List.getElem?_eq_getElem hlt]
   exact(List.cons.inj h).1
 · rw[List.drop_eq_getElem_cons hlt]at h
   exact(List.cons.inj h).2
theorem OL {bs l t:List UInt8} {u:Nat} (h:bs.drop u=l++t):bs.drop (u+l.length)=t:=by
 rw[←List.drop_drop,h,List.drop_left]
theorem bU {bs t:List UInt8} {u:Nat} {b:UInt8} {lo hi:Int} (h:bs.drop u=b::t) (h1:lo≤(b.toNat:Int)) (h2:(b.toNat:Int)≤hi):fG bs lo hi (u,0)=((b.toNat:Int),(u+1,0))∧bs.drop (u+1)=t:=by
 obtain⟨h3,h4,h5⟩:=drop_cons h
 refine⟨?_,h5⟩
 unfold fG
 rw[if_neg (by simp),if_neg (by simpa using h3),h4,if_pos ⟨h1,h2⟩]
theorem aU {bs t:List UInt8} {u n:Nat} {lo hi:Int} (h:bs.drop u=aB n++t) (hn:n≤4294967296) (h1:lo≤(n:Int)) (h2:(n:Int)≤hi):eU bs lo hi (u,0)=((n:Int),(u+(aB n).length,0))∧bs.drop (u+(aB n).length)=t:=by
 refine⟨?_,OL h⟩
 unfold eU
 simp only[h,sZ n t hn]
 rw[if_neg (by simp),if_neg (by simp),if_pos ⟨h1,h2⟩]
theorem iy {bs t:List UInt8} {u:Nat} {s:ByteArray} {may:ByteArray→Int} (h:bs.drop u=s.data.toList++t) (h0:1≤s.size) (h1:may s=0):fO bs (s.size:Int) may (u,0)=(s,(u+s.size,0))∧bs.drop (u+s.size)=t:=by
 have hs:s.data.toList.length=s.size:=rfl
 have hc:Ig bs u s.size=s:=by
  unfold Ig
  rw[h,←hs,List.take_left]
 have hl:s.size≤bs.length-u:=by
  have:=congrArg List.length h
  rw[List.length_drop,List.length_append]at this
  omega
 refine⟨?_,by have:=OL h;rwa [hs]at this⟩
 unfold fO
 rw[if_neg (by simp),if_neg (by dsimp only;omega)]
 simp only[Int.toNat_natCast,hc,h1,if_true]
theorem fM {n:Int} (h0:0≤n) (h1:n≤255):((byteOf n).toNat:Int)=n:=by
 unfold byteOf
 rw[UInt8.toNat_ofNat',Nat.mod_eq_of_lt (by omega)]
 omega
theorem tq {s:ByteArray} (h:s.size≤255):((UInt8.ofNat s.size).toNat:Int)=s.size:=by
 rw[UInt8.toNat_ofNat',Nat.mod_eq_of_lt (by omega)]
theorem dO (n:Nat):iL (n:Int)=aB n:=by simp[iL]
theorem size_nil {s:ByteArray} (h:s.size=0):s=⟨#[]⟩:=by
 cases s with
 | mk d=>
   have:d= #[]:=Array.eq_empty_of_size_eq_zero h
   rw[this]
theorem Vf (e:Ev) (h:eG e=0) (rest:List UInt8):dH (aQ e++rest) (0,0)=(e,((aQ e).length,0)):=by
 have m:=pU h
 have g:=qx m.ed
 obtain⟨r,n,⟨c0,c1,c2,c3,c4⟩,hh,k,key,l,v⟩:=e
 obtain⟨r0,r4,n1,n2,h1,h2,a0,a1,a2,a3,a4,own,ed⟩:=m
 dsimp only[Ev.ed]at r0 r4 n1 n2 h1 h2 a0 a1 a2 a3 a4 g own
 obtain⟨g1,g2,g3,g4,g5,g6,g7⟩:=g
 clear ed h
 obtain⟨n,rfl⟩:=Int.eq_ofNat_of_zero_le (show 0≤n by omega)
 obtain⟨hh,rfl⟩:=Int.eq_ofNat_of_zero_le (show 0≤hh by omega)
 obtain⟨c0,rfl⟩:=Int.eq_ofNat_of_zero_le a0.1
 obtain⟨c1,rfl⟩:=Int.eq_ofNat_of_zero_le a1.1
 obtain⟨c2,rfl⟩:=Int.eq_ofNat_of_zero_le a2.1
 obtain⟨c3,rfl⟩:=Int.eq_ofNat_of_zero_le a3.1
 obtain⟨c4,rfl⟩:=Int.eq_ofNat_of_zero_le a4.1
 have hkey:keyE key=0:=by unfold keyE;rw[if_pos ⟨g3,g4,g5⟩]
 have bk:=fM (n:=k) (by omega) (by omega)
 have Ik:=tq (s:=key) (by omega)
 rcases(show r=0∨r=1∨r=2∨r=3∨r=4 by omega)with rfl|rfl|rfl|rfl|rfl
 · simp only[aZ.get]at own;simp at own
   have br:((byteOf 0).toNat:Int)=0:=fM (by omega) (by omega)
   cases hl:dK k with
   | true=>
     obtain⟨x1,x2,x3,x4⟩:=g6 hl
     have bl:=fM (n:=l) (by omega) (by omega)
     have bv:=tq (s:=v) (by omega)
     have hval:eX v=0:=by unfold eX;rw[if_pos ⟨x3,x4⟩]
     generalize hbs:aQ _++rest=bs
     generalize hlen:(aQ _).length=len
     have d0:bs.drop 0=byteOf k::byteOf 0::(aB n++(aB c1++(aB c2++(aB c3++(aB c4++((aB hh++(UInt8.ofNat key.size::(key.data.toList++(byteOf l::UInt8.ofNat v.size::(v.data.toList++rest))))))))))):=by
      rw[←hbs];simp[aQ,others,words,dO,hl]
     obtain⟨e1,d1⟩:=bU (lo:=1) (hi:=5) d0 (by omega) (by omega)
     obtain⟨e2,d2⟩:=bU (lo:=0) (hi:=4) d1 (by omega) (by omega)
     obtain⟨e3,d3⟩:=aU (lo:=1) (hi:=1048576) d2 (by omega) (by omega) (by omega)
     obtain⟨f1,d11⟩:=aU (lo:=0) (hi:=1048576) d3 (by omega) (by omega) (by omega)
     obtain⟨f2,d12⟩:=aU (lo:=0) (hi:=1048576) d11 (by omega) (by omega) (by omega)
     obtain⟨f3,d13⟩:=aU (lo:=0) (hi:=1048576) d12 (by omega) (by omega) (by omega)
     obtain⟨f4,QV⟩:=aU (lo:=0) (hi:=1048576) d13 (by omega) (by omega) (by omega)
     obtain⟨e5,d5⟩:=aU (lo:=1) (hi:=16777216) QV (by omega) (by omega) (by omega)
     obtain⟨e6,d6⟩:=bU (lo:=1) (hi:=8) d5 (by omega) (by omega)
     obtain⟨e7,d7⟩:=iy (may:=keyE) d6 g3 hkey
     obtain⟨e8,d8⟩:=bU (lo:=0) (hi:=1) d7 (by omega) (by omega)
     obtain⟨e9,d9⟩:=bU (lo:=1) (hi:=12) d8 (by omega) (by omega)
     obtain⟨e10,d10⟩:=iy (may:=eX) d9 x3 hval
     rw[bk]at e1;rw[br]at e2;rw[Ik]at e6;rw[bl]at e8;rw[bv]at e9
     simp[dH,iR,ku,kN,aZ.rQ,aZ.put,e1,e2,e3,f1,f2,f3,f4,e5,e6,e7,e8,e9,e10,hl]
     refine⟨?_, ?_⟩
     · simp[own]
     · rw[←hlen];simp[aQ,others,words,dO,hl];omega
   | false=>
     obtain⟨x1,x2⟩:=g7 hl
     have hv0:v=⟨#[]⟩:=size_nil x2
     generalize hbs:aQ _++rest=bs
     generalize hlen:(aQ _).length=len
     have d0:bs.drop 0=byteOf k::byteOf 0::(aB n++(aB c1++(aB c2++(aB c3++(aB c4++((aB hh++(UInt8.ofNat key.size::(key.data.toList++(rest)))))))))):=by
      rw[←hbs];simp[aQ,others,words,dO,hl]
     obtain⟨e1,d1⟩:=bU (lo:=1) (hi:=5) d0 (by omega) (by omega)
     obtain⟨e2,d2⟩:=bU (lo:=0) (hi:=4) d1 (by omega) (by omega)
     obtain⟨e3,d3⟩:=aU (lo:=1) (hi:=1048576) d2 (by omega) (by omega) (by omega)
     obtain⟨f1,d11⟩:=aU (lo:=0) (hi:=1048576) d3 (by omega) (by omega) (by omega)
     obtain⟨f2,d12⟩:=aU (lo:=0) (hi:=1048576) d11 (by omega) (by omega) (by omega)
     obtain⟨f3,d13⟩:=aU (lo:=0) (hi:=1048576) d12 (by omega) (by omega) (by omega)
     obtain⟨f4,QV⟩:=aU (lo:=0) (hi:=1048576) d13 (by omega) (by omega) (by omega)
     obtain⟨e5,d5⟩:=aU (lo:=1) (hi:=16777216) QV (by omega) (by omega) (by omega)
     obtain⟨e6,d6⟩:=bU (lo:=1) (hi:=8) d5 (by omega) (by omega)
     obtain⟨e7,d7⟩:=iy (may:=keyE) d6 g3 hkey
     rw[bk]at e1;rw[br]at e2;rw[Ik]at e6
     simp[dH,iR,ku,kN,aZ.rQ,aZ.put,e1,e2,e3,f1,f2,f3,f4,e5,e6,e7,hl]
     refine⟨?_, ?_⟩
     · simp[own,x1,hv0]
     · rw[←hlen];simp[aQ,others,words,dO,hl];omega
 · simp only[aZ.get]at own;simp at own
   have br:((byteOf 1).toNat:Int)=1:=fM (by omega) (by omega)
   cases hl:dK k with
   | true=>
     obtain⟨x1,x2,x3,x4⟩:=g6 hl
     have bl:=fM (n:=l) (by omega) (by omega)
     have bv:=tq (s:=v) (by omega)
     have hval:eX v=0:=by unfold eX;rw[if_pos ⟨x3,x4⟩]
     generalize hbs:aQ _++rest=bs
     generalize hlen:(aQ _).length=len
     have d0:bs.drop 0=byteOf k::byteOf 1::(aB n++(aB c0++(aB c2++(aB c3++(aB c4++((aB hh++(UInt8.ofNat key.size::(key.data.toList++(byteOf l::UInt8.ofNat v.size::(v.data.toList++rest))))))))))):=by
      rw[←hbs];simp[aQ,others,words,dO,hl]
     obtain⟨e1,d1⟩:=bU (lo:=1) (hi:=5) d0 (by omega) (by omega)
     obtain⟨e2,d2⟩:=bU (lo:=0) (hi:=4) d1 (by omega) (by omega)
     obtain⟨e3,d3⟩:=aU (lo:=1) (hi:=1048576) d2 (by omega) (by omega) (by omega)
     obtain⟨f0,d10⟩:=aU (lo:=0) (hi:=1048576) d3 (by omega) (by omega) (by omega)
     obtain⟨f2,d12⟩:=aU (lo:=0) (hi:=1048576) d10 (by omega) (by omega) (by omega)
     obtain⟨f3,d13⟩:=aU (lo:=0) (hi:=1048576) d12 (by omega) (by omega) (by omega)
     obtain⟨f4,QV⟩:=aU (lo:=0) (hi:=1048576) d13 (by omega) (by omega) (by omega)
     obtain⟨e5,d5⟩:=aU (lo:=1) (hi:=16777216) QV (by omega) (by omega) (by omega)
     obtain⟨e6,d6⟩:=bU (lo:=1) (hi:=8) d5 (by omega) (by omega)
     obtain⟨e7,d7⟩:=iy (may:=keyE) d6 g3 hkey
     obtain⟨e8,d8⟩:=bU (lo:=0) (hi:=1) d7 (by omega) (by omega)
     obtain⟨e9,d9⟩:=bU (lo:=1) (hi:=12) d8 (by omega) (by omega)
     obtain⟨e10,d10⟩:=iy (may:=eX) d9 x3 hval
     rw[bk]at e1;rw[br]at e2;rw[Ik]at e6;rw[bl]at e8;rw[bv]at e9
     simp[dH,iR,ku,kN,aZ.rQ,aZ.put,e1,e2,e3,f0,f2,f3,f4,e5,e6,e7,e8,e9,e10,hl]
     refine⟨?_, ?_⟩
     · simp[own]
     · rw[←hlen];simp[aQ,others,words,dO,hl];omega
   | false=>
     obtain⟨x1,x2⟩:=g7 hl
     have hv0:v=⟨#[]⟩:=size_nil x2
     generalize hbs:aQ _++rest=bs
     generalize hlen:(aQ _).length=len
     have d0:bs.drop 0=byteOf k::byteOf 1::(aB n++(aB c0++(aB c2++(aB c3++(aB c4++((aB hh++(UInt8.ofNat key.size::(key.data.toList++(rest)))))))))):=by
      rw[←hbs];simp[aQ,others,words,dO,hl]
     obtain⟨e1,d1⟩:=bU (lo:=1) (hi:=5) d0 (by omega) (by omega)
     obtain⟨e2,d2⟩:=bU (lo:=0) (hi:=4) d1 (by omega) (by omega)
     obtain⟨e3,d3⟩:=aU (lo:=1) (hi:=1048576) d2 (by omega) (by omega) (by omega)
     obtain⟨f0,d10⟩:=aU (lo:=0) (hi:=1048576) d3 (by omega) (by omega) (by omega)
     obtain⟨f2,d12⟩:=aU (lo:=0) (hi:=1048576) d10 (by omega) (by omega) (by omega)
     obtain⟨f3,d13⟩:=aU (lo:=0) (hi:=1048576) d12 (by omega) (by omega) (by omega)
     obtain⟨f4,QV⟩:=aU (lo:=0) (hi:=1048576) d13 (by omega) (by omega) (by omega)
     obtain⟨e5,d5⟩:=aU (lo:=1) (hi:=16777216) QV (by omega) (by omega) (by omega)
     obtain⟨e6,d6⟩:=bU (lo:=1) (hi:=8) d5 (by omega) (by omega)
     obtain⟨e7,d7⟩:=iy (may:=keyE) d6 g3 hkey
     rw[bk]at e1;rw[br]at e2;rw[Ik]at e6
     simp[dH,iR,ku,kN,aZ.rQ,aZ.put,e1,e2,e3,f0,f2,f3,f4,e5,e6,e7,hl]
     refine⟨?_, ?_⟩
     · simp[own,x1,hv0]
     · rw[←hlen];simp[aQ,others,words,dO,hl];omega
 · simp only[aZ.get]at own;simp at own
   have br:((byteOf 2).toNat:Int)=2:=fM (by omega) (by omega)
   cases hl:dK k with
   | true=>
     obtain⟨x1,x2,x3,x4⟩:=g6 hl
     have bl:=fM (n:=l) (by omega) (by omega)
     have bv:=tq (s:=v) (by omega)
     have hval:eX v=0:=by unfold eX;rw[if_pos ⟨x3,x4⟩]
     generalize hbs:aQ _++rest=bs
     generalize hlen:(aQ _).length=len
     have d0:bs.drop 0=byteOf k::byteOf 2::(aB n++(aB c0++(aB c1++(aB c3++(aB c4++((aB hh++(UInt8.ofNat key.size::(key.data.toList++(byteOf l::UInt8.ofNat v.size::(v.data.toList++rest))))))))))):=by
      rw[←hbs];simp[aQ,others,words,dO,hl]
     obtain⟨e1,d1⟩:=bU (lo:=1) (hi:=5) d0 (by omega) (by omega)
     obtain⟨e2,d2⟩:=bU (lo:=0) (hi:=4) d1 (by omega) (by omega)
     obtain⟨e3,d3⟩:=aU (lo:=1) (hi:=1048576) d2 (by omega) (by omega) (by omega)
     obtain⟨f0,d10⟩:=aU (lo:=0) (hi:=1048576) d3 (by omega) (by omega) (by omega)
     obtain⟨f1,d11⟩:=aU (lo:=0) (hi:=1048576) d10 (by omega) (by omega) (by omega)
     obtain⟨f3,d13⟩:=aU (lo:=0) (hi:=1048576) d11 (by omega) (by omega) (by omega)
     obtain⟨f4,QV⟩:=aU (lo:=0) (hi:=1048576) d13 (by omega) (by omega) (by omega)
     obtain⟨e5,d5⟩:=aU (lo:=1) (hi:=16777216) QV (by omega) (by omega) (by omega)
     obtain⟨e6,d6⟩:=bU (lo:=1) (hi:=8) d5 (by omega) (by omega)
     obtain⟨e7,d7⟩:=iy (may:=keyE) d6 g3 hkey
     obtain⟨e8,d8⟩:=bU (lo:=0) (hi:=1) d7 (by omega) (by omega)
     obtain⟨e9,d9⟩:=bU (lo:=1) (hi:=12) d8 (by omega) (by omega)
     obtain⟨e10,d10⟩:=iy (may:=eX) d9 x3 hval
     rw[bk]at e1;rw[br]at e2;rw[Ik]at e6;rw[bl]at e8;rw[bv]at e9
     simp[dH,iR,ku,kN,aZ.rQ,aZ.put,e1,e2,e3,f0,f1,f3,f4,e5,e6,e7,e8,e9,e10,hl]
     refine⟨?_, ?_⟩
     · simp[own]
     · rw[←hlen];simp[aQ,others,words,dO,hl];omega
   | false=>
     obtain⟨x1,x2⟩:=g7 hl
     have hv0:v=⟨#[]⟩:=size_nil x2
     generalize hbs:aQ _++rest=bs
     generalize hlen:(aQ _).length=len
     have d0:bs.drop 0=byteOf k::byteOf 2::(aB n++(aB c0++(aB c1++(aB c3++(aB c4++((aB hh++(UInt8.ofNat key.size::(key.data.toList++(rest)))))))))):=by
      rw[←hbs];simp[aQ,others,words,dO,hl]
     obtain⟨e1,d1⟩:=bU (lo:=1) (hi:=5) d0 (by omega) (by omega)
     obtain⟨e2,d2⟩:=bU (lo:=0) (hi:=4) d1 (by omega) (by omega)
     obtain⟨e3,d3⟩:=aU (lo:=1) (hi:=1048576) d2 (by omega) (by omega) (by omega)
     obtain⟨f0,d10⟩:=aU (lo:=0) (hi:=1048576) d3 (by omega) (by omega) (by omega)
     obtain⟨f1,d11⟩:=aU (lo:=0) (hi:=1048576) d10 (by omega) (by omega) (by omega)
     obtain⟨f3,d13⟩:=aU (lo:=0) (hi:=1048576) d11 (by omega) (by omega) (by omega)
     obtain⟨f4,QV⟩:=aU (lo:=0) (hi:=1048576) d13 (by omega) (by omega) (by omega)
     obtain⟨e5,d5⟩:=aU (lo:=1) (hi:=16777216) QV (by omega) (by omega) (by omega)
     obtain⟨e6,d6⟩:=bU (lo:=1) (hi:=8) d5 (by omega) (by omega)
     obtain⟨e7,d7⟩:=iy (may:=keyE) d6 g3 hkey
     rw[bk]at e1;rw[br]at e2;rw[Ik]at e6
     simp[dH,iR,ku,kN,aZ.rQ,aZ.put,e1,e2,e3,f0,f1,f3,f4,e5,e6,e7,hl]
     refine⟨?_, ?_⟩
     · simp[own,x1,hv0]
     · rw[←hlen];simp[aQ,others,words,dO,hl];omega
 · simp only[aZ.get]at own;simp at own
   have br:((byteOf 3).toNat:Int)=3:=fM (by omega) (by omega)
   cases hl:dK k with
   | true=>
     obtain⟨x1,x2,x3,x4⟩:=g6 hl
     have bl:=fM (n:=l) (by omega) (by omega)
     have bv:=tq (s:=v) (by omega)
     have hval:eX v=0:=by unfold eX;rw[if_pos ⟨x3,x4⟩]
     generalize hbs:aQ _++rest=bs
     generalize hlen:(aQ _).length=len
     have d0:bs.drop 0=byteOf k::byteOf 3::(aB n++(aB c0++(aB c1++(aB c2++(aB c4++((aB hh++(UInt8.ofNat key.size::(key.data.toList++(byteOf l::UInt8.ofNat v.size::(v.data.toList++rest))))))))))):=by
      rw[←hbs];simp[aQ,others,words,dO,hl]
     obtain⟨e1,d1⟩:=bU (lo:=1) (hi:=5) d0 (by omega) (by omega)
     obtain⟨e2,d2⟩:=bU (lo:=0) (hi:=4) d1 (by omega) (by omega)
     obtain⟨e3,d3⟩:=aU (lo:=1) (hi:=1048576) d2 (by omega) (by omega) (by omega)
     obtain⟨f0,d10⟩:=aU (lo:=0) (hi:=1048576) d3 (by omega) (by omega) (by omega)
     obtain⟨f1,d11⟩:=aU (lo:=0) (hi:=1048576) d10 (by omega) (by omega) (by omega)
     obtain⟨f2,d12⟩:=aU (lo:=0) (hi:=1048576) d11 (by omega) (by omega) (by omega)
     obtain⟨f4,QV⟩:=aU (lo:=0) (hi:=1048576) d12 (by omega) (by omega) (by omega)
     obtain⟨e5,d5⟩:=aU (lo:=1) (hi:=16777216) QV (by omega) (by omega) (by omega)
     obtain⟨e6,d6⟩:=bU (lo:=1) (hi:=8) d5 (by omega) (by omega)
     obtain⟨e7,d7⟩:=iy (may:=keyE) d6 g3 hkey
     obtain⟨e8,d8⟩:=bU (lo:=0) (hi:=1) d7 (by omega) (by omega)
     obtain⟨e9,d9⟩:=bU (lo:=1) (hi:=12) d8 (by omega) (by omega)
     obtain⟨e10,d10⟩:=iy (may:=eX) d9 x3 hval
     rw[bk]at e1;rw[br]at e2;rw[Ik]at e6;rw[bl]at e8;rw[bv]at e9
     simp[dH,iR,ku,kN,aZ.rQ,aZ.put,e1,e2,e3,f0,f1,f2,f4,e5,e6,e7,e8,e9,e10,hl]
     refine⟨?_, ?_⟩
     · simp[own]
     · rw[←hlen];simp[aQ,others,words,dO,hl];omega
   | false=>
     obtain⟨x1,x2⟩:=g7 hl
     have hv0:v=⟨#[]⟩:=size_nil x2
     generalize hbs:aQ _++rest=bs
     generalize hlen:(aQ _).length=len
     have d0:bs.drop 0=byteOf k::byteOf 3::(aB n++(aB c0++(aB c1++(aB c2++(aB c4++((aB hh++(UInt8.ofNat key.size::(key.data.toList++(rest)))))))))):=by
      rw[←hbs];simp[aQ,others,words,dO,hl]
     obtain⟨e1,d1⟩:=bU (lo:=1) (hi:=5) d0 (by omega) (by omega)
     obtain⟨e2,d2⟩:=bU (lo:=0) (hi:=4) d1 (by omega) (by omega)
     obtain⟨e3,d3⟩:=aU (lo:=1) (hi:=1048576) d2 (by omega) (by omega) (by omega)
     obtain⟨f0,d10⟩:=aU (lo:=0) (hi:=1048576) d3 (by omega) (by omega) (by omega)
     obtain⟨f1,d11⟩:=aU (lo:=0) (hi:=1048576) d10 (by omega) (by omega) (by omega)
     obtain⟨f2,d12⟩:=aU (lo:=0) (hi:=1048576) d11 (by omega) (by omega) (by omega)
     obtain⟨f4,QV⟩:=aU (lo:=0) (hi:=1048576) d12 (by omega) (by omega) (by omega)
     obtain⟨e5,d5⟩:=aU (lo:=1) (hi:=16777216) QV (by omega) (by omega) (by omega)
     obtain⟨e6,d6⟩:=bU (lo:=1) (hi:=8) d5 (by omega) (by omega)
     obtain⟨e7,d7⟩:=iy (may:=keyE) d6 g3 hkey
     rw[bk]at e1;rw[br]at e2;rw[Ik]at e6
     simp[dH,iR,ku,kN,aZ.rQ,aZ.put,e1,e2,e3,f0,f1,f2,f4,e5,e6,e7,hl]
     refine⟨?_, ?_⟩
     · simp[own,x1,hv0]
     · rw[←hlen];simp[aQ,others,words,dO,hl];omega
 · simp only[aZ.get]at own;simp at own
   have br:((byteOf 4).toNat:Int)=4:=fM (by omega) (by omega)
   cases hl:dK k with
   | true=>
     obtain⟨x1,x2,x3,x4⟩:=g6 hl
     have bl:=fM (n:=l) (by omega) (by omega)
     have bv:=tq (s:=v) (by omega)
     have hval:eX v=0:=by unfold eX;rw[if_pos ⟨x3,x4⟩]
     generalize hbs:aQ _++rest=bs
     generalize hlen:(aQ _).length=len
     have d0:bs.drop 0=byteOf k::byteOf 4::(aB n++(aB c0++(aB c1++(aB c2++(aB c3++((aB hh++(UInt8.ofNat key.size::(key.data.toList++(byteOf l::UInt8.ofNat v.size::(v.data.toList++rest))))))))))):=by
      rw[←hbs];simp[aQ,others,words,dO,hl]
     obtain⟨e1,d1⟩:=bU (lo:=1) (hi:=5) d0 (by omega) (by omega)
     obtain⟨e2,d2⟩:=bU (lo:=0) (hi:=4) d1 (by omega) (by omega)
     obtain⟨e3,d3⟩:=aU (lo:=1) (hi:=1048576) d2 (by omega) (by omega) (by omega)
     obtain⟨f0,d10⟩:=aU (lo:=0) (hi:=1048576) d3 (by omega) (by omega) (by omega)
     obtain⟨f1,d11⟩:=aU (lo:=0) (hi:=1048576) d10 (by omega) (by omega) (by omega)
     obtain⟨f2,d12⟩:=aU (lo:=0) (hi:=1048576) d11 (by omega) (by omega) (by omega)
     obtain⟨f3,d13⟩:=aU (lo:=0) (hi:=1048576) d12 (by omega) (by omega) (by omega)
     obtain⟨e5,d5⟩:=aU (lo:=1) (hi:=16777216) d13 (by omega) (by omega) (by omega)
     obtain⟨e6,d6⟩:=bU (lo:=1) (hi:=8) d5 (by omega) (by omega)
     obtain⟨e7,d7⟩:=iy (may:=keyE) d6 g3 hkey
     obtain⟨e8,d8⟩:=bU (lo:=0) (hi:=1) d7 (by omega) (by omega)
     obtain⟨e9,d9⟩:=bU (lo:=1) (hi:=12) d8 (by omega) (by omega)
     obtain⟨e10,d10⟩:=iy (may:=eX) d9 x3 hval
     rw[bk]at e1;rw[br]at e2;rw[Ik]at e6;rw[bl]at e8;rw[bv]at e9
     simp[dH,iR,ku,kN,aZ.rQ,aZ.put,e1,e2,e3,f0,f1,f2,f3,e5,e6,e7,e8,e9,e10,hl]
     refine⟨?_, ?_⟩
     · simp[own]
     · rw[←hlen];simp[aQ,others,words,dO,hl];omega
   | false=>
     obtain⟨x1,x2⟩:=g7 hl
     have hv0:v=⟨#[]⟩:=size_nil x2
     generalize hbs:aQ _++rest=bs
     generalize hlen:(aQ _).length=len
     have d0:bs.drop 0=byteOf k::byteOf 4::(aB n++(aB c0++(aB c1++(aB c2++(aB c3++((aB hh++(UInt8.ofNat key.size::(key.data.toList++(rest)))))))))):=by
      rw[←hbs];simp[aQ,others,words,dO,hl]
     obtain⟨e1,d1⟩:=bU (lo:=1) (hi:=5) d0 (by omega) (by omega)
     obtain⟨e2,d2⟩:=bU (lo:=0) (hi:=4) d1 (by omega) (by omega)
     obtain⟨e3,d3⟩:=aU (lo:=1) (hi:=1048576) d2 (by omega) (by omega) (by omega)
     obtain⟨f0,d10⟩:=aU (lo:=0) (hi:=1048576) d3 (by omega) (by omega) (by omega)
     obtain⟨f1,d11⟩:=aU (lo:=0) (hi:=1048576) d10 (by omega) (by omega) (by omega)
     obtain⟨f2,d12⟩:=aU (lo:=0) (hi:=1048576) d11 (by omega) (by omega) (by omega)
     obtain⟨f3,d13⟩:=aU (lo:=0) (hi:=1048576) d12 (by omega) (by omega) (by omega)
     obtain⟨e5,d5⟩:=aU (lo:=1) (hi:=16777216) d13 (by omega) (by omega) (by omega)
     obtain⟨e6,d6⟩:=bU (lo:=1) (hi:=8) d5 (by omega) (by omega)
     obtain⟨e7,d7⟩:=iy (may:=keyE) d6 g3 hkey
     rw[bk]at e1;rw[br]at e2;rw[Ik]at e6
     simp[dH,iR,ku,kN,aZ.rQ,aZ.put,e1,e2,e3,f0,f1,f2,f3,e5,e6,e7,hl]
     refine⟨?_, ?_⟩
     · simp[own,x1,hv0]
     · rw[←hlen];simp[aQ,others,words,dO,hl];omega
theorem dG {bs:List UInt8} {lo hi c:Int} {s s':Sq} (h:fG bs lo hi s=(c,s')) (h0:s'.2=0):s.2=0∧lo≤c∧c≤hi∧0≤c∧c≤255∧s'.1≤bs.length∧bs.drop s.1=byteOf c::bs.drop s'.1:=by
 unfold fG at h
 split at h
 · rename_i h1;cases h;exact absurd h0 h1
 · rename_i h1
   split at h
   · cases h;cases h0
   · rename_i h2
     split at h
     · rename_i h3
       cases h
       have hb:=UInt8.toNat_lt (bs.getD s.1 0)
       refine⟨by simpa using h1,h3.1,h3.2,by omega,by omega,by dsimp only;omega, ?_⟩
       have hlt:s.1<bs.length:=by omega
       rw[List.drop_eq_getElem_cons hlt]
       congr 1
       apply abL
       have:=fM (n:=((bs.getD s.1 0).toNat:Int)) (by omega) (by omega)
       have e:bs.getD s.1 0=bs[s.1]:=by rw[List.getD_eq_getElem?_getD,List.getElem?_eq_getElem hlt];rfl
       rw[e]at this⊢
       omega
     · cases h;cases h0
theorem bD {bs:List UInt8} {lo hi c:Int} {s s':Sq} (h:eU bs lo hi s=(c,s')) (h0:s'.2=0) (hs:s.1≤bs.length):s.2=0∧lo≤c∧c≤hi∧0≤c∧s'.1≤bs.length∧bs.drop s.1=iL c++bs.drop s'.1:=by
 unfold eU at h
 split at h
 · rename_i h1;cases h;exact absurd h0 h1
 · rename_i h1
   split at h
   · rename_i h2;cases h;exact absurd h0 h2
   · rename_i h2
     split at h
     · rename_i h3
       cases h
       have h2':(dF (bs.drop s.1)).2.2=0:=by simpa using h2
       obtain⟨k1,k2,k3⟩:=YF (l:=bs.drop s.1) (m:=(dF (bs.drop s.1)).1) (k:=(dF (bs.drop s.1)).2.1) (by rw[←h2'])
       rw[List.length_drop]at k2
       refine⟨by simpa using h1,h3.1,h3.2,by omega,by dsimp only;omega, ?_⟩
       have e:iL (((dF (bs.drop s.1)).1:Nat):Int)=aB (dF (bs.drop s.1)).1:=dO _
       rw[e,←k3,←List.drop_drop,List.take_append_drop]
     · cases h;cases h0
theorem iV {bs:List UInt8} {sz:Int} {may:ByteArray→Int} {c:ByteArray} {s s':Sq} (h:fO bs sz may s=(c,s')) (h0:s'.2=0) (hs:s.1≤bs.length) (hz:0≤sz):s.2=0∧(c.size:Int)=sz∧may c=0∧s'.1≤bs.length∧bs.drop s.1=c.data.toList++bs.drop s'.1:=by
 unfold fO at h
 split at h
 · rename_i h1;cases h;exact absurd h0 h1
 · rename_i h1
   split at h
   · cases h;cases h0
   · rename_i h2
     cases h
     dsimp only at h0
     have h3:may (Ig bs s.1 sz.toNat)=0:=by
      split at h0
      · assumption
      · cases h0
     refine⟨by simpa using h1, ?_,h3,by dsimp only;omega, ?_⟩
     · show((Ig bs s.1 sz.toNat).data.size:Int)=sz
       simp only[Ig,List.size_toArray,List.length_take,List.length_drop]
       omega
     · simp only[Ig]
       rw[←List.drop_drop,List.take_append_drop]
theorem wL {k:Int} (h:dK k=false):k=1∨k=2:=by
 simp only[dK,Bool.and_eq_false_iff,bne_eq_false_iff_eq]at h
 exact h
theorem lM {s:ByteArray} (h:keyE s=0):1≤s.size∧s.size≤8∧vX s=true:=by
 unfold keyE at h
 split at h
 · assumption
 · cases h
theorem iW (s:ByteArray) {c:Int} (h:(s.size:Int)=c):byteOf c::s.data.toList=words s:=by
 subst h
 simp[words,byteOf]
theorem oM {e:Ed} (h1:1≤e.k∧e.k≤5) (h2:keyE e.key=0) (h3:e.k=1∨e.k=2) (h4:e.l=0) (h5:e.v.size=0):jE e=0:=by
 unfold jE
 rw[if_neg (by omega),if_neg (by simp[h2]),if_pos h3,if_neg (by simp[h4]),if_neg (by simp[h5])]
theorem qB {e:Ed} (h1:1≤e.k∧e.k≤5) (h2:keyE e.key=0) (h3:dK e.k=true) (h4:0≤e.l∧e.l<2) (h5:eX e.v=0):jE e=0:=by
 have hk: ¬ (e.k=1∨e.k=2):=by
  simp only[dK,Bool.and_eq_true,bne_iff_ne,ne_eq]at h3
  omega
 have hlab:lT e.l=0:=by unfold lT;rw[if_pos h4]
 unfold jE
 rw[if_neg (by omega),if_neg (by simp[h2]),if_neg hk,if_neg (by simp[hlab]),h5]
theorem gI {bs:List UInt8} {lo hi c:Int} {s s':Sq} (h:fG bs lo hi s=(c,s')) (h0:s'.2=0):s.2=0:=(dG h h0).1
theorem bW {bs:List UInt8} {lo hi c:Int} {s s':Sq} (h:eU bs lo hi s=(c,s')) (h0:s'.2=0):s.2=0:=by
 unfold eU at h
 split at h
 · rename_i h1;cases h;exact absurd h0 h1
 · rename_i h1;simpa using h1
theorem jW {bs:List UInt8} {sz:Int} {may:ByteArray→Int} {c:ByteArray} {s s':Sq} (h:fO bs sz may s=(c,s')) (h0:s'.2=0):s.2=0:=by
 unfold fO at h
 split at h
 · rename_i h1;cases h;exact absurd h0 h1
 · rename_i h1;simpa using h1
theorem oq {bs l:List UInt8} {m:Nat} (_hm:m≤bs.length) (h:bs=l++bs.drop m):bs.take m=l:=by
 have h1:bs=bs.take m++bs.drop m:=(List.take_append_drop m bs).symm
 exact List.append_cancel_right (h1.symm.trans h)
theorem YG (bs:List UInt8) {e:Ev} {m:Nat} (h:dH bs (0,0)=(e,(m,0))):eG e=0∧m≤bs.length∧bs.take m=aQ e:=by
 obtain⟨⟨k,s1⟩,e1⟩: ∃p,fG bs 1 5 (0,0)=p:=⟨_,rfl⟩
 obtain⟨⟨R,s2⟩,e2⟩: ∃p,fG bs 0 4 s1=p:=⟨_,rfl⟩
 obtain⟨⟨N,s3⟩,e3⟩: ∃p,eU bs 1 1048576 s2=p:=⟨_,rfl⟩
 have hR0:=FP (bs:=bs) (lo:=0) (hi:=4) (s:=s1)
 rw[e2]at hR0
 rcases(show R=0∨R=1∨R=2∨R=3∨R=4 by simp only at hR0;omega)with rfl|rfl|rfl|rfl|rfl
 · obtain⟨⟨c1,t2⟩,f1⟩: ∃p,eU bs 0 1048576 s3=p:=⟨_,rfl⟩
   obtain⟨⟨c2,t3⟩,f2⟩: ∃p,eU bs 0 1048576 t2=p:=⟨_,rfl⟩
   obtain⟨⟨c3,t4⟩,f3⟩: ∃p,eU bs 0 1048576 t3=p:=⟨_,rfl⟩
   obtain⟨⟨c4,t5⟩,f4⟩: ∃p,eU bs 0 1048576 t4=p:=⟨_,rfl⟩
   obtain⟨⟨H,s5⟩,e5⟩: ∃p,eU bs 1 16777216 t5=p:=⟨_,rfl⟩
   obtain⟨⟨ks,s6⟩,e6⟩: ∃p,fG bs 1 8 s5=p:=⟨_,rfl⟩
   obtain⟨⟨key,s7⟩,e7⟩: ∃p,fO bs ks keyE s6=p:=⟨_,rfl⟩
   obtain⟨⟨l,s8⟩,e8⟩: ∃p,fG bs 0 1 s7=p:=⟨_,rfl⟩
   obtain⟨⟨vs,s9⟩,e9⟩: ∃p,fG bs 1 12 s8=p:=⟨_,rfl⟩
   obtain⟨⟨v,s10⟩,e10⟩: ∃p,fO bs vs eX s9=p:=⟨_,rfl⟩
   have hF:dH bs (0,0)=if dK k then(⟨0,N,⟨N-1,c1,c2,c3,c4⟩,H,k,key,l,v⟩,s10)else(⟨0,N,⟨N-1,c1,c2,c3,c4⟩,H,k,key,0,⟨#[]⟩⟩,s7):=by
    simp[dH,iR,ku,kN,aZ.rQ,aZ.put,e1,e2,e3,f1,f2,f3,f4,e5,e6,e7,e8,e9,e10]
   rw[hF]at h
   cases hl:dK k with
   | false=>
     rw[hl]at h
     simp only[Bool.false_eq_true,if_false,Prod.mk.injEq]at h
     obtain⟨rfl,hs⟩:=h
     have y7:s7.2=0:=by rw[hs]
     have hm:s7.1=m:=by rw[hs]
     have y6:=(jW e7 y7)
     have y5:=(gI e6 y6)
     have yp:=(bW e5 y5)
     have Gt:=(bW f4 yp)
     have Gu:=(bW f3 Gt)
     have Gv:=(bW f2 Gu)
     have y3:=(bW f1 Gv)
     have y2:=(bW e3 y3)
     have y1:=(gI e2 y2)
     obtain⟨_,k1,k2,_,_,u1,b1⟩:=dG e1 y1
     obtain⟨_,r1,r2,_,_,u2,b2⟩:=dG e2 y2
     obtain⟨_,n1,n2,_,u3,b3⟩:=bD e3 y3 u2
     obtain⟨_,m1,mm1,_,v1,g1⟩:=bD f1 Gv u3
     obtain⟨_,m2,mm2,_,v2,g2⟩:=bD f2 Gu v1
     obtain⟨_,m3,mm3,_,v3,g3⟩:=bD f3 Gt v2
     obtain⟨_,m4,mm4,_,v4,g4⟩:=bD f4 yp v3
     obtain⟨_,h1,h2,_,u5,b5⟩:=bD e5 y5 v4
     obtain⟨_,k3,k4,k5,_,u6,b6⟩:=dG e6 y6
     obtain⟨_,q1,q2,u7,b7⟩:=iV e7 y7 u6 k5
     obtain⟨q3,q4,q5⟩:=lM q2
     refine⟨lQ ⟨by dsimp only;omega,by dsimp only;omega,n1,n2,h1,h2,by dsimp only;omega,by dsimp only;omega,by dsimp only;omega,by dsimp only;omega,by dsimp only;omega,by simp[aZ.get], ?_⟩,by rw[←hm];exact u7, ?_⟩
     · exact oM (e:=⟨k,key,0,⟨#[]⟩⟩) ⟨by dsimp only;omega,by dsimp only;omega⟩ q2 (wL hl) rfl rfl
     · refine oq (by rw[←hm];exact u7) (l:=aQ _) ?_
       rw[←hm]
       have b0:bs=bs.drop (0,(0:Int)).1:=rfl
       conv=>lhs;rw[b0,b1,b2,b3,g1,g2,g3,g4,b5,b6,b7]
       simp[aQ,others,hl,←iW key q1]
   | true=>
     rw[hl]at h
     simp only[if_true,Prod.mk.injEq]at h
     obtain⟨rfl,hs⟩:=h
     have TJ:s10.2=0:=by rw[hs]
     have hm:s10.1=m:=by rw[hs]
     have y9:=(jW e10 TJ)
     have y8:=(gI e9 y9)
     have y7:=(gI e8 y8)
     have y6:=(jW e7 y7)
     have y5:=(gI e6 y6)
     have yp:=(bW e5 y5)
     have Gt:=(bW f4 yp)
     have Gu:=(bW f3 Gt)
     have Gv:=(bW f2 Gu)
     have y3:=(bW f1 Gv)
     have y2:=(bW e3 y3)
     have y1:=(gI e2 y2)
     obtain⟨_,k1,k2,_,_,u1,b1⟩:=dG e1 y1
     obtain⟨_,r1,r2,_,_,u2,b2⟩:=dG e2 y2
     obtain⟨_,n1,n2,_,u3,b3⟩:=bD e3 y3 u2
     obtain⟨_,m1,mm1,_,v1,g1⟩:=bD f1 Gv u3
     obtain⟨_,m2,mm2,_,v2,g2⟩:=bD f2 Gu v1
     obtain⟨_,m3,mm3,_,v3,g3⟩:=bD f3 Gt v2
     obtain⟨_,m4,mm4,_,v4,g4⟩:=bD f4 yp v3
     obtain⟨_,h1,h2,_,u5,b5⟩:=bD e5 y5 v4
     obtain⟨_,k3,k4,k5,_,u6,b6⟩:=dG e6 y6
     obtain⟨_,q1,q2,u7,b7⟩:=iV e7 y7 u6 k5
     obtain⟨q3,q4,q5⟩:=lM q2
     obtain⟨_,l1,l2,_,_,u8,b8⟩:=dG e8 y8
     obtain⟨_,l3,l4,l5,_,u9,b9⟩:=dG e9 y9
     obtain⟨_,p1,p2,u10,b10⟩:=iV e10 TJ u9 l5
     refine⟨lQ ⟨by dsimp only;omega,by dsimp only;omega,n1,n2,h1,h2,by dsimp only;omega,by dsimp only;omega,by dsimp only;omega,by dsimp only;omega,by dsimp only;omega,by simp[aZ.get], ?_⟩,by rw[←hm];exact u10, ?_⟩
     · exact qB (e:=⟨k,key,l,v⟩) ⟨by dsimp only;omega,by dsimp only;omega⟩ q2 hl (by dsimp only;omega) p2
     · refine oq (by rw[←hm];exact u10) (l:=aQ _) ?_
       rw[←hm]
       have b0:bs=bs.drop (0,(0:Int)).1:=rfl
       conv=>lhs;rw[b0,b1,b2,b3,g1,g2,g3,g4,b5,b6,b7,b8,b9,b10]
       simp[aQ,others,hl,←iW key q1,←iW v p1]
 · obtain⟨⟨c0,t1⟩,f0⟩: ∃p,eU bs 0 1048576 s3=p:=⟨_,rfl⟩
   obtain⟨⟨c2,t3⟩,f2⟩: ∃p,eU bs 0 1048576 t1=p:=⟨_,rfl⟩
   obtain⟨⟨c3,t4⟩,f3⟩: ∃p,eU bs 0 1048576 t3=p:=⟨_,rfl⟩
   obtain⟨⟨c4,t5⟩,f4⟩: ∃p,eU bs 0 1048576 t4=p:=⟨_,rfl⟩
   obtain⟨⟨H,s5⟩,e5⟩: ∃p,eU bs 1 16777216 t5=p:=⟨_,rfl⟩
   obtain⟨⟨ks,s6⟩,e6⟩: ∃p,fG bs 1 8 s5=p:=⟨_,rfl⟩
   obtain⟨⟨key,s7⟩,e7⟩: ∃p,fO bs ks keyE s6=p:=⟨_,rfl⟩
   obtain⟨⟨l,s8⟩,e8⟩: ∃p,fG bs 0 1 s7=p:=⟨_,rfl⟩
   obtain⟨⟨vs,s9⟩,e9⟩: ∃p,fG bs 1 12 s8=p:=⟨_,rfl⟩
   obtain⟨⟨v,s10⟩,e10⟩: ∃p,fO bs vs eX s9=p:=⟨_,rfl⟩
   have hF:dH bs (0,0)=if dK k then(⟨1,N,⟨c0,N-1,c2,c3,c4⟩,H,k,key,l,v⟩,s10)else(⟨1,N,⟨c0,N-1,c2,c3,c4⟩,H,k,key,0,⟨#[]⟩⟩,s7):=by
    simp[dH,iR,ku,kN,aZ.rQ,aZ.put,e1,e2,e3,f0,f2,f3,f4,e5,e6,e7,e8,e9,e10]
   rw[hF]at h
   cases hl:dK k with
   | false=>
     rw[hl]at h
     simp only[Bool.false_eq_true,if_false,Prod.mk.injEq]at h
     obtain⟨rfl,hs⟩:=h
     have y7:s7.2=0:=by rw[hs]
     have hm:s7.1=m:=by rw[hs]
     have y6:=(jW e7 y7)
     have y5:=(gI e6 y6)
     have yp:=(bW e5 y5)
     have Gt:=(bW f4 yp)
     have Gu:=(bW f3 Gt)
     have Gv:=(bW f2 Gu)
     have y3:=(bW f0 Gv)
     have y2:=(bW e3 y3)
     have y1:=(gI e2 y2)
     obtain⟨_,k1,k2,_,_,u1,b1⟩:=dG e1 y1
     obtain⟨_,r1,r2,_,_,u2,b2⟩:=dG e2 y2
     obtain⟨_,n1,n2,_,u3,b3⟩:=bD e3 y3 u2
     obtain⟨_,m0,mm0,_,v0,g0⟩:=bD f0 Gv u3
     obtain⟨_,m2,mm2,_,v2,g2⟩:=bD f2 Gu v0
     obtain⟨_,m3,mm3,_,v3,g3⟩:=bD f3 Gt v2
     obtain⟨_,m4,mm4,_,v4,g4⟩:=bD f4 yp v3
     obtain⟨_,h1,h2,_,u5,b5⟩:=bD e5 y5 v4
     obtain⟨_,k3,k4,k5,_,u6,b6⟩:=dG e6 y6
     obtain⟨_,q1,q2,u7,b7⟩:=iV e7 y7 u6 k5
     obtain⟨q3,q4,q5⟩:=lM q2
     refine⟨lQ ⟨by dsimp only;omega,by dsimp only;omega,n1,n2,h1,h2,by dsimp only;omega,by dsimp only;omega,by dsimp only;omega,by dsimp only;omega,by dsimp only;omega,by simp[aZ.get], ?_⟩,by rw[←hm];exact u7, ?_⟩
     · exact oM (e:=⟨k,key,0,⟨#[]⟩⟩) ⟨by dsimp only;omega,by dsimp only;omega⟩ q2 (wL hl) rfl rfl
     · refine oq (by rw[←hm];exact u7) (l:=aQ _) ?_
       rw[←hm]
       have b0:bs=bs.drop (0,(0:Int)).1:=rfl
       conv=>lhs;rw[b0,b1,b2,b3,g0,g2,g3,g4,b5,b6,b7]
       simp[aQ,others,hl,←iW key q1]
   | true=>
     rw[hl]at h
     simp only[if_true,Prod.mk.injEq]at h
     obtain⟨rfl,hs⟩:=h
     have TJ:s10.2=0:=by rw[hs]
     have hm:s10.1=m:=by rw[hs]
     have y9:=(jW e10 TJ)
     have y8:=(gI e9 y9)
     have y7:=(gI e8 y8)
     have y6:=(jW e7 y7)
     have y5:=(gI e6 y6)
     have yp:=(bW e5 y5)
     have Gt:=(bW f4 yp)
     have Gu:=(bW f3 Gt)
     have Gv:=(bW f2 Gu)
     have y3:=(bW f0 Gv)
     have y2:=(bW e3 y3)
     have y1:=(gI e2 y2)
     obtain⟨_,k1,k2,_,_,u1,b1⟩:=dG e1 y1
     obtain⟨_,r1,r2,_,_,u2,b2⟩:=dG e2 y2
     obtain⟨_,n1,n2,_,u3,b3⟩:=bD e3 y3 u2
     obtain⟨_,m0,mm0,_,v0,g0⟩:=bD f0 Gv u3
     obtain⟨_,m2,mm2,_,v2,g2⟩:=bD f2 Gu v0
     obtain⟨_,m3,mm3,_,v3,g3⟩:=bD f3 Gt v2
     obtain⟨_,m4,mm4,_,v4,g4⟩:=bD f4 yp v3
     obtain⟨_,h1,h2,_,u5,b5⟩:=bD e5 y5 v4
     obtain⟨_,k3,k4,k5,_,u6,b6⟩:=dG e6 y6
     obtain⟨_,q1,q2,u7,b7⟩:=iV e7 y7 u6 k5
     obtain⟨q3,q4,q5⟩:=lM q2
     obtain⟨_,l1,l2,_,_,u8,b8⟩:=dG e8 y8
     obtain⟨_,l3,l4,l5,_,u9,b9⟩:=dG e9 y9
     obtain⟨_,p1,p2,u10,b10⟩:=iV e10 TJ u9 l5
     refine⟨lQ ⟨by dsimp only;omega,by dsimp only;omega,n1,n2,h1,h2,by dsimp only;omega,by dsimp only;omega,by dsimp only;omega,by dsimp only;omega,by dsimp only;omega,by simp[aZ.get], ?_⟩,by rw[←hm];exact u10, ?_⟩
     · exact qB (e:=⟨k,key,l,v⟩) ⟨by dsimp only;omega,by dsimp only;omega⟩ q2 hl (by dsimp only;omega) p2
     · refine oq (by rw[←hm];exact u10) (l:=aQ _) ?_
       rw[←hm]
       have b0:bs=bs.drop (0,(0:Int)).1:=rfl
       conv=>lhs;rw[b0,b1,b2,b3,g0,g2,g3,g4,b5,b6,b7,b8,b9,b10]
       simp[aQ,others,hl,←iW key q1,←iW v p1]
 · obtain⟨⟨c0,t1⟩,f0⟩: ∃p,eU bs 0 1048576 s3=p:=⟨_,rfl⟩
   obtain⟨⟨c1,t2⟩,f1⟩: ∃p,eU bs 0 1048576 t1=p:=⟨_,rfl⟩
   obtain⟨⟨c3,t4⟩,f3⟩: ∃p,eU bs 0 1048576 t2=p:=⟨_,rfl⟩
   obtain⟨⟨c4,t5⟩,f4⟩: ∃p,eU bs 0 1048576 t4=p:=⟨_,rfl⟩
   obtain⟨⟨H,s5⟩,e5⟩: ∃p,eU bs 1 16777216 t5=p:=⟨_,rfl⟩
   obtain⟨⟨ks,s6⟩,e6⟩: ∃p,fG bs 1 8 s5=p:=⟨_,rfl⟩
   obtain⟨⟨key,s7⟩,e7⟩: ∃p,fO bs ks keyE s6=p:=⟨_,rfl⟩
   obtain⟨⟨l,s8⟩,e8⟩: ∃p,fG bs 0 1 s7=p:=⟨_,rfl⟩
   obtain⟨⟨vs,s9⟩,e9⟩: ∃p,fG bs 1 12 s8=p:=⟨_,rfl⟩
   obtain⟨⟨v,s10⟩,e10⟩: ∃p,fO bs vs eX s9=p:=⟨_,rfl⟩
   have hF:dH bs (0,0)=if dK k then(⟨2,N,⟨c0,c1,N-1,c3,c4⟩,H,k,key,l,v⟩,s10)else(⟨2,N,⟨c0,c1,N-1,c3,c4⟩,H,k,key,0,⟨#[]⟩⟩,s7):=by
    simp[dH,iR,ku,kN,aZ.rQ,aZ.put,e1,e2,e3,f0,f1,f3,f4,e5,e6,e7,e8,e9,e10]
   rw[hF]at h
   cases hl:dK k with
   | false=>
     rw[hl]at h
     simp only[Bool.false_eq_true,if_false,Prod.mk.injEq]at h
     obtain⟨rfl,hs⟩:=h
     have y7:s7.2=0:=by rw[hs]
     have hm:s7.1=m:=by rw[hs]
     have y6:=(jW e7 y7)
     have y5:=(gI e6 y6)
     have yp:=(bW e5 y5)
     have Gt:=(bW f4 yp)
     have Gu:=(bW f3 Gt)
     have OM:=(bW f1 Gu)
     have y3:=(bW f0 OM)
     have y2:=(bW e3 y3)
     have y1:=(gI e2 y2)
     obtain⟨_,k1,k2,_,_,u1,b1⟩:=dG e1 y1
     obtain⟨_,r1,r2,_,_,u2,b2⟩:=dG e2 y2
     obtain⟨_,n1,n2,_,u3,b3⟩:=bD e3 y3 u2
     obtain⟨_,m0,mm0,_,v0,g0⟩:=bD f0 OM u3
     obtain⟨_,m1,mm1,_,v1,g1⟩:=bD f1 Gu v0
     obtain⟨_,m3,mm3,_,v3,g3⟩:=bD f3 Gt v1
     obtain⟨_,m4,mm4,_,v4,g4⟩:=bD f4 yp v3
     obtain⟨_,h1,h2,_,u5,b5⟩:=bD e5 y5 v4
     obtain⟨_,k3,k4,k5,_,u6,b6⟩:=dG e6 y6
     obtain⟨_,q1,q2,u7,b7⟩:=iV e7 y7 u6 k5
     obtain⟨q3,q4,q5⟩:=lM q2
     refine⟨lQ ⟨by dsimp only;omega,by dsimp only;omega,n1,n2,h1,h2,by dsimp only;omega,by dsimp only;omega,by dsimp only;omega,by dsimp only;omega,by dsimp only;omega,by simp[aZ.get], ?_⟩,by rw[←hm];exact u7, ?_⟩
     · exact oM (e:=⟨k,key,0,⟨#[]⟩⟩) ⟨by dsimp only;omega,by dsimp only;omega⟩ q2 (wL hl) rfl rfl
     · refine oq (by rw[←hm];exact u7) (l:=aQ _) ?_
       rw[←hm]
       have b0:bs=bs.drop (0,(0:Int)).1:=rfl
       conv=>lhs;rw[b0,b1,b2,b3,g0,g1,g3,g4,b5,b6,b7]
       simp[aQ,others,hl,←iW key q1]
   | true=>
     rw[hl]at h
     simp only[if_true,Prod.mk.injEq]at h
     obtain⟨rfl,hs⟩:=h
     have TJ:s10.2=0:=by rw[hs]
     have hm:s10.1=m:=by rw[hs]
     have y9:=(jW e10 TJ)
     have y8:=(gI e9 y9)
     have y7:=(gI e8 y8)
     have y6:=(jW e7 y7)
     have y5:=(gI e6 y6)
     have yp:=(bW e5 y5)
     have Gt:=(bW f4 yp)
     have Gu:=(bW f3 Gt)
     have OM:=(bW f1 Gu)
     have y3:=(bW f0 OM)
     have y2:=(bW e3 y3)
     have y1:=(gI e2 y2)
     obtain⟨_,k1,k2,_,_,u1,b1⟩:=dG e1 y1
     obtain⟨_,r1,r2,_,_,u2,b2⟩:=dG e2 y2
     obtain⟨_,n1,n2,_,u3,b3⟩:=bD e3 y3 u2
     obtain⟨_,m0,mm0,_,v0,g0⟩:=bD f0 OM u3
     obtain⟨_,m1,mm1,_,v1,g1⟩:=bD f1 Gu v0
     obtain⟨_,m3,mm3,_,v3,g3⟩:=bD f3 Gt v1
     obtain⟨_,m4,mm4,_,v4,g4⟩:=bD f4 yp v3
     obtain⟨_,h1,h2,_,u5,b5⟩:=bD e5 y5 v4
     obtain⟨_,k3,k4,k5,_,u6,b6⟩:=dG e6 y6
     obtain⟨_,q1,q2,u7,b7⟩:=iV e7 y7 u6 k5
     obtain⟨q3,q4,q5⟩:=lM q2
     obtain⟨_,l1,l2,_,_,u8,b8⟩:=dG e8 y8
     obtain⟨_,l3,l4,l5,_,u9,b9⟩:=dG e9 y9
     obtain⟨_,p1,p2,u10,b10⟩:=iV e10 TJ u9 l5
     refine⟨lQ ⟨by dsimp only;omega,by dsimp only;omega,n1,n2,h1,h2,by dsimp only;omega,by dsimp only;omega,by dsimp only;omega,by dsimp only;omega,by dsimp only;omega,by simp[aZ.get], ?_⟩,by rw[←hm];exact u10, ?_⟩
     · exact qB (e:=⟨k,key,l,v⟩) ⟨by dsimp only;omega,by dsimp only;omega⟩ q2 hl (by dsimp only;omega) p2
     · refine oq (by rw[←hm];exact u10) (l:=aQ _) ?_
       rw[←hm]
       have b0:bs=bs.drop (0,(0:Int)).1:=rfl
       conv=>lhs;rw[b0,b1,b2,b3,g0,g1,g3,g4,b5,b6,b7,b8,b9,b10]
       simp[aQ,others,hl,←iW key q1,←iW v p1]
 · obtain⟨⟨c0,t1⟩,f0⟩: ∃p,eU bs 0 1048576 s3=p:=⟨_,rfl⟩
   obtain⟨⟨c1,t2⟩,f1⟩: ∃p,eU bs 0 1048576 t1=p:=⟨_,rfl⟩
   obtain⟨⟨c2,t3⟩,f2⟩: ∃p,eU bs 0 1048576 t2=p:=⟨_,rfl⟩
   obtain⟨⟨c4,t5⟩,f4⟩: ∃p,eU bs 0 1048576 t3=p:=⟨_,rfl⟩
   obtain⟨⟨H,s5⟩,e5⟩: ∃p,eU bs 1 16777216 t5=p:=⟨_,rfl⟩
   obtain⟨⟨ks,s6⟩,e6⟩: ∃p,fG bs 1 8 s5=p:=⟨_,rfl⟩
   obtain⟨⟨key,s7⟩,e7⟩: ∃p,fO bs ks keyE s6=p:=⟨_,rfl⟩
   obtain⟨⟨l,s8⟩,e8⟩: ∃p,fG bs 0 1 s7=p:=⟨_,rfl⟩
   obtain⟨⟨vs,s9⟩,e9⟩: ∃p,fG bs 1 12 s8=p:=⟨_,rfl⟩
   obtain⟨⟨v,s10⟩,e10⟩: ∃p,fO bs vs eX s9=p:=⟨_,rfl⟩
   have hF:dH bs (0,0)=if dK k then(⟨3,N,⟨c0,c1,c2,N-1,c4⟩,H,k,key,l,v⟩,s10)else(⟨3,N,⟨c0,c1,c2,N-1,c4⟩,H,k,key,0,⟨#[]⟩⟩,s7):=by
    simp[dH,iR,ku,kN,aZ.rQ,aZ.put,e1,e2,e3,f0,f1,f2,f4,e5,e6,e7,e8,e9,e10]
   rw[hF]at h
   cases hl:dK k with
   | false=>
     rw[hl]at h
     simp only[Bool.false_eq_true,if_false,Prod.mk.injEq]at h
     obtain⟨rfl,hs⟩:=h
     have y7:s7.2=0:=by rw[hs]
     have hm:s7.1=m:=by rw[hs]
     have y6:=(jW e7 y7)
     have y5:=(gI e6 y6)
     have yp:=(bW e5 y5)
     have Gt:=(bW f4 yp)
     have Gv:=(bW f2 Gt)
     have OM:=(bW f1 Gv)
     have y3:=(bW f0 OM)
     have y2:=(bW e3 y3)
     have y1:=(gI e2 y2)
     obtain⟨_,k1,k2,_,_,u1,b1⟩:=dG e1 y1
     obtain⟨_,r1,r2,_,_,u2,b2⟩:=dG e2 y2
     obtain⟨_,n1,n2,_,u3,b3⟩:=bD e3 y3 u2
     obtain⟨_,m0,mm0,_,v0,g0⟩:=bD f0 OM u3
     obtain⟨_,m1,mm1,_,v1,g1⟩:=bD f1 Gv v0
     obtain⟨_,m2,mm2,_,v2,g2⟩:=bD f2 Gt v1
     obtain⟨_,m4,mm4,_,v4,g4⟩:=bD f4 yp v2
     obtain⟨_,h1,h2,_,u5,b5⟩:=bD e5 y5 v4
     obtain⟨_,k3,k4,k5,_,u6,b6⟩:=dG e6 y6
     obtain⟨_,q1,q2,u7,b7⟩:=iV e7 y7 u6 k5
     obtain⟨q3,q4,q5⟩:=lM q2
     refine⟨lQ ⟨by dsimp only;omega,by dsimp only;omega,n1,n2,h1,h2,by dsimp only;omega,by dsimp only;omega,by dsimp only;omega,by dsimp only;omega,by dsimp only;omega,by simp[aZ.get], ?_⟩,by rw[←hm];exact u7, ?_⟩
     · exact oM (e:=⟨k,key,0,⟨#[]⟩⟩) ⟨by dsimp only;omega,by dsimp only;omega⟩ q2 (wL hl) rfl rfl
     · refine oq (by rw[←hm];exact u7) (l:=aQ _) ?_
       rw[←hm]
       have b0:bs=bs.drop (0,(0:Int)).1:=rfl
       conv=>lhs;rw[b0,b1,b2,b3,g0,g1,g2,g4,b5,b6,b7]
       simp[aQ,others,hl,←iW key q1]
   | true=>
     rw[hl]at h
     simp only[if_true,Prod.mk.injEq]at h
     obtain⟨rfl,hs⟩:=h
     have TJ:s10.2=0:=by rw[hs]
     have hm:s10.1=m:=by rw[hs]
     have y9:=(jW e10 TJ)
     have y8:=(gI e9 y9)
     have y7:=(gI e8 y8)
     have y6:=(jW e7 y7)
     have y5:=(gI e6 y6)
     have yp:=(bW e5 y5)
     have Gt:=(bW f4 yp)
     have Gv:=(bW f2 Gt)
     have OM:=(bW f1 Gv)
     have y3:=(bW f0 OM)
     have y2:=(bW e3 y3)
     have y1:=(gI e2 y2)
     obtain⟨_,k1,k2,_,_,u1,b1⟩:=dG e1 y1
     obtain⟨_,r1,r2,_,_,u2,b2⟩:=dG e2 y2
     obtain⟨_,n1,n2,_,u3,b3⟩:=bD e3 y3 u2
     obtain⟨_,m0,mm0,_,v0,g0⟩:=bD f0 OM u3
     obtain⟨_,m1,mm1,_,v1,g1⟩:=bD f1 Gv v0
     obtain⟨_,m2,mm2,_,v2,g2⟩:=bD f2 Gt v1
     obtain⟨_,m4,mm4,_,v4,g4⟩:=bD f4 yp v2
     obtain⟨_,h1,h2,_,u5,b5⟩:=bD e5 y5 v4
     obtain⟨_,k3,k4,k5,_,u6,b6⟩:=dG e6 y6
     obtain⟨_,q1,q2,u7,b7⟩:=iV e7 y7 u6 k5
     obtain⟨q3,q4,q5⟩:=lM q2
     obtain⟨_,l1,l2,_,_,u8,b8⟩:=dG e8 y8
     obtain⟨_,l3,l4,l5,_,u9,b9⟩:=dG e9 y9
     obtain⟨_,p1,p2,u10,b10⟩:=iV e10 TJ u9 l5
     refine⟨lQ ⟨by dsimp only;omega,by dsimp only;omega,n1,n2,h1,h2,by dsimp only;omega,by dsimp only;omega,by dsimp only;omega,by dsimp only;omega,by dsimp only;omega,by simp[aZ.get], ?_⟩,by rw[←hm];exact u10, ?_⟩
     · exact qB (e:=⟨k,key,l,v⟩) ⟨by dsimp only;omega,by dsimp only;omega⟩ q2 hl (by dsimp only;omega) p2
     · refine oq (by rw[←hm];exact u10) (l:=aQ _) ?_
       rw[←hm]
       have b0:bs=bs.drop (0,(0:Int)).1:=rfl
       conv=>lhs;rw[b0,b1,b2,b3,g0,g1,g2,g4,b5,b6,b7,b8,b9,b10]
       simp[aQ,others,hl,←iW key q1,←iW v p1]
 · obtain⟨⟨c0,t1⟩,f0⟩: ∃p,eU bs 0 1048576 s3=p:=⟨_,rfl⟩
   obtain⟨⟨c1,t2⟩,f1⟩: ∃p,eU bs 0 1048576 t1=p:=⟨_,rfl⟩
   obtain⟨⟨c2,t3⟩,f2⟩: ∃p,eU bs 0 1048576 t2=p:=⟨_,rfl⟩
   obtain⟨⟨c3,t4⟩,f3⟩: ∃p,eU bs 0 1048576 t3=p:=⟨_,rfl⟩
   obtain⟨⟨H,s5⟩,e5⟩: ∃p,eU bs 1 16777216 t4=p:=⟨_,rfl⟩
   obtain⟨⟨ks,s6⟩,e6⟩: ∃p,fG bs 1 8 s5=p:=⟨_,rfl⟩
   obtain⟨⟨key,s7⟩,e7⟩: ∃p,fO bs ks keyE s6=p:=⟨_,rfl⟩
   obtain⟨⟨l,s8⟩,e8⟩: ∃p,fG bs 0 1 s7=p:=⟨_,rfl⟩
   obtain⟨⟨vs,s9⟩,e9⟩: ∃p,fG bs 1 12 s8=p:=⟨_,rfl⟩
   obtain⟨⟨v,s10⟩,e10⟩: ∃p,fO bs vs eX s9=p:=⟨_,rfl⟩
   have hF:dH bs (0,0)=if dK k then(⟨4,N,⟨c0,c1,c2,c3,N-1⟩,H,k,key,l,v⟩,s10)else(⟨4,N,⟨c0,c1,c2,c3,N-1⟩,H,k,key,0,⟨#[]⟩⟩,s7):=by
    simp[dH,iR,ku,kN,aZ.rQ,aZ.put,e1,e2,e3,f0,f1,f2,f3,e5,e6,e7,e8,e9,e10]
   rw[hF]at h
   cases hl:dK k with
   | false=>
     rw[hl]at h
     simp only[Bool.false_eq_true,if_false,Prod.mk.injEq]at h
     obtain⟨rfl,hs⟩:=h
     have y7:s7.2=0:=by rw[hs]
     have hm:s7.1=m:=by rw[hs]
     have y6:=(jW e7 y7)
     have y5:=(gI e6 y6)
     have yp:=(bW e5 y5)
     have Gu:=(bW f3 yp)
     have Gv:=(bW f2 Gu)
     have OM:=(bW f1 Gv)
     have y3:=(bW f0 OM)
     have y2:=(bW e3 y3)
     have y1:=(gI e2 y2)
     obtain⟨_,k1,k2,_,_,u1,b1⟩:=dG e1 y1
     obtain⟨_,r1,r2,_,_,u2,b2⟩:=dG e2 y2
     obtain⟨_,n1,n2,_,u3,b3⟩:=bD e3 y3 u2
     obtain⟨_,m0,mm0,_,v0,g0⟩:=bD f0 OM u3
     obtain⟨_,m1,mm1,_,v1,g1⟩:=bD f1 Gv v0
     obtain⟨_,m2,mm2,_,v2,g2⟩:=bD f2 Gu v1
     obtain⟨_,m3,mm3,_,v3,g3⟩:=bD f3 yp v2
     obtain⟨_,h1,h2,_,u5,b5⟩:=bD e5 y5 v3
     obtain⟨_,k3,k4,k5,_,u6,b6⟩:=dG e6 y6
     obtain⟨_,q1,q2,u7,b7⟩:=iV e7 y7 u6 k5
     obtain⟨q3,q4,q5⟩:=lM q2
     refine⟨lQ ⟨by dsimp only;omega,by dsimp only;omega,n1,n2,h1,h2,by dsimp only;omega,by dsimp only;omega,by dsimp only;omega,by dsimp only;omega,by dsimp only;omega,by simp[aZ.get], ?_⟩,by rw[←hm];exact u7, ?_⟩
     · exact oM (e:=⟨k,key,0,⟨#[]⟩⟩) ⟨by dsimp only;omega,by dsimp only;omega⟩ q2 (wL hl) rfl rfl
     · refine oq (by rw[←hm];exact u7) (l:=aQ _) ?_
       rw[←hm]
       have b0:bs=bs.drop (0,(0:Int)).1:=rfl
       conv=>lhs;rw[b0,b1,b2,b3,g0,g1,g2,g3,b5,b6,b7]
       simp[aQ,others,hl,←iW key q1]
   | true=>
     rw[hl]at h
     simp only[if_true,Prod.mk.injEq]at h
     obtain⟨rfl,hs⟩:=h
     have TJ:s10.2=0:=by rw[hs]
     have hm:s10.1=m:=by rw[hs]
     have y9:=(jW e10 TJ)
     have y8:=(gI e9 y9)
     have y7:=(gI e8 y8)
     have y6:=(jW e7 y7)
     have y5:=(gI e6 y6)
     have yp:=(bW e5 y5)
     have Gu:=(bW f3 yp)
     have Gv:=(bW f2 Gu)
     have OM:=(bW f1 Gv)
     have y3:=(bW f0 OM)
     have y2:=(bW e3 y3)
     have y1:=(gI e2 y2)
     obtain⟨_,k1,k2,_,_,u1,b1⟩:=dG e1 y1
     obtain⟨_,r1,r2,_,_,u2,b2⟩:=dG e2 y2
     obtain⟨_,n1,n2,_,u3,b3⟩:=bD e3 y3 u2
     obtain⟨_,m0,mm0,_,v0,g0⟩:=bD f0 OM u3
     obtain⟨_,m1,mm1,_,v1,g1⟩:=bD f1 Gv v0
     obtain⟨_,m2,mm2,_,v2,g2⟩:=bD f2 Gu v1
     obtain⟨_,m3,mm3,_,v3,g3⟩:=bD f3 yp v2
     obtain⟨_,h1,h2,_,u5,b5⟩:=bD e5 y5 v3
     obtain⟨_,k3,k4,k5,_,u6,b6⟩:=dG e6 y6
     obtain⟨_,q1,q2,u7,b7⟩:=iV e7 y7 u6 k5
     obtain⟨q3,q4,q5⟩:=lM q2
     obtain⟨_,l1,l2,_,_,u8,b8⟩:=dG e8 y8
     obtain⟨_,l3,l4,l5,_,u9,b9⟩:=dG e9 y9
     obtain⟨_,p1,p2,u10,b10⟩:=iV e10 TJ u9 l5
     refine⟨lQ ⟨by dsimp only;omega,by dsimp only;omega,n1,n2,h1,h2,by dsimp only;omega,by dsimp only;omega,by dsimp only;omega,by dsimp only;omega,by dsimp only;omega,by simp[aZ.get], ?_⟩,by rw[←hm];exact u10, ?_⟩
     · exact qB (e:=⟨k,key,l,v⟩) ⟨by dsimp only;omega,by dsimp only;omega⟩ q2 hl (by dsimp only;omega) p2
     · refine oq (by rw[←hm];exact u10) (l:=aQ _) ?_
       rw[←hm]
       have b0:bs=bs.drop (0,(0:Int)).1:=rfl
       conv=>lhs;rw[b0,b1,b2,b3,g0,g1,g2,g3,b5,b6,b7,b8,b9,b10]
       simp[aQ,others,hl,←iW key q1,←iW v p1]

section
open Go.RowKit
def WC (x:Int):Prop:=x=0∨x=2∨x=3
theorem wM {bs:List UInt8} {lo hi:Int} {s:Sq} (h:WC s.2):WC (fG bs lo hi s).2.2:=by
 unfold fG
 split
 · exact h
 · split
   · exact .inr (.inl rfl)
   · split
     · exact .inl rfl
     · exact .inr (.inr rfl)
theorem Gw {bs:List UInt8} {lo hi:Int} {s:Sq} (h:WC s.2):WC (eU bs lo hi s).2.2:=by
 unfold eU
 split
 · exact h
 · split
   · have h:gW ((bs.drop s.1).take 10) 0 0=dF (bs.drop s.1):=rfl
     have:=Gq ((bs.drop s.1).take 10) 0 0
     rw[h]at this
     exact this
   · split
     · exact .inl rfl
     · exact .inr (.inr rfl)
theorem JC {bs:List UInt8} {sz:Int} {may:ByteArray→Int} {s:Sq} (h:WC s.2):WC (fO bs sz may s).2.2:=by
 unfold fO
 split
 · exact h
 · split
   · exact .inr (.inl rfl)
   · dsimp only
     split
     · exact .inl rfl
     · exact .inr (.inr rfl)
theorem Vg {bs:List UInt8} {r:Int} {j:Nat} {s:Sq} (h:WC s.2):WC (kN bs r j s).2.2:=by
 unfold kN
 split
 · exact h
 · exact Gw h
theorem JD {bs:List UInt8} {r:Int} {s:Sq} (h:WC s.2): ∀j,WC (ku bs r s j).2.2
  |0=>h
  |j+1=>Vg (JD h j)
theorem QW (bs:List UInt8):WC (dH bs (0,0)).2.2:=by
 have h6:WC (fO bs (fG bs 1 8 (eU bs 1 16777216 (iR bs (fG bs 0 4 (fG bs 1 5 (0,0)).2).1 (eU bs 1 1048576 (fG bs 0 4 (fG bs 1 5 (0,0)).2).2).2).2).2).1 keyE (fG bs 1 8 (eU bs 1 16777216 (iR bs (fG bs 0 4 (fG bs 1 5 (0,0)).2).1 (eU bs 1 1048576 (fG bs 0 4 (fG bs 1 5 (0,0)).2).2).2).2).2).2).2.2:=
  JC (wM (Gw (JD (Gw (wM (wM (.inl rfl)))) 5)))
 unfold dH
 dsimp only
 split
 · exact JC (wM (wM h6))
 · exact h6
theorem uI (bs:List UInt8):(∃e m,ni bs=(e,m,0)∧eG e=0∧m≤bs.length∧bs.take m=aQ e∧m=(aQ e).length)∨ni bs=(LU,0,2)∨ni bs=(LU,0,3):=by
 obtain⟨⟨e,m,x⟩,hf⟩: ∃p,dH bs (0,0)=p:=⟨_,rfl⟩
 have he:=QW bs
 rw[hf]at he
 unfold ni
 rw[hf]
 rcases he with h|h|h<;>dsimp only at h<;>subst h
 · obtain⟨h1,h2,h3⟩:=YG bs hf
   refine .inl ⟨e,m,by simp,h1,h2,h3, ?_⟩
   rw[←h3,List.length_take]
   omega
 · exact .inr (.inl (by simp))
 · exact .inr (.inr (by simp))
theorem Vh (e:Ev) (h:eG e=0) (rest:List UInt8):ni (aQ e++rest)=(e,(aQ e).length,0):=by
 unfold ni
 rw[Vf e h rest]
 simp
theorem Ch.pz {n:Nat} {sc:Bool} {F:Nat→List AV} {l:List UInt8} {xs ys:List AV} (h:bF F l) (hn:n=l.length) (k:Ch xs ys):Ch (.sl 1 n sc F::xs) (.sl 1 l.length sc (aX l)::ys):=
 .of (fun X u hu=>aj.pz (sc:=sc) h hn X u hu) k
theorem take_any {n:Nat} {F:Nat→List AV} (l:List UInt8) {e:Ev} {m:Nat} {x:Int} (ht:ni l=(e,m,x)) (hF:bF F l) (hn:n=l.length) (hl:l.length≤1000000000):
  aH Tryz.prog 114 [.sl 1 n true F] (.dM [e.av,.v (.int .i64 (m:Int)),.v (.int .i64 x)]) []:=by
 have h:=Vd l hl
 rw[ht]at h
 exact h.args (Ch.pz hF hn .nil)
end
end Go.Proofs.YtimhagicagdkfaaGreat
