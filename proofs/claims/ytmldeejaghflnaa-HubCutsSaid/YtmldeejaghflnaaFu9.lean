/-
  Contracts of the walk: Vin, EvW, EvEq, Rec, FitA, FitP, RecP, RecF, Shape.
-/
import Derived.Test.YtmldeejaghflnaaFu6
import Derived.Laws.StructEq
import Derived.Laws.Cover2
import Derived.Test.YtmldeejaghflnaaFu8
import Derived.Test.YtmldeejaghflnaaFu1
import Derived.WalkSpells
import Derived.WalkLawsBesides
import Derived.Handy
import Derived.WideMake
import Derived.Lib.Hide
/-
 What package varint,and its reference,compute.
-/
namespace Go.Proofs.Ytmldeejaghflnaa
open Go.RowKit
theorem byte_nat {n : Nat} (h : n < 256) : ((UInt8.ofNat n).toNat : Int) = n := by
 rw [UInt8.toNat_ofNat',Nat.mod_eq_of_lt (by omega)]
set_option maxRecDepth 100000 in
theorem vput_spec (d n : Nat) (h1 : n ≤ 4294967296) : ASpec Try.prog 58 [.v (.int .u64 (n : Int))] (.own d) [(d, .row 5 1 (vput n).length true (bytesF (vput n)))] := by
 have hst := vput_start n h1
 refine aspec_of lay_ok 45 Try.func58 rfl rfl rfl ?_
 repeat' ((conv => whnf); first | refine K1.a ?_ | refine K1.b ?_ | refine K1.c ?_ | refine K1.d ?_ | refine K1.e ?_ | refine K1.f ?_ | refine Spl.mk (fun _ => ?_) (fun _ => ?_) | refine SNil.mk (fun _ => ?_) ?_ | refine K1.g ?_ | refine ASl.frz ?_ | refine Wr.b64 ?_ | refine Wr.bu64 ?_ | refine Wr.bu32 ?_ | refine Wr.bu8 ?_ | refine K1.u8 ?_ | refine K1.u64 ?_ | refine K1.u32 ?_ | refine K1.h ?_ | refine K1.i ?_ | refine K1.q ?_ | refine K1.j ?_ | refine K1.k ?_ | refine BSpl.dec (fun _ => ?_) (fun _ => ?_) | refine K1.l ?_ | refine K1.n ?_ | refine BSpl.mk (fun _ => ?_) (fun _ => ?_))
 refine ALoop.nil 3 90 5 1 (bytesF []) rfl (by omega) ?_
 refine ALoop.mk { x : List UInt8 × Nat × Nat // x.1 ++ vputF x.2.2 x.2.1 = vput n ∧ x.2.1 < 128 ^ (x.2.2 + 1) ∧ x.1.length ≤ 10 ∧ x.2.1 ≤ 4294967296 }
  (fun x => ⟨[(0, .v (.int .u64 (x.1.2.1 : Int))),(3, .own 90)],[(90, .row 5 1 x.1.1.length true (bytesF x.1.1))],[],91⟩) (fun x => x.1.2.1)
  ⟨([],n,9),hst.1,hst.2,by simp,h1⟩ _ (LeR.auto _ _ _ rfl ⟨AEq.refl _,AEq.refl _,trivial⟩ ⟨⟨_,rfl,OEq.refl _⟩,trivial⟩ rfl) ?_
 rintro ⟨⟨acc,m,f⟩,i1,i2,i3,i4⟩
 dsimp only at i1 i2 i3 i4 ⊢
 have hl : acc.length + (vputF f m).length ≤ 10 := by
  have := congrArg List.length i1
  have := vputF_le 9 n
  simp only [List.length_append,vput] at *
  omega
 have hp := vputF_pos f m
 repeat' ((conv => whnf); first | refine K1.a ?_ | refine K1.b ?_ | refine K1.c ?_ | refine K1.d ?_ | refine K1.e ?_ | refine K1.f ?_ | refine Spl.mk (fun _ => ?_) (fun _ => ?_) | refine SNil.mk (fun _ => ?_) ?_ | refine K1.g ?_ | refine ASl.frz ?_ | refine Wr.b64 ?_ | refine Wr.bu64 ?_ | refine Wr.bu32 ?_ | refine Wr.bu8 ?_ | refine K1.u8 ?_ | refine K1.u64 ?_ | refine K1.u32 ?_ | refine K1.h ?_ | refine K1.i ?_ | refine K1.q ?_ | refine K1.j ?_ | refine K1.k ?_ | refine BSpl.dec (fun _ => ?_) (fun _ => ?_) | refine K1.l ?_ | refine K1.n ?_ | refine BSpl.mk (fun _ => ?_) (fun _ => ?_))
 · obtain ⟨f',k1,k2⟩ := vput_round i1 i2 (by omega)
   refine ⟨⟨(acc ++ [UInt8.ofNat (m % 128 + 128)],m / 128,f'),k1,k2,by simp; omega,by dsimp only; omega⟩,_,LeR.auto _ _ _ rfl ⟨AEq.int (by dsimp only; omega),AEq.refl _,trivial⟩ ⟨⟨_,rfl,OEq.row (by simp) (els_app1 rfl ?_)⟩,trivial⟩ rfl,by show m / 128 < m; omega⟩
   simp only [chunk,bC,byte_nat (show m % 128 + 128 < 256 by omega)]
   rfl
 · have e := vput_last i1 (by omega)
   refine ARet.ownX d rfl rfl (OEq.row ?_ ?_) (AEq.refl _)
   · rw [← e]; simp
   · rw [← e]
     refine els_app1 rfl ?_
     simp only [chunk,bC,byte_nat (show m < 256 by omega)]
     rfl
end Go.Proofs.Ytmldeejaghflnaa

/-
 What event.Put computes.
-/
namespace Go.Proofs.Ytmldeejaghflnaa
open Go.RowKit
set_option maxHeartbeats 2000000 in
set_option maxRecDepth 100000 in
theorem put_yes_spec (d : Nat) (e : Ev) (h : mayE e = 0) : ASpec Try.prog 57 [e.av] (.tup [.own d, .v (.int .i64 0)]) [(d, .row 5 1 (evBytes e).length true (bytesF (evBytes e)))] := by
 have m := mayE_zero h
 have g := editE_zero m.ed
 obtain ⟨r,n,⟨c0,c1,c2,c3,c4⟩,hh,k,key,l,v⟩ := e
 obtain ⟨r0,r4,n1,n2,h1,h2,a0,a1,a2,a3,a4,own,ed⟩ := m
 dsimp only [Ev.ed] at r0 r4 n1 n2 h1 h2 a0 a1 a2 a3 a4 g
 obtain ⟨g1,g2,g3,g4,g5,g6,g7⟩ := g
 have g8 : v.size ≤ 12 ∧ 0 ≤ l ∧ l ≤ 1 := by
  cases hl : isLong k with
  | true => have := g6 hl; omega
  | false => have := g7 hl; omega
 clear own ed
 obtain ⟨n,rfl⟩ := Int.eq_ofNat_of_zero_le (show 0 ≤ n by omega)
 obtain ⟨hh,rfl⟩ := Int.eq_ofNat_of_zero_le (show 0 ≤ hh by omega)
 obtain ⟨c0,rfl⟩ := Int.eq_ofNat_of_zero_le a0.1
 obtain ⟨c1,rfl⟩ := Int.eq_ofNat_of_zero_le a1.1
 obtain ⟨c2,rfl⟩ := Int.eq_ofNat_of_zero_le a2.1
 obtain ⟨c3,rfl⟩ := Int.eq_ofNat_of_zero_le a3.1
 obtain ⟨c4,rfl⟩ := Int.eq_ofNat_of_zero_le a4.1
 have q (x : Nat) : (vput x).length ≤ 10 := vputF_le 9 x
 have q0 := q n
 have q1 := q hh
 have q2 := q c0
 have q3 := q c1
 have q4 := q c2
 have q5 := q c3
 have q6 := q c4
 clear q
 dsimp only [Ev.av,Ev.cs]
 rcases (show r = 0 ∨ r = 1 ∨ r = 2 ∨ r = 3 ∨ r = 4 by omega) with rfl | rfl | rfl | rfl | rfl
 all_goals
  refine aspec_of lay_ok 4503740824429567 Try.func57 rfl rfl rfl ?_
  repeat' ((conv => whnf); first | refine K1.a ?_ | refine K1.b ?_ | refine K1.c ?_ | refine K1.d ?_ | refine K1.e ?_ | refine K1.f ?_ | refine ACall.plain _ _ (may_spec ⟨_,(n : Int),⟨(c0 : Int),(c1 : Int),(c2 : Int),(c3 : Int),(c4 : Int)⟩,(hh : Int),k,key,l,v⟩) (SubL.cons (.eq _) .nil) rfl ?_ | refine ACall.fresh _ _ _ _ _ _ _ (vput_spec _ _ (by omega)) (SubL.cons (.eq _) .nil) rfl ?_ | refine ACall.plain _ _ (isLong_spec _) (SubL.cons (.eq _) .nil) rfl ?_ | refine ALoop.rounds 6 ?_ | refine ACall.into 3 _ _ Try.func81 rfl rfl rfl ?_ | refine ACall.into 3 _ _ Try.func82 rfl rfl rfl ?_ | refine Spl.mk (fun _ => ?_) (fun _ => ?_) | refine SNil.mk (fun _ => ?_) ?_ | refine K1.g ?_ | refine ASl.frz ?_ | refine Wr.b64 ?_ | refine Wr.bu64 ?_ | refine Wr.bu32 ?_ | refine Wr.bu8 ?_ | refine K1.u8 ?_ | refine K1.u64 ?_ | refine K1.u32 ?_ | refine K1.h ?_ | refine K1.i ?_ | refine K1.q ?_ | refine ADraw.sched (id := 0) lay_ok (awp_snd lay_ok _) [(0,none),(1,none),(2,none),(3,some [2]),(4,some [2,0]),(5,some [2,0])] [(3,[2]),(4,[2,0]),(5,[2,0])] follows_ok (by kernel_rfl) ?_ | refine K1.j ?_ | refine K1.k ?_ | refine BSpl.dec (fun _ => ?_) (fun _ => ?_) | refine K1.l ?_ | refine K1.n ?_ | refine BSpl.mk (fun _ => ?_) (fun _ => ?_))
  all_goals (refine ARet.ownX d rfl rfl ?_ (AEq.refl _); apply OEq.isB)
  all_goals (try (repeat' (first | exact IsB.bytes _ | exact IsB.str _ | exact IsB.one (by omega) (by omega) | exact IsB.two (by omega) (by omega) (by omega) (by omega) | apply IsB.app)))
  all_goals first
    | (simp only [List.length_append,List.length_cons,List.length_nil,str_len]; try omega; done)
    | (simp [evBytes,others,words,vputI,byteOf,byteOf', *]; done)
end Go.Proofs.Ytmldeejaghflnaa

/-
 Two events are equal just if all of theirs is: what the comparison of the program tells.
-/
namespace Go.Proofs.Ytmldeejaghflnaa
open Go.RowKit
def Clk.vs (c : Clk) : List Value := [.int .i64 c.c0, .int .i64 c.c1, .int .i64 c.c2, .int .i64 c.c3, .int .i64 c.c4]
def Ev.vs (e : Ev) : List Value := [.int .i64 e.r, .int .i64 e.n, .int .i64 e.c.c0, .int .i64 e.c.c1, .int .i64 e.c.c2, .int .i64 e.c.c3, .int .i64 e.c.c4, .int .i64 e.h, .int .i64 e.k, .string e.key, .int .i64 e.l, .string e.v]
theorem bytes_inj {a b : ByteArray} (h : a.data.toList = b.data.toList) : a = b := by
 cases a; cases b
 simp only at h
 rw [Array.toList_inj.1 h]
theorem tl_iff (a b : ByteArray) : a.toList = b.toList ↔ a = b := by
 rw [ByteArray.toList_eq,ByteArray.toList_eq]
 exact ⟨bytes_inj,fun h => by rw [h]⟩
theorem ev_guard : Try.prog.eqGuardType Try.prog.depth 66 = false := by kernel_rfl
theorem clk_eqIn (n : Nat) (a0 a1 a2 a3 a4 b0 b1 b2 b3 b4 : Int) (w : World) : (Op.equalIn (n + 2) 31 (.agg #[.int .i64 a0, .int .i64 a1, .int .i64 a2, .int .i64 a3, .int .i64 a4]) (.agg #[.int .i64 b0, .int .i64 b1, .int .i64 b2, .int .i64 b3, .int .i64 b4])).run Try.prog w =
  .ok (decide (a0 = b0 ∧ a1 = b1 ∧ a2 = b2 ∧ a3 = b3 ∧ a4 = b4)) w := by
 rw [Op.equalIn]
 simp only [Sem.run_bind,run_underlying Try.underlying31,Result.andThen_ok]
 simp only [Std.Legacy.Range.forIn_eq_forIn_range',Std.Legacy.Range.size,Nat.sub_zero,Nat.add_sub_cancel,Nat.div_one,List.range'_succ,List.range'_zero,List.forIn_cons,List.forIn_nil]
 have u3 := Try.underlying3
 have a3 := Try.isAgg3
 have z3 := Try.sizeOf3
 go_simp
 repeat' split
 all_goals simp_all
theorem Clk.eq_iff (a b : Clk) : (a.c0 = b.c0 ∧ a.c1 = b.c1 ∧ a.c2 = b.c2 ∧ a.c3 = b.c3 ∧ a.c4 = b.c4) ↔ a = b := by
 obtain ⟨a0,a1,a2,a3,a4⟩ := a
 obtain ⟨b0,b1,b2,b3,b4⟩ := b
 simp
theorem clk_guard : Try.prog.eqGuardType Try.prog.depth 31 = false := by kernel_rfl
theorem clk_eq (a b : Clk) : EqFact Try.prog 31 a.vs b.vs (a = b) :=
 ⟨clk_guard,fun w => ⟨_,by rw [decide_eq_true_eq,Clk.eq_iff],clk_eqIn 9998 _ _ _ _ _ _ _ _ _ _ w⟩⟩
theorem ev_eqIn (a b : Ev) (w : World) : (Op.equalIn 10000 66 (.agg a.vs.toArray) (.agg b.vs.toArray)).run Try.prog w =
  .ok (decide (a.r = b.r ∧ a.n = b.n ∧ (a.c.c0 = b.c.c0 ∧ a.c.c1 = b.c.c1 ∧ a.c.c2 = b.c.c2 ∧ a.c.c3 = b.c.c3 ∧ a.c.c4 = b.c.c4) ∧ a.h = b.h ∧ a.k = b.k ∧ a.key = b.key ∧ a.l = b.l ∧ a.v = b.v)) w := by
 have hS : Try.prog.underlying 66 = some (.struct (Try.prog.fieldsOf 66)) := by kernel_rfl
 have u3 := Try.underlying3
 have a3 := Try.isAgg3
 have z3 := Try.sizeOf3
 have u4 := Try.underlying9
 have a4 := Try.isAgg9
 have z4 := Try.sizeOf9
 have a5 := Try.isAgg31
 have z5 := Try.sizeOf31
 rw [show (10000 : Nat) = 9999 + 1 from rfl,run_equalIn_agg w 9999 66 _ _ hS (by kernel_rfl)]
 simp only [Program.fieldsOf,Try.underlying66]
 have hk := clk_eqIn 9997
 unfold Ev.vs
 go_simp
 simp only [tl_iff]
 repeat' split
 all_goals simp_all
theorem Ev.eq_iff (a b : Ev) : (a.r = b.r ∧ a.n = b.n ∧ (a.c.c0 = b.c.c0 ∧ a.c.c1 = b.c.c1 ∧ a.c.c2 = b.c.c2 ∧ a.c.c3 = b.c.c3 ∧ a.c.c4 = b.c.c4) ∧ a.h = b.h ∧ a.k = b.k ∧ a.key = b.key ∧ a.l = b.l ∧ a.v = b.v) ↔ a = b := by
 rw [Clk.eq_iff]
 obtain ⟨a0,a1,a2,a3,a4,a5,a6,a7⟩ := a
 obtain ⟨b0,b1,b2,b3,b4,b5,b6,b7⟩ := b
 simp
theorem ev_eq (a b : Ev) : EqFact Try.prog 66 a.vs b.vs (a = b) :=
 ⟨ev_guard,fun w => ⟨_,by rw [decide_eq_true_eq,Ev.eq_iff],ev_eqIn a b w⟩⟩
end Go.Proofs.Ytmldeejaghflnaa

/-
 What package record computes: which records may be,and their bytes.
-/
namespace Go.Proofs.Ytmldeejaghflnaa
open Go.RowKit
set_option maxRecDepth 100000 in
theorem rcFields_spec (k : Int) : ASpec Try.prog 91 [.v (.int .i64 k)] (.tup [.v (.bool (rcU k)), .v (.bool (rcE k)), .v (.bool (rcC k)), .v (.bool (rcK k))]) [] := by
 refine aspec_of lay_ok 43261 Try.func91 rfl rfl rfl ?_
 repeat' ((conv => whnf); first | refine K1.a ?_ | refine K1.b ?_ | refine K1.c ?_ | refine K1.d ?_ | refine K1.e ?_ | refine K1.f ?_ | refine ARet.hdI ?_ | refine Spl.mk (fun _ => ?_) (fun _ => ?_) | refine SNil.mk (fun _ => ?_) ?_ | refine K1.g ?_ | refine ASl.frz ?_ | refine Wr.b64 ?_ | refine Wr.bu64 ?_ | refine Wr.bu32 ?_ | refine Wr.bu8 ?_ | refine K1.u8 ?_ | refine K1.u64 ?_ | refine K1.u32 ?_ | refine K1.h ?_ | refine K1.i ?_ | refine K1.q ?_ | refine K1.j ?_ | refine K1.k ?_ | refine BSpl.dec (fun _ => ?_) (fun _ => ?_) | refine K1.l ?_ | refine K1.n ?_ | refine BSpl.mk (fun _ => ?_) (fun _ => ?_))
 all_goals (conv => whnf)
 all_goals (refine AEqI.mk (AEq.of ?_))
 all_goals first | (subst_vars; rfl) | (simp [rcU,rcE,rcC,rcK, *]; omega)
theorem rcCount_spec (n : Int) : ASpec Try.prog 101 [.v (.int .i64 n)] (.v (.bool (okN n))) [] := by
 refine aspec_of lay_ok 5 Try.func101 rfl rfl rfl ?_
 repeat' ((conv => whnf); first | refine K1.a ?_ | refine K1.b ?_ | refine K1.c ?_ | refine K1.d ?_ | refine K1.e ?_ | refine K1.f ?_ | refine ARet.hdI ?_ | refine Spl.mk (fun _ => ?_) (fun _ => ?_) | refine SNil.mk (fun _ => ?_) ?_ | refine K1.g ?_ | refine ASl.frz ?_ | refine Wr.b64 ?_ | refine Wr.bu64 ?_ | refine Wr.bu32 ?_ | refine Wr.bu8 ?_ | refine K1.u8 ?_ | refine K1.u64 ?_ | refine K1.u32 ?_ | refine K1.h ?_ | refine K1.i ?_ | refine K1.q ?_ | refine K1.j ?_ | refine K1.k ?_ | refine BSpl.dec (fun _ => ?_) (fun _ => ?_) | refine K1.l ?_ | refine K1.n ?_ | refine BSpl.mk (fun _ => ?_) (fun _ => ?_))
 all_goals (conv => whnf)
 all_goals (refine AEqI.mk (AEq.of ?_))
 all_goals simp [okN,withinB, *]
theorem all_no {l : List Ev} {j : Nat} (hj : j < l.length) (h : ¬ mayE (l.getD j default) = 0) : l.all (fun e => decide (mayE e = 0)) = false := by
 rw [List.all_eq_false]
 refine ⟨l[j],List.getElem_mem hj,?_⟩
 rw [List.getD,List.getElem?_eq_getElem hj] at h
 simpa using h
theorem all_yes {l : List Ev} (h : ∀ i,i < l.length → mayE (l.getD i default) = 0) : l.all (fun e => decide (mayE e = 0)) = true := by
 rw [List.all_eq_true]
 intro e he
 obtain ⟨i,hi,rfl⟩ := List.mem_iff_getElem.1 he
 have := h i hi
 rw [List.getD,List.getElem?_eq_getElem hi] at this
 simpa using this
theorem rcFields_no (k : Int) (h : ¬ (1 ≤ k ∧ k ≤ 6)) : ASpec Try.prog 91 [.v (.int .i64 k)] (.tup [.v (.bool false), .v (.bool false), .v (.bool false), .v (.bool false)]) [] := by
 have := rcFields_spec k
 rw [show rcU k = false by simp [rcU]; omega,show rcE k = false by simp [rcE]; omega,show rcC k = false by simp [rcC]; omega,show rcK k = false by simp [rcK]; omega] at this
 exact this
set_option maxHeartbeats 8000000 in
set_option maxRecDepth 100000 in
theorem rcMay_spec (x : Rc) (hl : x.ev.length ≤ 140737488355328) : ASpec Try.prog 90 [x.av] (.v (.bool (mayR x))) [] := by
 obtain ⟨k,r,u,⟨c0,c1,c2,c3,c4⟩,ev⟩ := x
 dsimp only at hl
 rcases (show k = 1 ∨ k = 2 ∨ k = 3 ∨ k = 4 ∨ k = 5 ∨ k = 6 ∨ ¬ (1 ≤ k ∧ k ≤ 6) by omega) with rfl | rfl | rfl | rfl | rfl | rfl | hk
 all_goals dsimp only [Rc.av,Rc.cs]
 all_goals
  refine aspec_of lay_ok 327921128571721606894716287 Try.func90 rfl rfl rfl ?_
  repeat' ((conv => whnf); first | refine K1.a ?_ | refine K1.b ?_ | refine K1.c ?_ | refine K1.d ?_ | refine K1.e ?_ | refine K1.f ?_ | refine ACall.plain _ _ (rcFields_no _ hk) (SubL.cons (.eq _) .nil) rfl ?_ | refine ACall.plain _ _ (rcFields_spec _) (SubL.cons (.eq _) .nil) rfl ?_ | refine ACall.plain _ _ (rcCount_spec _) (SubL.cons (.eq _) .nil) rfl ?_ | refine ALoop.unr 45 6 rfl ?_ | refine EqA.mk (Clk.vs ⟨c0,c1,c2,c3,c4⟩) (Clk.vs clk0) (Clk.mk c0 c1 c2 c3 c4 = clk0) rfl rfl (clk_eq _ _) ?_ | refine ARet.hdI ?_ | refine Spl.mk (fun _ => ?_) (fun _ => ?_) | refine SNil.mk (fun _ => ?_) ?_ | refine K1.g ?_ | refine ASl.frz ?_ | refine Wr.b64 ?_ | refine Wr.bu64 ?_ | refine Wr.bu32 ?_ | refine Wr.bu8 ?_ | refine K1.u8 ?_ | refine K1.u64 ?_ | refine K1.u32 ?_ | refine K1.h ?_ | refine K1.i ?_ | refine K1.q ?_ | refine K1.j ?_ | refine K1.k ?_ | refine BSpl.dec (fun _ => ?_) (fun _ => ?_) | refine K1.l ?_ | refine K1.n ?_ | refine BSpl.mk (fun _ => ?_) (fun _ => ?_))
  all_goals (conv => whnf)
  all_goals first
    | refine AEqI.mk (AEq.of ?_)
    | refine ALoop.mk { j : Nat // j ≤ ev.length ∧ ∀ i,i < j → mayE (ev.getD i default) = 0 } (fun j => ⟨[(1, .box 0 0),(80, .sl 12 ev.length true (evF ev)),(81, .v (.int .i64 (ev.length : Int))),(82, .v (.int .i64 (j.1 : Int)))],
       [(0, .box 83 [.v (.int .i64 _), .v (.int .i64 r), .v (.int .i64 u), .v (.int .i64 c0), .v (.int .i64 c1), .v (.int .i64 c2), .v (.int .i64 c3), .v (.int .i64 c4), .sl 12 ev.length true (evF ev)])],[],4⟩) (fun j => ev.length - j.1) ⟨0,Nat.zero_le _,fun i h => absurd h (Nat.not_lt_zero i)⟩ _
       (LeR.mk' [] _ _ _ rfl ⟨AEq.refl _,AEq.refl _,AEq.refl _,AEq.int rfl,trivial⟩ ⟨⟨_,rfl,OEq.refl _⟩,trivial⟩ rfl) ?_
  all_goals try (simp [mayR,rcK,rcU,rcE,rcC,okC,clkZ_iff, -List.length_eq_zero_iff, *] <;> omega; done)
  all_goals (rintro ⟨j,hj,hall⟩; dsimp only)
  all_goals repeat' ((conv => whnf); first | refine K1.a ?_ | refine K1.b ?_ | refine K1.c ?_ | refine K1.d ?_ | refine K1.e ?_ | refine K1.f ?_ | refine ACall.plain _ _ (may_spec (ev.getD (j : Int).toNat default)) (SubL.cons (.eq _) .nil) rfl ?_ | refine ARet.hdI ?_ | refine Spl.mk (fun _ => ?_) (fun _ => ?_) | refine SNil.mk (fun _ => ?_) ?_ | refine K1.g ?_ | refine ASl.frz ?_ | refine Wr.b64 ?_ | refine Wr.bu64 ?_ | refine Wr.bu32 ?_ | refine Wr.bu8 ?_ | refine K1.u8 ?_ | refine K1.u64 ?_ | refine K1.u32 ?_ | refine K1.h ?_ | refine K1.i ?_ | refine K1.q ?_ | refine K1.j ?_ | refine K1.k ?_ | refine BSpl.dec (fun _ => ?_) (fun _ => ?_) | refine K1.l ?_ | refine K1.n ?_ | refine BSpl.mk (fun _ => ?_) (fun _ => ?_))
  all_goals first
    | (conv => whnf
       refine ⟨⟨j + 1,by omega,fun i hi => ?_⟩,_,LeR.mk' [] _ _ _ rfl ⟨AEq.refl _,AEq.refl _,AEq.refl _,AEq.int rfl,trivial⟩ ⟨⟨_,rfl,OEq.refl _⟩,trivial⟩ rfl,by show ev.length - (j + 1) < ev.length - j; omega⟩
       rcases Nat.lt_or_ge i j with h | h
       · exact hall i h
       · rw [show i = j by omega]
         exact ‹mayE (ev.getD (j : Int).toNat default) = 0›)
    | (conv => whnf
       refine AEqI.mk (AEq.of ?_)
       have hno := all_no (l := ev) (j := j) (by omega) ‹¬ mayE (ev.getD (j : Int).toNat default) = 0›
       simp [mayR,hno])
    | (conv => whnf
       refine AEqI.mk (AEq.of ?_)
       have hyes := all_yes (l := ev) (fun i hi => hall i (by omega))
       simp [mayR,show okN 0 = true from rfl,rcK,rcU,rcE,rcC,okC,clkZ_iff, -List.length_eq_zero_iff, *] <;> omega)
def evsB (l : List Ev) : List UInt8 := l.flatMap evBytes
def clkB (c : Clk) : List UInt8 := vputI c.c0 ++ vputI c.c1 ++ vputI c.c2 ++ vputI c.c3 ++ vputI c.c4
def rcBody (x : Rc) : List UInt8 :=
 [byteOf x.k,byteOf x.r] ++ (if rcU x.k then vputI x.u else []) ++ (if rcC x.k then clkB x.c else []) ++ (if rcE x.k then vput x.ev.length ++ evsB x.ev else [])
def rcBytes (x : Rc) : List UInt8 := vput (sealB (rcBody x)).length ++ sealB (rcBody x)
theorem rcPut_no (x : Rc) (hl : x.ev.length ≤ 140737488355328) (h : mayR x = false) : ASpec Try.prog 74 [x.av] (.tup [.v (.slice none 0 0), .v (.int .i64 1)]) [] := by
 have hm := rcMay_spec x hl
 rw [h] at hm
 refine aspec_of lay_ok 18958650292743101019519 Try.func74 rfl rfl rfl ?_
 repeat' ((conv => whnf); first | refine K1.a ?_ | refine K1.b ?_ | refine K1.c ?_ | refine K1.d ?_ | refine K1.e ?_ | refine K1.f ?_ | refine ACall.plain _ _ (hm) (SubL.cons (.eq _) .nil) rfl ?_ | refine ARet.hdI ?_ | refine Spl.mk (fun _ => ?_) (fun _ => ?_) | refine SNil.mk (fun _ => ?_) ?_ | refine K1.g ?_ | refine ASl.frz ?_ | refine Wr.b64 ?_ | refine Wr.bu64 ?_ | refine Wr.bu32 ?_ | refine Wr.bu8 ?_ | refine K1.u8 ?_ | refine K1.u64 ?_ | refine K1.u32 ?_ | refine K1.h ?_ | refine K1.i ?_ | refine K1.q ?_ | refine K1.j ?_ | refine K1.k ?_ | refine BSpl.dec (fun _ => ?_) (fun _ => ?_) | refine K1.l ?_ | refine K1.n ?_ | refine BSpl.mk (fun _ => ?_) (fun _ => ?_))
 conv => whnf
 exact AEqI.mk (AEq.refl _)
end Go.Proofs.Ytmldeejaghflnaa

/-
 What the makers of edits and events that may be compute (kithref05.Fit,kithref06.Fit).
-/
namespace Go.Proofs.Ytmldeejaghflnaa
open Go.RowKit
def sumB (l : List UInt8) : Nat := (l.map fun b => b.toNat).sum
def ks3 (n : Nat) : ByteArray := if (n : Int) % 3 = 0 then ⟨#[97,110,110]⟩ else if (n : Int) % 3 = 1 then ⟨#[98,111,98]⟩ else ⟨#[99,121]⟩
def vs4 (n : Nat) : ByteArray := if (n : Int) % 4 = 0 then ⟨#[49]⟩ else if (n : Int) % 4 = 1 then ⟨#[116,119,111]⟩ else if (n : Int) % 4 = 2 then ⟨#[0,255]⟩ else ⟨#[116,119,101,108,118,101,32,98,121,116,101,115]⟩
def andI (x m : Int) : Int := IntKind.i64.wrap ((BitVec.ofInt IntKind.i64.bits x &&& BitVec.ofInt IntKind.i64.bits m).toNat : Int)
def m5 (x : Int) : Int := (x.tmod 5 + 5) % 5
def fitEd (e : Ed) : Ed :=
 if 2 < 1 + m5 e.k then ⟨1 + m5 e.k,ks3 (sumB e.key.data.toList),andI e.l 1,vs4 (sumB e.v.data.toList)⟩ else ⟨1 + m5 e.k,ks3 (sumB e.key.data.toList),0,⟨#[]⟩⟩
theorem Rm.m3 {a : Int} {K : Int → Prop} (h : 0 ≤ a) (h0 : a % 3 = 0 → K 0) (h1 : a % 3 = 1 → K 1) (h2 : a % 3 = 2 → K 2) : Rm a 3 K := by
 refine .pos h (by omega) ?_
 rcases (show a % 3 = 0 ∨ a % 3 = 1 ∨ a % 3 = 2 by omega) with e | e | e
 · rw [e]; exact h0 e
 · rw [e]; exact h1 e
 · rw [e]; exact h2 e
theorem Rm.m4 {a : Int} {K : Int → Prop} (h : 0 ≤ a) (h0 : a % 4 = 0 → K 0) (h1 : a % 4 = 1 → K 1) (h2 : a % 4 = 2 → K 2) (h3 : a % 4 = 3 → K 3) : Rm a 4 K := by
 refine .pos h (by omega) ?_
 rcases (show a % 4 = 0 ∨ a % 4 = 1 ∨ a % 4 = 2 ∨ a % 4 = 3 by omega) with e | e | e | e
 · rw [e]; exact h0 e
 · rw [e]; exact h1 e
 · rw [e]; exact h2 e
 · rw [e]; exact h3 e
def keysV : List AV := [.v (.string ⟨#[97,110,110]⟩), .v (.string ⟨#[98,111,98]⟩), .v (.string ⟨#[99,121]⟩)]
def valsV : List AV := [.v (.string ⟨#[49]⟩), .v (.string ⟨#[116,119,111]⟩), .v (.string ⟨#[0,255]⟩), .v (.string ⟨#[116,119,101,108,118,101,32,98,121,116,101,115]⟩)]
def edZ : List AV := [.v (.int .i64 0), .v (.string ⟨#[]⟩), .v (.int .i64 0), .v (.string ⟨#[]⟩)]
def fitE (e : Ev) : Ev :=
 ⟨m5 e.r,1 + andI e.n 1048575,Clk.put ⟨andI e.c.c0 1048575,andI e.c.c1 1048575,andI e.c.c2 1048575,andI e.c.c3 1048575,andI e.c.c4 1048575⟩ (m5 e.r) (1 + andI e.n 1048575 - 1),
  1 + andI e.h 16777215,(fitEd e.ed).k,(fitEd e.ed).key,(fitEd e.ed).l,(fitEd e.ed).v⟩
theorem Rm.m5 {a : Int} {K : Int → Prop} (h : 0 ≤ a) (h0 : a % 5 = 0 → K 0) (h1 : a % 5 = 1 → K 1) (h2 : a % 5 = 2 → K 2) (h3 : a % 5 = 3 → K 3) (h4 : a % 5 = 4 → K 4) : Rm a 5 K := by
 refine .pos h (by omega) ?_
 rcases (show a % 5 = 0 ∨ a % 5 = 1 ∨ a % 5 = 2 ∨ a % 5 = 3 ∨ a % 5 = 4 by omega) with e | e | e | e | e
 · rw [e]; exact h0 e
 · rw [e]; exact h1 e
 · rw [e]; exact h2 e
 · rw [e]; exact h3 e
 · rw [e]; exact h4 e
end Go.Proofs.Ytmldeejaghflnaa

/-
 Plain Lean: what Fit makes may be; and sizes of an event's bytes.
-/
namespace Go.Proofs.Ytmldeejaghflnaa
theorem vputF_len : ∀ (f n k : Nat),n < 128 ^ (k + 1) → (vputF f n).length ≤ k + 1
  | 0,n,k,_ => by simp [vputF]
  | f + 1,n,k,h => by
    unfold vputF
    split
    · simp
    · cases k with
      | zero => simp at h; omega
      | succ k =>
        have := vputF_len f (n / 128) k (by rw [Nat.pow_succ] at h; exact Nat.div_lt_of_lt_mul (by rw [Nat.mul_comm]; exact h))
        simp only [List.length_cons]
        omega
theorem vput3 {n : Nat} (h : n ≤ 1048576) : (vput n).length ≤ 3 := vputF_len 9 n 2 (by omega)
theorem vput4 {n : Nat} (h : n ≤ 16777216) : (vput n).length ≤ 4 := vputF_len 9 n 3 (by omega)
theorem vputI3 {n : Int} (h : n ≤ 1048576) : (vputI n).length ≤ 3 := vput3 (by omega)
theorem vputI4 {n : Int} (h : n ≤ 16777216) : (vputI n).length ≤ 4 := vput4 (by omega)
theorem words_len (s : ByteArray) : (words s).length = 1 + s.size := by
 unfold words
 rw [List.length_cons,Array.length_toList]
 show s.size + 1 = _
 omega
theorem evBytes_len {e : Ev} (h : mayE e = 0) : (evBytes e).length ≤ 44 := by
 have m := mayE_zero h
 obtain ⟨k1,k2,s1,s2,_,hl,hs⟩ := editE_zero m.ed
 have hn := vputI3 (n := e.n) (by have := m.n2; omega)
 have hh := vputI4 (n := e.h) (by have := m.h2; omega)
 have c0 := vputI3 m.a0.2
 have c1 := vputI3 m.a1.2
 have c2 := vputI3 m.a2.2
 have c3 := vputI3 m.a3.2
 have c4 := vputI3 m.a4.2
 have r0 := m.r0
 have r4 := m.r4
 have hv : (if isLong e.k then byteOf e.l :: words e.v else []).length ≤ 14 := by
  split
  · rename_i h
    have := hl h
    simp only [List.length_cons,words_len,Ev.ed] at this ⊢
    omega
  · simp
 have ho : ((others e).flatMap vputI).length ≤ 12 := by
  unfold others
  rcases (show e.r = 0 ∨ e.r = 1 ∨ e.r = 2 ∨ e.r = 3 ∨ e.r = 4 by omega) with h | h | h | h | h <;> simp [h] <;> omega
 unfold evBytes
 simp only [List.length_append,List.length_cons,List.length_nil,words_len]
 have : e.key.size ≤ 8 := s2
 omega
end Go.Proofs.Ytmldeejaghflnaa

/-
 The bytes of a record that may be.
-/
namespace Go.Proofs.Ytmldeejaghflnaa
open Go.RowKit
theorem evsB_len {l : List Ev} (h : ∀ e ∈ l,mayE e = 0) : (evsB l).length ≤ 44 * l.length := by
 induction l with
 | nil => simp [evsB]
 | cons e l ih =>
   have h1 := evBytes_len (h e (by simp))
   have h2 := ih fun x hx => h x (by simp [hx])
   simp only [evsB,List.flatMap_cons,List.length_append,List.length_cons] at *
   omega
theorem evsB_take {l : List Ev} {j : Nat} (h : j < l.length) : evsB (l.take (j + 1)) = evsB (l.take j) ++ evBytes (l.getD j default) := by
 rw [List.take_add_one,List.getElem?_eq_getElem h,List.getD,List.getElem?_eq_getElem h,evsB,List.flatMap_append]
 simp [evsB]
theorem may_at {l : List Ev} (h : l.all (fun e => decide (mayE e = 0)) = true) {j : Nat} (hj : j < l.length) : mayE (l.getD j default) = 0 := by
 rw [List.getD,List.getElem?_eq_getElem hj]
 simpa using List.all_eq_true.1 h l[j] (List.getElem_mem hj)
theorem may_mem {l : List Ev} (h : l.all (fun e => decide (mayE e = 0)) = true) : ∀ e ∈ l,mayE e = 0 := fun e he => by simpa using List.all_eq_true.1 h e he
theorem okN_of {n : Int} (h : okN n = true) : ∃ m : Nat,n = m ∧ m ≤ 1048576 := by
 have := withinB_true h
 exact ⟨n.toNat,by omega,by omega⟩
structure MayR (x : Rc) : Prop where
 k : 1 ≤ x.k ∧ x.k ≤ 6
 r : 0 ≤ x.r ∧ x.r < 5
 u : okN x.u = true
 l : x.ev.length ≤ 4096
 c : okN x.c.c0 = true ∧ okN x.c.c1 = true ∧ okN x.c.c2 = true ∧ okN x.c.c3 = true ∧ okN x.c.c4 = true
 u0 : rcU x.k = true ∨ x.u = 0
 c0 : rcC x.k = true ∨ x.c = clk0
 e0 : rcE x.k = true ∨ x.ev.length = 0
 ev : x.ev.all (fun e => decide (mayE e = 0)) = true
 one : x.k ≠ 1 ∨ x.ev.length = 1
theorem mayR_of {x : Rc} (h : mayR x = true) : MayR x := by
 simp only [mayR,Bool.and_eq_true,Bool.or_eq_true,decide_eq_true_eq,clkZ_iff,okC,rcK] at h
 obtain ⟨⟨⟨⟨⟨⟨⟨⟨⟨⟨h1,h2⟩,h3⟩,h4⟩,h5⟩,⟨⟨⟨h6,h7⟩,h8⟩,h9⟩,h10⟩,h11⟩,h12⟩,h13⟩,h14⟩,h15⟩ := h
 exact ⟨h1,⟨h2,h3⟩,h4,h5,⟨h6,h7,h8,h9,h10⟩,h11,h12,h13,h14,h15⟩
set_option maxHeartbeats 8000000 in
set_option maxRecDepth 100000 in
theorem rcPut_e (d : Nat) (x : Rc) (h : mayR x = true) (hk : x.k = 1 ∨ x.k = 2 ∨ x.k = 5) :
  ASpec Try.prog 74 [x.av] (.tup [.own d, .v (.int .i64 0)]) [(d, .row 5 1 (rcBytes x).length true (bytesF (rcBytes x)))] := by
 have m := mayR_of h
 have hm := rcMay_spec x (by have := m.l; omega)
 rw [h] at hm
 obtain ⟨k,r,u,c,ev⟩ := x
 obtain ⟨mk,mr,mu,ml,mc,mu0,mc0,me0,mev,m1⟩ := m
 dsimp only at mk mr mu ml mc mu0 mc0 me0 mev m1 hk
 have hat : ∀ j,j < ev.length → mayE (ev.getD j default) = 0 := fun j hj => may_at mev hj
 have h44 : ∀ j,j < ev.length → (evBytes (ev.getD j default)).length ≤ 44 := fun j hj => evBytes_len (hat j hj)
 have hlen : ∀ j,(evsB (ev.take j)).length ≤ 44 * j := fun j => Nat.le_trans (evsB_len fun e he => may_mem mev e (List.mem_of_mem_take he)) (Nat.mul_le_mul_left _ (by rw [List.length_take]; omega))
 have hv : (vput ev.length).length ≤ 10 := vputF_le 9 _
 obtain ⟨kk,hkk⟩ : ∃ kk,kk = k := ⟨_,rfl⟩
 have hmore : ∀ j,([byteOf' kk,byteOf' r] ++ vput ev.length ++ evsB (ev.take j)).length = 2 + (vput ev.length).length + (evsB (ev.take j)).length := fun j => by simp; omega
 rcases hk with rfl | rfl | rfl
 all_goals
  dsimp only [Rc.av,Rc.cs] at hm ⊢
  refine aspec_of lay_ok 18958650292743101019519 Try.func74 rfl rfl rfl ?_
  repeat' ((conv => whnf); first | refine K1.a ?_ | refine K1.b ?_ | refine K1.c ?_ | refine K1.d ?_ | refine K1.e ?_ | refine K1.f ?_ | refine ACall.plain _ _ (hm) (SubL.cons (.eq _) .nil) rfl ?_ | refine ACall.plain _ _ (rcFields_spec _) (SubL.cons (.eq _) .nil) rfl ?_ | refine ACall.fresh _ _ _ _ _ _ _ (vput_spec _ ev.length (by omega)) (SubL.cons (.eq _) .nil) rfl ?_ | refine Spl.mk (fun _ => ?_) (fun _ => ?_) | refine SNil.mk (fun _ => ?_) ?_ | refine K1.g ?_ | refine ASl.frz ?_ | refine Wr.b64 ?_ | refine Wr.bu64 ?_ | refine Wr.bu32 ?_ | refine Wr.bu8 ?_ | refine K1.u8 ?_ | refine K1.u64 ?_ | refine K1.u32 ?_ | refine K1.h ?_ | refine K1.i ?_ | refine K1.q ?_ | refine K1.j ?_ | refine K1.k ?_ | refine BSpl.dec (fun _ => ?_) (fun _ => ?_) | refine K1.l ?_ | refine K1.n ?_ | refine BSpl.mk (fun _ => ?_) (fun _ => ?_))
  conv => whnf
  refine ALoop.mk { j : Nat // j ≤ ev.length } (fun j => ⟨[(1, .box 0 0),(8, .own 90),(62, .sl 12 ev.length true (evF ev)),(63, .v (.int .i64 (ev.length : Int))),(64, .v (.int .i64 (j.1 : Int)))],
    [(90, .row 5 1 ([byteOf' kk,byteOf' r] ++ vput ev.length ++ evsB (ev.take j.1)).length true (bytesF ([byteOf' kk,byteOf' r] ++ vput ev.length ++ evsB (ev.take j.1))))],[],91⟩) (fun j => ev.length - j.1) ⟨0,Nat.zero_le _⟩ _
    (LeR.mk' [(3,90)] _ _ _ rfl ⟨AEq.refl _,AEq.refl _,AEq.refl _,AEq.refl _,AEq.int rfl,trivial⟩ ⟨⟨_,rfl,OEq.isB (IsB.app (IsB.two (by omega) (by omega) (by omega) (by omega)) (IsB.bytes _) rfl) (by simp <;> omega) (by simp [evsB,hkk])⟩,trivial⟩ rfl) ?_
  rintro ⟨j,hj⟩
  dsimp only
  have h44j := h44 (j : Int).toNat
  have hmj := hmore j
  have hlj := hlen j
  have hsl := sealB_len ([byteOf' kk,byteOf' r] ++ vput ev.length ++ evsB (ev.take j))
  have hvs : (vput (sealB ([byteOf' kk,byteOf' r] ++ vput ev.length ++ evsB (ev.take j))).length).length ≤ 10 := vputF_le 9 _
  repeat' ((conv => whnf); first | refine K1.a ?_ | refine K1.b ?_ | refine K1.c ?_ | refine K1.d ?_ | refine K1.e ?_ | refine K1.f ?_ | refine ACall.fresh _ _ _ _ _ _ _ (put_yes_spec _ (ev.getD (j : Int).toNat default) (hat _ (by omega))) (SubL.cons (.eq _) .nil) rfl ?_ | refine ACall.fresh _ _ _ _ _ _ _ (seal_spec _ ([byteOf' kk,byteOf' r] ++ vput ev.length ++ evsB (ev.take j)) (IsB.bytes _) rfl (by omega)) (SubL.cons (.eq _) .nil) rfl ?_ | refine ACall.fresh _ _ _ _ _ _ _ (vput_spec _ (sealB ([byteOf' kk,byteOf' r] ++ vput ev.length ++ evsB (ev.take j))).length (by rw [sealB_len]; omega)) (SubL.cons (.eq _) .nil) rfl ?_ | refine Spl.mk (fun _ => ?_) (fun _ => ?_) | refine SNil.mk (fun _ => ?_) ?_ | refine K1.g ?_ | refine ASl.frz ?_ | refine Wr.b64 ?_ | refine Wr.bu64 ?_ | refine Wr.bu32 ?_ | refine Wr.bu8 ?_ | refine K1.u8 ?_ | refine K1.u64 ?_ | refine K1.u32 ?_ | refine K1.h ?_ | refine K1.i ?_ | refine K1.q ?_ | refine K1.j ?_ | refine K1.k ?_ | refine BSpl.dec (fun _ => ?_) (fun _ => ?_) | refine K1.l ?_ | refine K1.n ?_ | refine BSpl.mk (fun _ => ?_) (fun _ => ?_))
  · conv => whnf
    refine ⟨⟨j + 1,by omega⟩,_,LeR.mk' [(93,90)] _ _ _ rfl ⟨AEq.refl _,AEq.refl _,AEq.refl _,AEq.refl _,AEq.int rfl,trivial⟩ ⟨⟨_,rfl,OEq.isB (IsB.app (IsB.bytes _) (IsB.bytes _) rfl) List.length_append.symm ?_⟩,trivial⟩ rfl,by show ev.length - (j + 1) < ev.length - j; omega⟩
    rw [evsB_take (by omega),List.append_assoc]
    rfl
  · conv => whnf
    refine ARet.ownX d rfl rfl ?_ (AEq.refl _)
    refine OEq.isB (IsB.app (IsB.bytes _) (IsB.bytes _) rfl) List.length_append.symm ?_
    rw [List.take_of_length_le (by omega)]
    unfold rcBytes rcBody
    simp [hkk,rcU,rcE,rcC,byteOf,byteOf']
set_option maxHeartbeats 8000000 in
set_option maxRecDepth 100000 in
theorem rcPut_ue (d : Nat) (x : Rc) (h : mayR x = true) (hk : x.k = 4) :
  ASpec Try.prog 74 [x.av] (.tup [.own d, .v (.int .i64 0)]) [(d, .row 5 1 (rcBytes x).length true (bytesF (rcBytes x)))] := by
 have m := mayR_of h
 have hm := rcMay_spec x (by have := m.l; omega)
 rw [h] at hm
 obtain ⟨k,r,u,c,ev⟩ := x
 obtain ⟨mk,mr,mu,ml,mc,mu0,mc0,me0,mev,m1⟩ := m
 dsimp only at mk mr mu ml mc mu0 mc0 me0 mev m1 hk
 have hat : ∀ j,j < ev.length → mayE (ev.getD j default) = 0 := fun j hj => may_at mev hj
 have h44 : ∀ j,j < ev.length → (evBytes (ev.getD j default)).length ≤ 44 := fun j hj => evBytes_len (hat j hj)
 have hlen : ∀ j,(evsB (ev.take j)).length ≤ 44 * j := fun j => Nat.le_trans (evsB_len fun e he => may_mem mev e (List.mem_of_mem_take he)) (Nat.mul_le_mul_left _ (by rw [List.length_take]; omega))
 have hv : (vput ev.length).length ≤ 10 := vputF_le 9 _
 obtain ⟨kk,hkk⟩ : ∃ kk,kk = k := ⟨_,rfl⟩
 obtain ⟨un,rfl,hun⟩ := okN_of mu
 have hvu : (vput un).length ≤ 10 := vputF_le 9 _
 have hmore : ∀ j,([byteOf' kk,byteOf' r] ++ vput un ++ vput ev.length ++ evsB (ev.take j)).length = 2 + (vput un).length + (vput ev.length).length + (evsB (ev.take j)).length := fun j => by simp; omega
 subst hk
 all_goals
  dsimp only [Rc.av,Rc.cs] at hm ⊢
  refine aspec_of lay_ok 18958650292743101019519 Try.func74 rfl rfl rfl ?_
  repeat' ((conv => whnf); first | refine K1.a ?_ | refine K1.b ?_ | refine K1.c ?_ | refine K1.d ?_ | refine K1.e ?_ | refine K1.f ?_ | refine ACall.plain _ _ (hm) (SubL.cons (.eq _) .nil) rfl ?_ | refine ACall.plain _ _ (rcFields_spec _) (SubL.cons (.eq _) .nil) rfl ?_ | refine ACall.fresh _ _ _ _ _ _ _ (vput_spec _ un (by omega)) (SubL.cons (.eq _) .nil) rfl ?_ | refine ACall.fresh _ _ _ _ _ _ _ (vput_spec _ ev.length (by omega)) (SubL.cons (.eq _) .nil) rfl ?_ | refine Spl.mk (fun _ => ?_) (fun _ => ?_) | refine SNil.mk (fun _ => ?_) ?_ | refine K1.g ?_ | refine ASl.frz ?_ | refine Wr.b64 ?_ | refine Wr.bu64 ?_ | refine Wr.bu32 ?_ | refine Wr.bu8 ?_ | refine K1.u8 ?_ | refine K1.u64 ?_ | refine K1.u32 ?_ | refine K1.h ?_ | refine K1.i ?_ | refine K1.q ?_ | refine K1.j ?_ | refine K1.k ?_ | refine BSpl.dec (fun _ => ?_) (fun _ => ?_) | refine K1.l ?_ | refine K1.n ?_ | refine BSpl.mk (fun _ => ?_) (fun _ => ?_))
  conv => whnf
  refine ALoop.mk { j : Nat // j ≤ ev.length } (fun j => ⟨[(1, .box 0 0),(8, .own 90),(62, .sl 12 ev.length true (evF ev)),(63, .v (.int .i64 (ev.length : Int))),(64, .v (.int .i64 (j.1 : Int)))],
    [(90, .row 5 1 ([byteOf' kk,byteOf' r] ++ vput un ++ vput ev.length ++ evsB (ev.take j.1)).length true (bytesF ([byteOf' kk,byteOf' r] ++ vput un ++ vput ev.length ++ evsB (ev.take j.1))))],[],91⟩) (fun j => ev.length - j.1) ⟨0,Nat.zero_le _⟩ _
    (LeR.mk' [(5,90)] _ _ _ rfl ⟨AEq.refl _,AEq.refl _,AEq.refl _,AEq.refl _,AEq.int rfl,trivial⟩ ⟨⟨_,rfl,OEq.isB (IsB.app (IsB.app (IsB.two (by omega) (by omega) (by omega) (by omega)) (IsB.bytes _) rfl) (IsB.bytes _) (by simp <;> omega)) (by simp <;> omega) (by simp [evsB,hkk])⟩,trivial⟩ rfl) ?_
  rintro ⟨j,hj⟩
  dsimp only
  have h44j := h44 (j : Int).toNat
  have hmj := hmore j
  have hlj := hlen j
  have hsl := sealB_len ([byteOf' kk,byteOf' r] ++ vput un ++ vput ev.length ++ evsB (ev.take j))
  have hvs : (vput (sealB ([byteOf' kk,byteOf' r] ++ vput un ++ vput ev.length ++ evsB (ev.take j))).length).length ≤ 10 := vputF_le 9 _
  repeat' ((conv => whnf); first | refine K1.a ?_ | refine K1.b ?_ | refine K1.c ?_ | refine K1.d ?_ | refine K1.e ?_ | refine K1.f ?_ | refine ACall.fresh _ _ _ _ _ _ _ (put_yes_spec _ (ev.getD (j : Int).toNat default) (hat _ (by omega))) (SubL.cons (.eq _) .nil) rfl ?_ | refine ACall.fresh _ _ _ _ _ _ _ (seal_spec _ ([byteOf' kk,byteOf' r] ++ vput un ++ vput ev.length ++ evsB (ev.take j)) (IsB.bytes _) rfl (by omega)) (SubL.cons (.eq _) .nil) rfl ?_ | refine ACall.fresh _ _ _ _ _ _ _ (vput_spec _ (sealB ([byteOf' kk,byteOf' r] ++ vput un ++ vput ev.length ++ evsB (ev.take j))).length (by rw [sealB_len]; omega)) (SubL.cons (.eq _) .nil) rfl ?_ | refine Spl.mk (fun _ => ?_) (fun _ => ?_) | refine SNil.mk (fun _ => ?_) ?_ | refine K1.g ?_ | refine ASl.frz ?_ | refine Wr.b64 ?_ | refine Wr.bu64 ?_ | refine Wr.bu32 ?_ | refine Wr.bu8 ?_ | refine K1.u8 ?_ | refine K1.u64 ?_ | refine K1.u32 ?_ | refine K1.h ?_ | refine K1.i ?_ | refine K1.q ?_ | refine K1.j ?_ | refine K1.k ?_ | refine BSpl.dec (fun _ => ?_) (fun _ => ?_) | refine K1.l ?_ | refine K1.n ?_ | refine BSpl.mk (fun _ => ?_) (fun _ => ?_))
  · conv => whnf
    refine ⟨⟨j + 1,by omega⟩,_,LeR.mk' [(93,90)] _ _ _ rfl ⟨AEq.refl _,AEq.refl _,AEq.refl _,AEq.refl _,AEq.int rfl,trivial⟩ ⟨⟨_,rfl,OEq.isB (IsB.app (IsB.bytes _) (IsB.bytes _) rfl) List.length_append.symm ?_⟩,trivial⟩ rfl,by show ev.length - (j + 1) < ev.length - j; omega⟩
    rw [evsB_take (by omega),List.append_assoc]
    rfl
  · conv => whnf
    refine ARet.ownX d rfl rfl ?_ (AEq.refl _)
    refine OEq.isB (IsB.app (IsB.bytes _) (IsB.bytes _) rfl) List.length_append.symm ?_
    rw [List.take_of_length_le (by omega)]
    unfold rcBytes rcBody
    simp [hkk,rcU,rcE,rcC,byteOf,byteOf',vputI]
set_option maxHeartbeats 8000000 in
set_option maxRecDepth 100000 in
theorem rcPut_u (d : Nat) (x : Rc) (h : mayR x = true) (hk : x.k = 3) :
  ASpec Try.prog 74 [x.av] (.tup [.own d, .v (.int .i64 0)]) [(d, .row 5 1 (rcBytes x).length true (bytesF (rcBytes x)))] := by
 have m := mayR_of h
 have hm := rcMay_spec x (by have := m.l; omega)
 rw [h] at hm
 obtain ⟨k,r,u,c,ev⟩ := x
 obtain ⟨mk,mr,mu,ml,mc,mu0,mc0,me0,mev,m1⟩ := m
 dsimp only at mk mr mu ml mc mu0 mc0 me0 mev m1 hk
 obtain ⟨kk,hkk⟩ : ∃ kk,kk = k := ⟨_,rfl⟩
 obtain ⟨un,rfl,hun⟩ := okN_of mu
 have hvu : (vput un).length ≤ 10 := vputF_le 9 _
 have hmore : ([byteOf' kk,byteOf' r] ++ vput un).length = 2 + (vput un).length := by simp; omega
 have hsl := sealB_len ([byteOf' kk,byteOf' r] ++ vput un)
 have hvs : (vput (sealB ([byteOf' kk,byteOf' r] ++ vput un)).length).length ≤ 10 := vputF_le 9 _
 subst hk
 dsimp only [Rc.av,Rc.cs] at hm ⊢
 refine aspec_of lay_ok 18958650292743101019519 Try.func74 rfl rfl rfl ?_
 repeat' ((conv => whnf); first | refine K1.a ?_ | refine K1.b ?_ | refine K1.c ?_ | refine K1.d ?_ | refine K1.e ?_ | refine K1.f ?_ | refine ACall.plain _ _ (hm) (SubL.cons (.eq _) .nil) rfl ?_ | refine ACall.plain _ _ (rcFields_spec _) (SubL.cons (.eq _) .nil) rfl ?_ | refine ACall.fresh _ _ _ _ _ _ _ (vput_spec _ un (by omega)) (SubL.cons (.eq _) .nil) rfl ?_ | refine ACall.fresh _ _ _ _ _ _ _ (seal_spec _ ([byteOf' kk,byteOf' r] ++ vput un) (hkk ▸ IsB.app (IsB.two (by omega) (by omega) (by omega) (by omega)) (IsB.bytes _) rfl) (by simp <;> omega) (by omega)) (SubL.cons (.eq _) .nil) rfl ?_ | refine ACall.fresh _ _ _ _ _ _ _ (vput_spec _ (sealB ([byteOf' kk,byteOf' r] ++ vput un)).length (by rw [sealB_len]; omega)) (SubL.cons (.eq _) .nil) rfl ?_ | refine Spl.mk (fun _ => ?_) (fun _ => ?_) | refine SNil.mk (fun _ => ?_) ?_ | refine K1.g ?_ | refine ASl.frz ?_ | refine Wr.b64 ?_ | refine Wr.bu64 ?_ | refine Wr.bu32 ?_ | refine Wr.bu8 ?_ | refine K1.u8 ?_ | refine K1.u64 ?_ | refine K1.u32 ?_ | refine K1.h ?_ | refine K1.i ?_ | refine K1.q ?_ | refine K1.j ?_ | refine K1.k ?_ | refine BSpl.dec (fun _ => ?_) (fun _ => ?_) | refine K1.l ?_ | refine K1.n ?_ | refine BSpl.mk (fun _ => ?_) (fun _ => ?_))
 conv => whnf
 refine ARet.ownX d rfl rfl ?_ (AEq.refl _)
 refine OEq.isB (IsB.app (IsB.bytes _) (IsB.bytes _) rfl) List.length_append.symm ?_
 unfold rcBytes rcBody
 simp [hkk,rcU,rcE,rcC,byteOf,byteOf',vputI]
set_option maxHeartbeats 8000000 in
set_option maxRecDepth 100000 in
theorem rcPut_c (d : Nat) (x : Rc) (h : mayR x = true) (hk : x.k = 6) :
  ASpec Try.prog 74 [x.av] (.tup [.own d, .v (.int .i64 0)]) [(d, .row 5 1 (rcBytes x).length true (bytesF (rcBytes x)))] := by
 have m := mayR_of h
 have hm := rcMay_spec x (by have := m.l; omega)
 rw [h] at hm
 obtain ⟨k,r,u,⟨c0,c1,c2,c3,c4⟩,ev⟩ := x
 obtain ⟨mk,mr,mu,ml,⟨m0,m1,m2,m3,m4⟩,mu0,mc0,me0,mev,mone⟩ := m
 dsimp only at mk mr mu ml m0 m1 m2 m3 m4 mu0 mc0 me0 mev mone hk
 obtain ⟨kk,hkk⟩ : ∃ kk,kk = k := ⟨_,rfl⟩
 obtain ⟨c0,rfl,hc0⟩ := okN_of m0
 obtain ⟨c1,rfl,hc1⟩ := okN_of m1
 obtain ⟨c2,rfl,hc2⟩ := okN_of m2
 obtain ⟨c3,rfl,hc3⟩ := okN_of m3
 obtain ⟨c4,rfl,hc4⟩ := okN_of m4
 have q0 : (vput c0).length ≤ 10 := vputF_le 9 _
 have q1 : (vput c1).length ≤ 10 := vputF_le 9 _
 have q2 : (vput c2).length ≤ 10 := vputF_le 9 _
 have q3 : (vput c3).length ≤ 10 := vputF_le 9 _
 have q4 : (vput c4).length ≤ 10 := vputF_le 9 _
 have hmore : ([byteOf' kk,byteOf' r] ++ vput c0 ++ vput c1 ++ vput c2 ++ vput c3 ++ vput c4).length = 2 + (vput c0).length + (vput c1).length + (vput c2).length + (vput c3).length + (vput c4).length := by simp; omega
 have hsl := sealB_len ([byteOf' kk,byteOf' r] ++ vput c0 ++ vput c1 ++ vput c2 ++ vput c3 ++ vput c4)
 have hvs : (vput (sealB ([byteOf' kk,byteOf' r] ++ vput c0 ++ vput c1 ++ vput c2 ++ vput c3 ++ vput c4)).length).length ≤ 10 := vputF_le 9 _
 subst hk
 dsimp only [Rc.av,Rc.cs] at hm ⊢
 refine aspec_of lay_ok 18958650292743101019519 Try.func74 rfl rfl rfl ?_
 repeat' ((conv => whnf); first | refine K1.a ?_ | refine K1.b ?_ | refine K1.c ?_ | refine K1.d ?_ | refine K1.e ?_ | refine K1.f ?_ | refine ACall.plain _ _ (hm) (SubL.cons (.eq _) .nil) rfl ?_ | refine ACall.plain _ _ (rcFields_spec _) (SubL.cons (.eq _) .nil) rfl ?_ | refine ACall.fresh _ _ _ _ _ _ _ (vput_spec _ c0 (by omega)) (SubL.cons (.eq _) .nil) rfl ?_ | refine ACall.fresh _ _ _ _ _ _ _ (vput_spec _ c1 (by omega)) (SubL.cons (.eq _) .nil) rfl ?_ | refine ACall.fresh _ _ _ _ _ _ _ (vput_spec _ c2 (by omega)) (SubL.cons (.eq _) .nil) rfl ?_ | refine ACall.fresh _ _ _ _ _ _ _ (vput_spec _ c3 (by omega)) (SubL.cons (.eq _) .nil) rfl ?_ | refine ACall.fresh _ _ _ _ _ _ _ (vput_spec _ c4 (by omega)) (SubL.cons (.eq _) .nil) rfl ?_ | refine ACall.fresh _ _ _ _ _ _ _ (seal_spec _ ([byteOf' kk,byteOf' r] ++ vput c0 ++ vput c1 ++ vput c2 ++ vput c3 ++ vput c4) (hkk ▸ IsB.app (IsB.app (IsB.app (IsB.app (IsB.app (IsB.two (by omega) (by omega) (by omega) (by omega)) (IsB.bytes _) rfl) (IsB.bytes _) (by simp <;> omega)) (IsB.bytes _) (by simp <;> omega)) (IsB.bytes _) (by simp <;> omega)) (IsB.bytes _) (by simp <;> omega)) (by simp <;> omega) (by omega)) (SubL.cons (.eq _) .nil) rfl ?_ | refine ACall.fresh _ _ _ _ _ _ _ (vput_spec _ (sealB ([byteOf' kk,byteOf' r] ++ vput c0 ++ vput c1 ++ vput c2 ++ vput c3 ++ vput c4)).length (by rw [sealB_len]; omega)) (SubL.cons (.eq _) .nil) rfl ?_ | refine ALoop.unr 44 6 rfl ?_ | refine Spl.mk (fun _ => ?_) (fun _ => ?_) | refine SNil.mk (fun _ => ?_) ?_ | refine K1.g ?_ | refine ASl.frz ?_ | refine Wr.b64 ?_ | refine Wr.bu64 ?_ | refine Wr.bu32 ?_ | refine Wr.bu8 ?_ | refine K1.u8 ?_ | refine K1.u64 ?_ | refine K1.u32 ?_ | refine K1.h ?_ | refine K1.i ?_ | refine K1.q ?_ | refine K1.j ?_ | refine K1.k ?_ | refine BSpl.dec (fun _ => ?_) (fun _ => ?_) | refine K1.l ?_ | refine K1.n ?_ | refine BSpl.mk (fun _ => ?_) (fun _ => ?_))
 conv => whnf
 refine ARet.ownX d rfl rfl ?_ (AEq.refl _)
 refine OEq.isB (IsB.app (IsB.bytes _) (IsB.bytes _) rfl) List.length_append.symm ?_
 unfold rcBytes rcBody
 simp [hkk,rcU,rcE,rcC,byteOf,byteOf',vputI,clkB]
theorem rcPut_yes (d : Nat) (x : Rc) (h : mayR x = true) :
  ASpec Try.prog 74 [x.av] (.tup [.own d, .v (.int .i64 0)]) [(d, .row 5 1 (rcBytes x).length true (bytesF (rcBytes x)))] := by
 have m := (mayR_of h).k
 rcases (show x.k = 1 ∨ x.k = 2 ∨ x.k = 3 ∨ x.k = 4 ∨ x.k = 5 ∨ x.k = 6 by omega) with hk | hk | hk | hk | hk | hk
 · exact rcPut_e d x h (.inl hk)
 · exact rcPut_e d x h (.inr (.inl hk))
 · exact rcPut_u d x h hk
 · exact rcPut_ue d x h hk
 · exact rcPut_e d x h (.inr (.inr hk))
 · exact rcPut_c d x h hk
end Go.Proofs.Ytmldeejaghflnaa

/-
 The maker of records that may be (kithref18.Fit); the document's example of a record.
-/
namespace Go.Proofs.Ytmldeejaghflnaa
open Go.RowKit
theorem C1.nilEv {X : CX} {a1 a2 a3 a4 a5 a6 a7 a8 : AV} {f : Nat → List AV} {u : Value} (h : C1 X (.agg [a1,a2,a3,a4,a5,a6,a7,a8, .v (.slice none 0 0)]) u) : C1 X (.agg [a1,a2,a3,a4,a5,a6,a7,a8, .sl 12 0 true f]) u := by
 obtain ⟨us,e,ha⟩ := h
 obtain ⟨v,hv,hc⟩ := ha.get (i := 8) rfl
 have hc : v = .slice none 0 0 := hc
 subst hc
 refine ⟨us,e,?_⟩
 have := ha.set 8 (x := .sl 12 0 true f) (u := .slice none 0 0) (show C0 X (.sl 12 0 true f) (.slice none 0 0) from .sl 12 0 true f none 0 [] (by omega) (Nat.le_refl _) (by simp [maxLen]) (by simp) (fun i hi => absurd hi (Nat.not_lt_zero i)) (fun _ x hx => by simp [flat] at hx) (fun i x u hx => by simp [flat] at hx) (.inl rfl))
 have e2 : us.set 8 (.slice none 0 0) = us := by
  apply List.ext_getElem?
  intro i
  rw [List.getElem?_set]
  by_cases h8 : 8 = i
  · subst h8
    rw [if_pos rfl,hv]
    have : 8 < us.length := by
     rcases Nat.lt_or_ge 8 us.length with h | h
     · exact h
     · rw [List.getElem?_eq_none h] at hv; cases hv
    rw [if_pos this]
  · rw [if_neg h8]
 rw [e2] at this
 exact this
def exRc : Rc := ⟨3,1,2,clk0,[]⟩
def m6 (x : Int) : Int := (x.tmod 6 + 6) % 6
def fitC (c : Clk) : Clk := ⟨andI c.c0 1048575,andI c.c1 1048575,andI c.c2 1048575,andI c.c3 1048575,andI c.c4 1048575⟩
def fitR (x : Rc) : Rc :=
 if 1 + m6 x.k = 6 then ⟨6,m5 x.r,0,fitC x.c,[]⟩
 else if 1 + m6 x.k = 3 then ⟨3,m5 x.r,andI x.u 1048575,clk0,[]⟩
 else if 1 + m6 x.k = 4 then ⟨4,m5 x.r,andI x.u 1048575,clk0,(x.ev.take 30).map fitE⟩
 else if 1 + m6 x.k = 1 ∧ (x.ev.take 30).length ≠ 1 then ⟨2,m5 x.r,0,clk0,(x.ev.take 30).map fitE⟩
 else ⟨1 + m6 x.k,m5 x.r,0,clk0,(x.ev.take 30).map fitE⟩
theorem Rm.is {a b c : Int} {K : Int → Prop} (h0 : 0 ≤ a) (hb : 0 < b) (h : a % b = c) (k : K c) : Rm a b K := .pos h0 hb (by rw [h]; exact k)
theorem AEq.nilEv {a1 a2 a3 a4 a5 a6 a7 a8 : AV} (f : Nat → List AV) : AEq (.agg [a1,a2,a3,a4,a5,a6,a7,a8, .v (.slice none 0 0)]) (.agg [a1,a2,a3,a4,a5,a6,a7,a8, .sl 12 0 true f]) := fun _ _ h => C1.nilEv h
def rcCs (k r u c0 c1 c2 c3 c4 : Int) (e : AV) : List AV := [.v (.int .i64 k), .v (.int .i64 r), .v (.int .i64 u), .v (.int .i64 c0), .v (.int .i64 c1), .v (.int .i64 c2), .v (.int .i64 c3), .v (.int .i64 c4),e]
theorem rcBytes_len (x : Rc) : 5 < (rcBytes x).length := by
 have hv := vputF_pos 9 (sealB (rcBody x)).length
 have hb : 2 ≤ (rcBody x).length := by simp [rcBody] <;> omega
 have hs := sealB_len (rcBody x)
 unfold rcBytes
 rw [List.length_append]
 show 5 < (vputF 9 (sealB (rcBody x)).length).length + _
 omega
def IsE (F : Nat → List AV) (l : List Ev) : Prop := ∀ i,i < l.length → F i = evF l i
theorem IsE.nil (F : Nat → List AV) : IsE F [] := fun i h => absurd h (by simp)
theorem IsE.app {F G : Nat → List AV} {l l' : List Ev} {n : Nat} (h : IsE F l) (h' : IsE G l') (hn : n = l.length) : IsE (appF n F G) (l ++ l') := by
 intro i hi
 rw [List.length_append] at hi
 show _ = elsF Ev.cs (l ++ l') i
 rw [← els_app hn]
 unfold appF
 cases hb : Nat.ble n i with
 | true =>
   have := Nat.le_of_ble_eq_true hb
   exact h' (i - n) (by omega)
 | false =>
   have : i < n := Nat.lt_of_not_le fun h => by rw [Nat.ble_eq_true_of_le h] at hb; cases hb
   exact h i (by omega)
theorem IsE.one {F : Nat → List AV} {e : Ev} (h : F 0 = e.cs) : IsE F [e] := fun i hi => by
 have : i = 0 := by simpa using hi
 subst this
 exact h
def zEv : Ev := ⟨0,0,⟨0,0,0,0,0⟩,0,0,⟨#[]⟩,0,⟨#[]⟩⟩
end Go.Proofs.Ytmldeejaghflnaa

/-
 Which fields a kind of frames names (frame.shapeOf: a literal map is asked).
-/
namespace Go.Proofs.Ytmldeejaghflnaa
open Go.RowKit
def shE (k : Int) : Bool := k == 1 || k == 4
def shU (k : Int) : Bool := k == 2
def shC (k : Int) : Bool := k == 3 || k == 5
def shK (k : Int) : Bool := decide (1 ≤ k ∧ k ≤ 5)
def shapeV (e u c : Bool) : Value := .agg #[.bool e, .bool u, .bool c]
theorem upd_run (w : World) (b : Nat) (es : Array MapEntry) (clock : Nat) (n : Int) (x : Value) (hb : w.heap[b]? = some (.map es clock)) (hn : Instr.findNow (.int .i64) (.int .i64 n) es.toList 0 = some none) :
  (Instr.mapUpdate 135 (.map (some b)) (.int .i64 n) x).run Try.prog w = .ok () { w with heap := w.heap.setIfInBounds b (.map (es.push { key := .int .i64 n,val := x,born := clock }) (clock + 1)) } := by
 have hc : (Instr.checkKey false 10000 3 (.int .i64 n)).run Try.prog w = .ok () w := MapKept.run_checkKey (k := .int .i64 n) Try.underlying3 (by simp [MapKept.IsKey]) false 9999
 simp [Instr.mapUpdate,run_underlying Try.underlying135,MapKept.run_getObj_map hb,hc,MapKept.run_findKey Try.underlying3 hn,MapKept.run_setObj_map _ hb,Result.andThen]
def valOf : Option (Nat × Value) → Value
  | some p => p.2
  | none => shapeV false false false
theorem look_run (w : World) (b : Nat) (es : Array MapEntry) (clock : Nat) (n : Int) (r : Option (Nat × Value)) (hb : w.heap[b]? = some (.map es clock)) (hn : Instr.findNow (.int .i64) (.int .i64 n) es.toList 0 = some r) :
  (Instr.lookup 135 (.map (some b)) (.int .i64 n) true).run Try.prog w = .ok (.tuple #[(valOf r), .bool r.isSome]) w := by
 have hc : (Instr.checkKey es.isEmpty 10000 3 (.int .i64 n)).run Try.prog w = .ok () w := MapKept.run_checkKey (k := .int .i64 n) Try.underlying3 (by simp [MapKept.IsKey]) _ 9999
 have hz : (zeroValue 108).run Try.prog w = .ok (shapeV false false false) w := by kernel_rfl
 cases r with
 | none => simp [Instr.lookup,run_underlying Try.underlying135,MapKept.run_getObj_map hb,hc,MapKept.run_findKey Try.underlying3 hn,hz,Result.andThen,valOf]
 | some p => simp [Instr.lookup,run_underlying Try.underlying135,MapKept.run_getObj_map hb,hc,MapKept.run_findKey Try.underlying3 hn,Result.andThen,valOf]
def ent (n : Int) (e u c : Bool) (b : Nat) : MapEntry := { key := .int .i64 n,val := shapeV e u c,born := b }
def ents : List MapEntry := [ent 1 true false false 0,ent 2 false true false 1,ent 3 false false true 2,ent 4 true false false 3,ent 5 false false true 4]
theorem ents_find (k : Int) : ∃ r,Instr.findNow (.int .i64) (.int .i64 k) ents 0 = some r ∧ (valOf r) = shapeV (shE k) (shU k) (shC k) ∧ r.isSome = shK k := by
 by_cases h : 1 ≤ k ∧ k ≤ 5
 · rcases (show k = 1 ∨ k = 2 ∨ k = 3 ∨ k = 4 ∨ k = 5 by omega) with rfl | rfl | rfl | rfl | rfl <;> exact ⟨_,rfl,rfl,rfl⟩
 · refine ⟨none,?_,?_,?_⟩
   · have h1 : (k == 1) = false := by simp; omega
     have h2 : (k == 2) = false := by simp; omega
     have h3 : (k == 3) = false := by simp; omega
     have h4 : (k == 4) = false := by simp; omega
     have h5 : (k == 5) = false := by simp; omega
     simp [ents,ent,Instr.findNow,Instr.sameNow,h1,h2,h3,h4,h5]
   · simp [valOf,shapeV,shE,shU,shC]; omega
   · simp [shK]; omega
theorem set_push (a : Array Obj) (o o' : Obj) : (a.push o).setIfInBounds a.size o' = a.push o' := by
 apply Array.ext'
 rw [Array.toList_setIfInBounds,Array.toList_push,Array.toList_push,← Array.length_toList,List.set_append_right _ _ (Nat.le_refl _),Nat.sub_self]
 rfl
theorem set_alloc (w : World) (o o' : Obj) : ({ (w.alloc o) with heap := (w.alloc o).heap.setIfInBounds w.heap.size o' } : World) = w.alloc o' := by
 show ({ w with heap := (w.heap.push o).setIfInBounds w.heap.size o' } : World) = { w with heap := w.heap.push o' }
 rw [set_push]
theorem upd_alloc (w : World) (b : Nat) (l : List MapEntry) (n : Int) (e u c : Bool) (hb : b = w.heap.size) (hn : Instr.findNow (.int .i64) (.int .i64 n) l 0 = some none) :
  (Instr.mapUpdate 135 (.map (some b)) (.int .i64 n) (.agg #[.bool e, .bool u, .bool c])).run Try.prog (w.alloc (.map l.toArray l.length)) = .ok () (w.alloc (.map (l ++ [ent n e u c l.length]).toArray (l.length + 1))) := by
 subst hb
 rw [upd_run _ _ l.toArray l.length n _ (heap_alloc_new w _) (by simpa using hn),set_alloc]
 simp [ent,shapeV]
set_option maxRecDepth 100000 in
set_option maxHeartbeats 4000000 in
theorem shape_any (k : Int) (w : World) : Calls Try.prog 53 #[.int .i64 k] w fun e w' => e = .returned (.tuple #[shapeV (shE k) (shU k) (shC k), .bool (shK k)]) ∧ Below w.heap.size w w' := by
 have hmm := @run_makeMap Try.prog
 obtain ⟨W1,hW⟩ : ∃ W1,W1 = w.alloc (.cells #[.bool false, .bool false, .bool false] 108) := ⟨_,rfl⟩
 have hs : w.heap.size + 1 = W1.heap.size := by rw [hW]; simp
 have h1 : (Instr.mapUpdate 135 (.map (some (w.heap.size + 1))) (.int .i64 1) (.agg #[.bool true, .bool false, .bool false])).run Try.prog (W1.alloc (.map #[] 0)) = .ok () (W1.alloc (.map #[ent 1 true false false 0] 1)) := upd_alloc W1 _ [] 1 true false false hs rfl
 have h2 : (Instr.mapUpdate 135 (.map (some (w.heap.size + 1))) (.int .i64 2) (.agg #[.bool false, .bool true, .bool false])).run Try.prog (W1.alloc (.map #[ent 1 true false false 0] 1)) = .ok () (W1.alloc (.map #[ent 1 true false false 0,ent 2 false true false 1] 2)) := upd_alloc W1 _ [ent 1 true false false 0] 2 false true false hs rfl
 have h3 : (Instr.mapUpdate 135 (.map (some (w.heap.size + 1))) (.int .i64 3) (.agg #[.bool false, .bool false, .bool true])).run Try.prog (W1.alloc (.map #[ent 1 true false false 0,ent 2 false true false 1] 2)) = .ok () (W1.alloc (.map #[ent 1 true false false 0,ent 2 false true false 1,ent 3 false false true 2] 3)) := upd_alloc W1 _ [ent 1 true false false 0,ent 2 false true false 1] 3 false false true hs rfl
 have h4 : (Instr.mapUpdate 135 (.map (some (w.heap.size + 1))) (.int .i64 4) (.agg #[.bool true, .bool false, .bool false])).run Try.prog (W1.alloc (.map #[ent 1 true false false 0,ent 2 false true false 1,ent 3 false false true 2] 3)) = .ok () (W1.alloc (.map #[ent 1 true false false 0,ent 2 false true false 1,ent 3 false false true 2,ent 4 true false false 3] 4)) := upd_alloc W1 _ [ent 1 true false false 0,ent 2 false true false 1,ent 3 false false true 2] 4 true false false hs rfl
 have h5 : (Instr.mapUpdate 135 (.map (some (w.heap.size + 1))) (.int .i64 5) (.agg #[.bool false, .bool false, .bool true])).run Try.prog (W1.alloc (.map #[ent 1 true false false 0,ent 2 false true false 1,ent 3 false false true 2,ent 4 true false false 3] 4)) = .ok () (W1.alloc (.map #[ent 1 true false false 0,ent 2 false true false 1,ent 3 false false true 2,ent 4 true false false 3,ent 5 false false true 4] 5)) := upd_alloc W1 _ [ent 1 true false false 0,ent 2 false true false 1,ent 3 false false true 2,ent 4 true false false 3] 5 false false true hs rfl
 obtain ⟨r,hr1,hr2,hr3⟩ := ents_find k
 have hl := look_run (W1.alloc (.map ents.toArray 5)) (w.heap.size + 1) ents.toArray 5 k r (by rw [hs]; exact heap_alloc_new W1 _) (by simpa using hr1)
 rw [hr2,hr3] at hl
 unfold ents at hl
 rw [hW] at h1 h2 h3 h4 h5 hl
 have H1 := Lib.hid h1
 have H2 := Lib.hid h2
 have H3 := Lib.hid h3
 have H4 := Lib.hid h4
 have H5 := Lib.hid h5
 have HL := Lib.hid hl
 clear h1 h2 h3 h4 h5 hl hr1 hr2 hr3 hs hW
 go_enter Try.func53,Try.ntmps53
 go_wp2
 rw [H1.out]
 go_wp2
 rw [H2.out]
 go_wp2
 rw [H3.out]
 go_wp2
 rw [H4.out]
 go_wp2
 rw [H5.out]
 go_wp2
 rw [HL.out]
 simp only [shapeV]
 go_wp2
 go_returns
 exact ⟨rfl,by go_grown⟩
theorem shape_spec (k : Int) : ASpec Try.prog 53 [.v (.int .i64 k)] (.tup [.agg [.v (.bool (shE k)), .v (.bool (shU k)), .v (.bool (shC k))], .v (.bool (shK k))]) [] := by
 refine ⟨⟨_,_,Try.func53,rfl,rfl⟩,fun w keep args _ hargs => ?_⟩
 obtain ⟨u,rfl,hu⟩ := one_arg hargs
 have hu : u = .int .i64 k := hu
 subst hu
 refine (shape_any k w).mono ?_
 rintro e w' ⟨h1,h2⟩
 exact ⟨_,fun _ => undef,h1,h2,⟨[.agg #[.bool (shE k), .bool (shU k), .bool (shC k)], .bool (shK k)],rfl,All2.cons ⟨[.bool (shE k), .bool (shU k), .bool (shC k)],rfl,All2.cons rfl (All2.cons rfl (All2.cons rfl All2.nil))⟩ (All2.cons rfl All2.nil)⟩,(fun p hp => by cases hp),by simp [blocksOf],(fun b hb => by simp [blocksOf] at hb)⟩
end Go.Proofs.Ytmldeejaghflnaa
