/-
  Contracts of the walk: Frm, FrmP, TkE, TkLaw.
-/
import Derived.Test.YtmldeejaghflnaaFu9
import Derived.Test.YtmldeejaghflnaaFu8
import Derived.Test.YtmldeejaghflnaaFu6
/-
 What package frame computes: which frames may be.
-/
namespace Go.Proofs.Ytmldeejaghflnaa
open Go.RowKit
theorem shape_no (k : Int) (h : ¬ (1 ≤ k ∧ k ≤ 5)) : ASpec Try.prog 53 [.v (.int .i64 k)] (.tup [.agg [.v (.bool false), .v (.bool false), .v (.bool false)], .v (.bool false)]) [] := by
 have := shape_spec k
 rw [show shE k = false by simp [shE]; omega,show shU k = false by simp [shU]; omega,show shC k = false by simp [shC]; omega,show shK k = false by simp [shK]; omega] at this
 exact this
theorem frCount_spec (n : Int) : ASpec Try.prog 79 [.v (.int .i64 n)] (.v (.bool (okN n))) [] := by
 refine aspec_of lay_ok 5 Try.func79 rfl rfl rfl ?_
 repeat' ((conv => whnf); first | refine K1.a ?_ | refine K1.b ?_ | refine K1.c ?_ | refine K1.d ?_ | refine K1.e ?_ | refine K1.f ?_ | refine ARet.hdI ?_ | refine Spl.mk (fun _ => ?_) (fun _ => ?_) | refine SNil.mk (fun _ => ?_) ?_ | refine K1.g ?_ | refine ASl.frz ?_ | refine Wr.b64 ?_ | refine Wr.bu64 ?_ | refine Wr.bu32 ?_ | refine Wr.bu8 ?_ | refine K1.u8 ?_ | refine K1.u64 ?_ | refine K1.u32 ?_ | refine K1.h ?_ | refine K1.i ?_ | refine K1.q ?_ | refine K1.j ?_ | refine K1.k ?_ | refine BSpl.dec (fun _ => ?_) (fun _ => ?_) | refine K1.l ?_ | refine K1.n ?_ | refine BSpl.mk (fun _ => ?_) (fun _ => ?_))
 all_goals (conv => whnf)
 all_goals (refine AEqI.mk (AEq.of ?_))
 all_goals simp [okN,withinB, *]
def evOk (k r : Int) (e : Ev) : Bool := decide (mayE e = 0) && (decide (k ≠ 1) || decide (e.r = r))
theorem evOk_no1 {k r : Int} {e : Ev} (h : ¬ mayE e = 0) : evOk k r e = false := by simp [evOk,h]
theorem evOk_no2 {k r : Int} {e : Ev} (hk : k = 1) (h : ¬ e.r = r) : evOk k r e = false := by simp [evOk,h,hk]
theorem evOk_yes1 {k r : Int} {e : Ev} (h : mayE e = 0) (hk : k ≠ 1) : evOk k r e = true := by simp [evOk,h,hk]
theorem evOk_yes2 {k r : Int} {e : Ev} (h : mayE e = 0) (hr : e.r = r) : evOk k r e = true := by simp [evOk,h,hr]
def mayF (x : Rc) : Bool :=
 shK x.k && decide (0 ≤ x.r) && decide (x.r < 5) && okN x.u && (shU x.k || decide (x.u = 0)) && (shC x.k || clkZ x.c) && (shE x.k || decide (x.ev.length = 0)) && okC x.c && decide (x.ev.length ≤ 20) && (decide (x.k ≠ 1) || decide (x.ev.length ≠ 0)) &&
  x.ev.all (evOk x.k x.r)
theorem allF_no {p : Ev → Bool} {l : List Ev} {j : Nat} (hj : j < l.length) (h : p (l.getD j default) = false) : l.all p = false := by
 rw [List.all_eq_false]
 refine ⟨l[j],List.getElem_mem hj,?_⟩
 rw [List.getD,List.getElem?_eq_getElem hj] at h
 simpa using h
theorem allF_yes {p : Ev → Bool} {l : List Ev} (h : ∀ i,i < l.length → p (l.getD i default) = true) : l.all p = true := by
 rw [List.all_eq_true]
 intro e he
 obtain ⟨i,hi,rfl⟩ := List.mem_iff_getElem.1 he
 have := h i hi
 rw [List.getD,List.getElem?_eq_getElem hi] at this
 exact this
set_option maxHeartbeats 8000000 in
set_option maxRecDepth 100000 in
theorem frMay_spec (x : Rc) (hl : x.ev.length ≤ 140737488355328) : ASpec Try.prog 56 [x.av] (.v (.bool (mayF x))) [] := by
 obtain ⟨k,r,u,⟨c0,c1,c2,c3,c4⟩,ev⟩ := x
 dsimp only at hl
 obtain ⟨kk,hkk⟩ : ∃ kk,kk = k := ⟨_,rfl⟩
 rcases (show k = 1 ∨ k = 2 ∨ k = 3 ∨ k = 4 ∨ k = 5 ∨ ¬ (1 ≤ k ∧ k ≤ 5) by omega) with rfl | rfl | rfl | rfl | rfl | hk
 all_goals dsimp only [Rc.av,Rc.cs]
 all_goals
  refine aspec_of lay_ok 324523273306140832810710174007647 Try.func56 rfl rfl rfl ?_
  repeat' ((conv => whnf); first | refine K1.a ?_ | refine K1.b ?_ | refine K1.c ?_ | refine K1.d ?_ | refine K1.e ?_ | refine K1.f ?_ | refine ACall.plain _ _ (shape_no _ hk) (SubL.cons (.eq _) .nil) rfl ?_ | refine ACall.plain _ _ (shape_spec _) (SubL.cons (.eq _) .nil) rfl ?_ | refine ACall.plain _ _ (frCount_spec _) (SubL.cons (.eq _) .nil) rfl ?_ | refine ALoop.unr 65 6 rfl ?_ | refine EqA.mk (Clk.vs ⟨c0,c1,c2,c3,c4⟩) (Clk.vs clk0) (Clk.mk c0 c1 c2 c3 c4 = clk0) rfl rfl (clk_eq _ _) ?_ | refine ARet.hdI ?_ | refine Spl.mk (fun _ => ?_) (fun _ => ?_) | refine SNil.mk (fun _ => ?_) ?_ | refine K1.g ?_ | refine ASl.frz ?_ | refine Wr.b64 ?_ | refine Wr.bu64 ?_ | refine Wr.bu32 ?_ | refine Wr.bu8 ?_ | refine K1.u8 ?_ | refine K1.u64 ?_ | refine K1.u32 ?_ | refine K1.h ?_ | refine K1.i ?_ | refine K1.q ?_ | refine K1.j ?_ | refine K1.k ?_ | refine BSpl.dec (fun _ => ?_) (fun _ => ?_) | refine K1.l ?_ | refine K1.n ?_ | refine BSpl.mk (fun _ => ?_) (fun _ => ?_))
  all_goals (conv => whnf)
  all_goals first
    | refine AEqI.mk (AEq.of ?_)
    | refine ALoop.mk { j : Nat // j ≤ ev.length ∧ ∀ i,i < j → evOk kk r (ev.getD i default) = true } (fun j => ⟨[(1, .box 0 0),(88, .sl 12 ev.length true (evF ev)),(89, .v (.int .i64 (ev.length : Int))),(90, .v (.int .i64 (j.1 : Int)))],
       [(0, .box 40 [.v (.int .i64 _), .v (.int .i64 r), .v (.int .i64 u), .v (.int .i64 c0), .v (.int .i64 c1), .v (.int .i64 c2), .v (.int .i64 c3), .v (.int .i64 c4), .sl 12 ev.length true (evF ev)])],[],4⟩) (fun j => ev.length - j.1) ⟨0,Nat.zero_le _,fun i h => absurd h (Nat.not_lt_zero i)⟩ _
       (LeR.mk' [] _ _ _ rfl ⟨AEq.refl _,AEq.refl _,AEq.refl _,AEq.int rfl,trivial⟩ ⟨⟨_,rfl,OEq.refl _⟩,trivial⟩ rfl) ?_
  all_goals try (simp [mayF,shK,shU,shE,shC,okC,clkZ_iff, -List.length_eq_zero_iff, *] <;> omega; done)
  all_goals (rintro ⟨j,hj,hall⟩; dsimp only)
  all_goals repeat' ((conv => whnf); first | refine K1.a ?_ | refine K1.b ?_ | refine K1.c ?_ | refine K1.d ?_ | refine K1.e ?_ | refine K1.f ?_ | refine ACall.plain _ _ (may_spec (ev.getD (j : Int).toNat default)) (SubL.cons (.eq _) .nil) rfl ?_ | refine ARet.hdI ?_ | refine Spl.mk (fun _ => ?_) (fun _ => ?_) | refine SNil.mk (fun _ => ?_) ?_ | refine K1.g ?_ | refine ASl.frz ?_ | refine Wr.b64 ?_ | refine Wr.bu64 ?_ | refine Wr.bu32 ?_ | refine Wr.bu8 ?_ | refine K1.u8 ?_ | refine K1.u64 ?_ | refine K1.u32 ?_ | refine K1.h ?_ | refine K1.i ?_ | refine K1.q ?_ | refine K1.j ?_ | refine K1.k ?_ | refine BSpl.dec (fun _ => ?_) (fun _ => ?_) | refine K1.l ?_ | refine K1.n ?_ | refine BSpl.mk (fun _ => ?_) (fun _ => ?_))
  all_goals first
    | (conv => whnf
       refine ⟨⟨j + 1,by omega,fun i hi => ?_⟩,_,LeR.mk' [] _ _ _ rfl ⟨AEq.refl _,AEq.refl _,AEq.refl _,AEq.int rfl,trivial⟩ ⟨⟨_,rfl,OEq.refl _⟩,trivial⟩ rfl,by show ev.length - (j + 1) < ev.length - j; omega⟩
       rcases Nat.lt_or_ge i j with h | h
       · exact hall i h
       · obtain rfl : i = j := by omega
         have h0 : mayE (ev.getD i default) = 0 := ‹mayE (ev.getD (i : Int).toNat default) = 0›
         first
           | exact evOk_yes1 h0 (by omega)
           | exact evOk_yes2 h0 ‹(ev.getD (i : Int).toNat default).r = r›)
    | (conv => whnf
       refine AEqI.mk (AEq.of ?_)
       have hno := allF_no (p := evOk kk r) (l := ev) (j := j) (by omega) (evOk_no1 ‹¬ mayE (ev.getD (j : Int).toNat default) = 0›)
       rw [hkk] at hno
       simp [mayF,hno])
    | (conv => whnf
       refine AEqI.mk (AEq.of ?_)
       have hno := allF_no (p := evOk kk r) (l := ev) (j := j) (by omega) (evOk_no2 hkk ‹¬ (ev.getD (j : Int).toNat default).r = r›)
       rw [hkk] at hno
       simp [mayF,hno])
    | (conv => whnf
       refine AEqI.mk (AEq.of ?_)
       have hyes := allF_yes (p := evOk kk r) (l := ev) (fun i hi => hall i (by omega))
       rw [hkk] at hyes
       simp [mayF,show okN 0 = true from rfl,shK,shU,shE,shC,okC,clkZ_iff, -List.length_eq_zero_iff, *] <;> omega)
end Go.Proofs.Ytmldeejaghflnaa

/-
 The bytes of a frame that may be.
-/
namespace Go.Proofs.Ytmldeejaghflnaa
open Go.RowKit
def frBody (x : Rc) : List UInt8 :=
 [byteOf x.k,byteOf x.r] ++ (if shE x.k then UInt8.ofNat x.ev.length :: evsB x.ev else []) ++ (if shU x.k then vputI x.u else []) ++ (if shC x.k then clkB x.c else [])
def frBytes (x : Rc) : List UInt8 := sealB (vput (frBody x).length ++ frBody x)
structure MayF (x : Rc) : Prop where
 k : 1 ≤ x.k ∧ x.k ≤ 5
 r : 0 ≤ x.r ∧ x.r < 5
 u : okN x.u = true
 u0 : shU x.k = true ∨ x.u = 0
 c0 : shC x.k = true ∨ x.c = clk0
 e0 : shE x.k = true ∨ x.ev.length = 0
 c : okN x.c.c0 = true ∧ okN x.c.c1 = true ∧ okN x.c.c2 = true ∧ okN x.c.c3 = true ∧ okN x.c.c4 = true
 l : x.ev.length ≤ 20
 one : x.k ≠ 1 ∨ x.ev.length ≠ 0
 ev : x.ev.all (evOk x.k x.r) = true
theorem mayF_of {x : Rc} (h : mayF x = true) : MayF x := by
 simp only [mayF,Bool.and_eq_true,Bool.or_eq_true,decide_eq_true_eq,clkZ_iff,okC,shK] at h
 obtain ⟨⟨⟨⟨⟨⟨⟨⟨⟨⟨h1,h2⟩,h3⟩,h4⟩,h5⟩,h6⟩,h7⟩,⟨⟨⟨h8,h9⟩,h10⟩,h11⟩,h12⟩,h13⟩,h14⟩,h15⟩ := h
 exact ⟨h1,⟨h2,h3⟩,h4,h5,h6,h7,⟨h8,h9,h10,h11,h12⟩,h13,h14,h15⟩
theorem evOk_may {k r : Int} {l : List Ev} (h : l.all (evOk k r) = true) : l.all (fun e => decide (mayE e = 0)) = true := by
 rw [List.all_eq_true] at h ⊢
 intro e he
 have := h e he
 simp only [evOk,Bool.and_eq_true] at this
 exact this.1
theorem frPut_no (x : Rc) (hl : x.ev.length ≤ 140737488355328) (h : mayF x = false) : ASpec Try.prog 31 [x.av] (.tup [.v (.slice none 0 0), .v (.int .i64 1)]) [] := by
 have hm := frMay_spec x hl
 rw [h] at hm
 refine aspec_of lay_ok 1070057531510454523743 Try.func31 rfl rfl rfl ?_
 repeat' ((conv => whnf); first | refine K1.a ?_ | refine K1.b ?_ | refine K1.c ?_ | refine K1.d ?_ | refine K1.e ?_ | refine K1.f ?_ | refine ACall.plain _ _ (hm) (SubL.cons (.eq _) .nil) rfl ?_ | refine ARet.hdI ?_ | refine Spl.mk (fun _ => ?_) (fun _ => ?_) | refine SNil.mk (fun _ => ?_) ?_ | refine K1.g ?_ | refine ASl.frz ?_ | refine Wr.b64 ?_ | refine Wr.bu64 ?_ | refine Wr.bu32 ?_ | refine Wr.bu8 ?_ | refine K1.u8 ?_ | refine K1.u64 ?_ | refine K1.u32 ?_ | refine K1.h ?_ | refine K1.i ?_ | refine K1.q ?_ | refine K1.j ?_ | refine K1.k ?_ | refine BSpl.dec (fun _ => ?_) (fun _ => ?_) | refine K1.l ?_ | refine K1.n ?_ | refine BSpl.mk (fun _ => ?_) (fun _ => ?_))
 conv => whnf
 exact AEqI.mk (AEq.refl _)
set_option maxHeartbeats 8000000 in
set_option maxRecDepth 100000 in
theorem frPut_e (d : Nat) (x : Rc) (h : mayF x = true) (hk : x.k = 1 ∨ x.k = 4) :
  ASpec Try.prog 31 [x.av] (.tup [.own d, .v (.int .i64 0)]) [(d, .row 5 1 (frBytes x).length true (bytesF (frBytes x)))] := by
 have m := mayF_of h
 have hm := frMay_spec x (by have := m.l; omega)
 rw [h] at hm
 obtain ⟨k,r,u,c,ev⟩ := x
 obtain ⟨mk,mr,mu,mu0,mc0,me0,mc,ml,m1,mev0⟩ := m
 dsimp only at mk mr mu ml mc mu0 mc0 me0 mev0 m1 hk
 have mev := evOk_may mev0
 have hat : ∀ j,j < ev.length → mayE (ev.getD j default) = 0 := fun j hj => may_at mev hj
 have h44 : ∀ j,j < ev.length → (evBytes (ev.getD j default)).length ≤ 44 := fun j hj => evBytes_len (hat j hj)
 have hlen : ∀ j,(evsB (ev.take j)).length ≤ 44 * j := fun j => Nat.le_trans (evsB_len fun e he => may_mem mev e (List.mem_of_mem_take he)) (Nat.mul_le_mul_left _ (by rw [List.length_take]; omega))
 obtain ⟨kk,hkk⟩ : ∃ kk,kk = k := ⟨_,rfl⟩
 have hmore : ∀ j,(([byteOf' kk,byteOf' r] ++ [byteOf' (ev.length : Int)]) ++ evsB (ev.take j)).length = 3 + (evsB (ev.take j)).length := fun j => by simp; omega
 rcases hk with rfl | rfl
 all_goals
  dsimp only [Rc.av,Rc.cs] at hm ⊢
  refine aspec_of lay_ok 1070057531510454523743 Try.func31 rfl rfl rfl ?_
  repeat' ((conv => whnf); first | refine K1.a ?_ | refine K1.b ?_ | refine K1.c ?_ | refine K1.d ?_ | refine K1.e ?_ | refine K1.f ?_ | refine ACall.plain _ _ (hm) (SubL.cons (.eq _) .nil) rfl ?_ | refine ACall.plain _ _ (shape_spec _) (SubL.cons (.eq _) .nil) rfl ?_ | refine Spl.mk (fun _ => ?_) (fun _ => ?_) | refine SNil.mk (fun _ => ?_) ?_ | refine K1.g ?_ | refine ASl.frz ?_ | refine Wr.b64 ?_ | refine Wr.bu64 ?_ | refine Wr.bu32 ?_ | refine Wr.bu8 ?_ | refine K1.u8 ?_ | refine K1.u64 ?_ | refine K1.u32 ?_ | refine K1.h ?_ | refine K1.i ?_ | refine K1.q ?_ | refine K1.j ?_ | refine K1.k ?_ | refine BSpl.dec (fun _ => ?_) (fun _ => ?_) | refine K1.l ?_ | refine K1.n ?_ | refine BSpl.mk (fun _ => ?_) (fun _ => ?_))
  conv => whnf
  refine ALoop.mk { j : Nat // j ≤ ev.length } (fun j => ⟨[(1, .box 0 0),(4, .box 1 0),(6, .own 90),(39, .sl 12 ev.length true (evF ev)),(40, .v (.int .i64 (ev.length : Int))),(41, .v (.int .i64 (j.1 : Int)))],
    [(1, .box 108 [.v (.bool true), .v (.bool false), .v (.bool false)]),(90, .row 5 1 (([byteOf' kk,byteOf' r] ++ [byteOf' (ev.length : Int)]) ++ evsB (ev.take j.1)).length true (bytesF (([byteOf' kk,byteOf' r] ++ [byteOf' (ev.length : Int)]) ++ evsB (ev.take j.1))))],[],91⟩) (fun j => ev.length - j.1) ⟨0,Nat.zero_le _⟩ _
    (LeR.mk' [(4,90)] _ _ _ rfl ⟨AEq.refl _,AEq.refl _,AEq.refl _,AEq.refl _,AEq.refl _,AEq.int rfl,trivial⟩ ⟨⟨_,rfl,OEq.refl _⟩,⟨_,rfl,OEq.isB (IsB.app (IsB.two (by omega) (by omega) (by omega) (by omega)) (IsB.one (by omega) (by omega)) rfl) (by simp <;> omega) (by simp [evsB,hkk])⟩,trivial⟩ rfl) ?_
  rintro ⟨j,hj⟩
  dsimp only
  have h44j := h44 (j : Int).toNat
  have hmj := hmore j
  have hlj := hlen j
  have hsl := sealB_len (vput (([byteOf' kk,byteOf' r] ++ [byteOf' (ev.length : Int)]) ++ evsB (ev.take j)).length ++ (([byteOf' kk,byteOf' r] ++ [byteOf' (ev.length : Int)]) ++ evsB (ev.take j)))
  have hvs : (vput (([byteOf' kk,byteOf' r] ++ [byteOf' (ev.length : Int)]) ++ evsB (ev.take j)).length).length ≤ 10 := vputF_le 9 _
  repeat' ((conv => whnf); first | refine K1.a ?_ | refine K1.b ?_ | refine K1.c ?_ | refine K1.d ?_ | refine K1.e ?_ | refine K1.f ?_ | refine ACall.fresh _ _ _ _ _ _ _ (put_yes_spec _ (ev.getD (j : Int).toNat default) (hat _ (by omega))) (SubL.cons (.eq _) .nil) rfl ?_ | refine ACall.fresh _ _ _ _ _ _ _ (vput_spec _ (([byteOf' kk,byteOf' r] ++ [byteOf' (ev.length : Int)]) ++ evsB (ev.take j)).length (by omega)) (SubL.cons (.eq _) .nil) rfl ?_ | refine ACall.fresh _ _ _ _ _ _ _ (seal_spec _ (vput (([byteOf' kk,byteOf' r] ++ [byteOf' (ev.length : Int)]) ++ evsB (ev.take j)).length ++ (([byteOf' kk,byteOf' r] ++ [byteOf' (ev.length : Int)]) ++ evsB (ev.take j))) (IsB.app (IsB.bytes _) (IsB.bytes _) rfl) List.length_append.symm (by rw [List.length_append]; omega)) (SubL.cons (.eq _) .nil) rfl ?_ | refine Spl.mk (fun _ => ?_) (fun _ => ?_) | refine SNil.mk (fun _ => ?_) ?_ | refine K1.g ?_ | refine ASl.frz ?_ | refine Wr.b64 ?_ | refine Wr.bu64 ?_ | refine Wr.bu32 ?_ | refine Wr.bu8 ?_ | refine K1.u8 ?_ | refine K1.u64 ?_ | refine K1.u32 ?_ | refine K1.h ?_ | refine K1.i ?_ | refine K1.q ?_ | refine K1.j ?_ | refine K1.k ?_ | refine BSpl.dec (fun _ => ?_) (fun _ => ?_) | refine K1.l ?_ | refine K1.n ?_ | refine BSpl.mk (fun _ => ?_) (fun _ => ?_))
  · conv => whnf
    refine ⟨⟨j + 1,by omega⟩,_,LeR.mk' [(93,90)] _ _ _ rfl ⟨AEq.refl _,AEq.refl _,AEq.refl _,AEq.refl _,AEq.refl _,AEq.int rfl,trivial⟩ ⟨⟨_,rfl,OEq.refl _⟩,⟨_,rfl,OEq.isB (IsB.app (IsB.bytes _) (IsB.bytes _) rfl) List.length_append.symm ?_⟩,trivial⟩ rfl,by show ev.length - (j + 1) < ev.length - j; omega⟩
    rw [evsB_take (by omega),List.append_assoc]
    rfl
  · conv => whnf
    refine ARet.ownX d rfl rfl ?_ (AEq.refl _)
    refine OEq.isB (IsB.bytes _) rfl ?_
    rw [List.take_of_length_le (by omega)]
    unfold frBytes frBody
    simp [hkk,shE,shU,shC,byteOf,byteOf']
set_option maxHeartbeats 8000000 in
set_option maxRecDepth 100000 in
theorem frPut_u (d : Nat) (x : Rc) (h : mayF x = true) (hk : x.k = 2) :
  ASpec Try.prog 31 [x.av] (.tup [.own d, .v (.int .i64 0)]) [(d, .row 5 1 (frBytes x).length true (bytesF (frBytes x)))] := by
 have m := mayF_of h
 have hm := frMay_spec x (by have := m.l; omega)
 rw [h] at hm
 obtain ⟨k,r,u,c,ev⟩ := x
 obtain ⟨mk,mr,mu,mu0,mc0,me0,mc,ml,m1,mev0⟩ := m
 dsimp only at mk mr mu ml mc mu0 mc0 me0 mev0 m1 hk
 obtain ⟨kk,hkk⟩ : ∃ kk,kk = k := ⟨_,rfl⟩
 obtain ⟨un,rfl,hun⟩ := okN_of mu
 have hvu : (vput un).length ≤ 10 := vputF_le 9 _
 have hmore : ([byteOf' kk,byteOf' r] ++ vput un).length = 2 + (vput un).length := by simp; omega
 have hsl := sealB_len (vput (2 + (vput un).length) ++ ([byteOf' kk,byteOf' r] ++ vput un))
 have hvs : (vput (2 + (vput un).length)).length ≤ 10 := vputF_le 9 _
 subst hk
 have hP : IsB (appF 2 (chunk 1 [.v (.int .u8 2), .v (.int .u8 r)]) (bytesF (vput un))) ([byteOf' kk,byteOf' r] ++ vput un) := hkk ▸ IsB.app (IsB.two (by omega) (by omega) (by omega) (by omega)) (IsB.bytes _) rfl
 have hn : 2 + (vput un).length = ([byteOf' kk,byteOf' r] ++ vput un).length := by omega
 dsimp only [Rc.av,Rc.cs] at hm ⊢
 refine aspec_of lay_ok 1070057531510454523743 Try.func31 rfl rfl rfl ?_
 repeat' ((conv => whnf); first | refine K1.a ?_ | refine K1.b ?_ | refine K1.c ?_ | refine K1.d ?_ | refine K1.e ?_ | refine K1.f ?_ | refine ACall.plain _ _ (hm) (SubL.cons (.eq _) .nil) rfl ?_ | refine ACall.plain _ _ (shape_spec _) (SubL.cons (.eq _) .nil) rfl ?_ | refine ACall.fresh _ _ _ _ _ _ _ (vput_spec _ un (by omega)) (SubL.cons (.eq _) .nil) rfl ?_ | refine ACall.fresh _ _ _ _ _ _ _ (vput_spec _ (2 + (vput un).length) (by omega)) (SubL.cons (.eq _) .nil) rfl ?_ | refine ACall.fresh _ _ _ _ _ _ _ (seal_spec _ (vput (2 + (vput un).length) ++ ([byteOf' kk,byteOf' r] ++ vput un)) (IsB.app (IsB.bytes _) hP rfl) (by rw [List.length_append,← hn]) (by rw [List.length_append,← hn]; omega)) (SubL.cons (.eq _) .nil) rfl ?_ | refine Spl.mk (fun _ => ?_) (fun _ => ?_) | refine SNil.mk (fun _ => ?_) ?_ | refine K1.g ?_ | refine ASl.frz ?_ | refine Wr.b64 ?_ | refine Wr.bu64 ?_ | refine Wr.bu32 ?_ | refine Wr.bu8 ?_ | refine K1.u8 ?_ | refine K1.u64 ?_ | refine K1.u32 ?_ | refine K1.h ?_ | refine K1.i ?_ | refine K1.q ?_ | refine K1.j ?_ | refine K1.k ?_ | refine BSpl.dec (fun _ => ?_) (fun _ => ?_) | refine K1.l ?_ | refine K1.n ?_ | refine BSpl.mk (fun _ => ?_) (fun _ => ?_))
 conv => whnf
 refine ARet.ownX d rfl rfl ?_ (AEq.refl _)
 refine OEq.isB (IsB.bytes _) rfl ?_
 rw [hn]
 unfold frBytes frBody
 simp [hkk,shE,shU,shC,byteOf,byteOf',vputI]
set_option maxHeartbeats 8000000 in
set_option maxRecDepth 100000 in
theorem frPut_c (d : Nat) (x : Rc) (h : mayF x = true) (hk : x.k = 3 ∨ x.k = 5) :
  ASpec Try.prog 31 [x.av] (.tup [.own d, .v (.int .i64 0)]) [(d, .row 5 1 (frBytes x).length true (bytesF (frBytes x)))] := by
 have m := mayF_of h
 have hm := frMay_spec x (by have := m.l; omega)
 rw [h] at hm
 obtain ⟨k,r,u,⟨c0,c1,c2,c3,c4⟩,ev⟩ := x
 obtain ⟨mk,mr,mu,mu0,mc0,me0,⟨m0,m1,m2,m3,m4⟩,ml,mone,mev0⟩ := m
 dsimp only at mk mr mu ml m0 m1 m2 m3 m4 mu0 mc0 me0 mev0 mone hk
 obtain ⟨kk,hkk⟩ : ∃ kk,kk = k := ⟨_,rfl⟩
 obtain ⟨c0,rfl,hc0⟩ := okN_of m0
 obtain ⟨c1,rfl,hc1⟩ := okN_of m1
 obtain ⟨c2,rfl,hc2⟩ := okN_of m2
 obtain ⟨c3,rfl,hc3⟩ := okN_of m3
 obtain ⟨c4,rfl,hc4⟩ := okN_of m4
 have q0 : (vput c0).length ≤ 10 := vputF_le 9 _
 have q1 : (vput c1).length ≤ 10 := vputF_le 9 _
 have q2 : (vput c2).length ≤ 10 := vputF_le 9 _
 have q3 : (vput c3).length ≤ 10 := vputF_le 9 _
 have q4 : (vput c4).length ≤ 10 := vputF_le 9 _
 obtain ⟨n,hn0⟩ : ∃ n,n = 2 + (vput c0).length + (vput c1).length + (vput c2).length + (vput c3).length + (vput c4).length := ⟨_,rfl⟩
 have hn : n = ([byteOf' kk,byteOf' r] ++ vput c0 ++ vput c1 ++ vput c2 ++ vput c3 ++ vput c4).length := by rw [hn0]; simp; omega
 have hvs : (vput (2 + (vput c0).length + (vput c1).length + (vput c2).length + (vput c3).length + (vput c4).length)).length ≤ 10 := vputF_le 9 _
 have hsl := sealB_len (vput (2 + (vput c0).length + (vput c1).length + (vput c2).length + (vput c3).length + (vput c4).length) ++ ([byteOf' kk,byteOf' r] ++ vput c0 ++ vput c1 ++ vput c2 ++ vput c3 ++ vput c4))
 rcases hk with rfl | rfl
 all_goals
  have hP := IsB.app (IsB.app (IsB.app (IsB.app (IsB.app (IsB.two (x := kk) (y := r) (by omega) (by omega) (by omega) (by omega)) (IsB.bytes (vput c0)) rfl) (IsB.bytes (vput c1)) (n := 2 + (vput c0).length) (by simp <;> omega)) (IsB.bytes (vput c2)) (n := 2 + (vput c0).length + (vput c1).length) (by simp <;> omega)) (IsB.bytes (vput c3)) (n := 2 + (vput c0).length + (vput c1).length + (vput c2).length) (by simp <;> omega)) (IsB.bytes (vput c4)) (n := 2 + (vput c0).length + (vput c1).length + (vput c2).length + (vput c3).length) (by simp <;> omega)
  rw [hkk] at hP hn
  dsimp only [Rc.av,Rc.cs] at hm ⊢
  refine aspec_of lay_ok 1070057531510454523743 Try.func31 rfl rfl rfl ?_
  repeat' ((conv => whnf); first | refine K1.a ?_ | refine K1.b ?_ | refine K1.c ?_ | refine K1.d ?_ | refine K1.e ?_ | refine K1.f ?_ | refine ACall.plain _ _ (hm) (SubL.cons (.eq _) .nil) rfl ?_ | refine ACall.plain _ _ (shape_spec _) (SubL.cons (.eq _) .nil) rfl ?_ | refine ACall.fresh _ _ _ _ _ _ _ (vput_spec _ c0 (by omega)) (SubL.cons (.eq _) .nil) rfl ?_ | refine ACall.fresh _ _ _ _ _ _ _ (vput_spec _ c1 (by omega)) (SubL.cons (.eq _) .nil) rfl ?_ | refine ACall.fresh _ _ _ _ _ _ _ (vput_spec _ c2 (by omega)) (SubL.cons (.eq _) .nil) rfl ?_ | refine ACall.fresh _ _ _ _ _ _ _ (vput_spec _ c3 (by omega)) (SubL.cons (.eq _) .nil) rfl ?_ | refine ACall.fresh _ _ _ _ _ _ _ (vput_spec _ c4 (by omega)) (SubL.cons (.eq _) .nil) rfl ?_ | refine ACall.fresh _ _ _ _ _ _ _ (vput_spec _ (2 + (vput c0).length + (vput c1).length + (vput c2).length + (vput c3).length + (vput c4).length) (by omega)) (SubL.cons (.eq _) .nil) rfl ?_ | refine ACall.fresh _ _ _ _ _ _ _ (seal_spec _ (vput (2 + (vput c0).length + (vput c1).length + (vput c2).length + (vput c3).length + (vput c4).length) ++ ([byteOf' _,byteOf' r] ++ vput c0 ++ vput c1 ++ vput c2 ++ vput c3 ++ vput c4)) (IsB.app (IsB.bytes _) hP rfl) (by rw [List.length_append,← hn,hn0]) (by rw [List.length_append,← hn,hn0]; omega)) (SubL.cons (.eq _) .nil) rfl ?_ | refine ALoop.unr 68 6 rfl ?_ | refine Spl.mk (fun _ => ?_) (fun _ => ?_) | refine SNil.mk (fun _ => ?_) ?_ | refine K1.g ?_ | refine ASl.frz ?_ | refine Wr.b64 ?_ | refine Wr.bu64 ?_ | refine Wr.bu32 ?_ | refine Wr.bu8 ?_ | refine K1.u8 ?_ | refine K1.u64 ?_ | refine K1.u32 ?_ | refine K1.h ?_ | refine K1.i ?_ | refine K1.q ?_ | refine K1.j ?_ | refine K1.k ?_ | refine BSpl.dec (fun _ => ?_) (fun _ => ?_) | refine K1.l ?_ | refine K1.n ?_ | refine BSpl.mk (fun _ => ?_) (fun _ => ?_))
  conv => whnf
  refine ARet.ownX d rfl rfl ?_ (AEq.refl _)
  refine OEq.isB (IsB.bytes _) rfl ?_
  rw [← hn0,hn]
  unfold frBytes frBody
  simp [shE,shU,shC,byteOf,byteOf',vputI,clkB]
theorem frPut_yes (d : Nat) (x : Rc) (h : mayF x = true) :
  ASpec Try.prog 31 [x.av] (.tup [.own d, .v (.int .i64 0)]) [(d, .row 5 1 (frBytes x).length true (bytesF (frBytes x)))] := by
 have m := (mayF_of h).k
 rcases (show x.k = 1 ∨ x.k = 2 ∨ x.k = 3 ∨ x.k = 4 ∨ x.k = 5 by omega) with hk | hk | hk | hk | hk
 · exact frPut_e d x h (.inl hk)
 · exact frPut_u d x h hk
 · exact frPut_c d x h (.inl hk)
 · exact frPut_e d x h (.inr hk)
 · exact frPut_c d x h (.inr hk)
end Go.Proofs.Ytmldeejaghflnaa

/-
 What event.Take computes.
-/
namespace Go.Proofs.Ytmldeejaghflnaa
open Go.RowKit
def zeroEv : Ev := ⟨0,0,⟨0,0,0,0,0⟩,0,0,⟨#[]⟩,0,⟨#[]⟩⟩
def takeE (bs : List UInt8) : Ev × Nat × Int := if (fieldS bs (0,0)).2.2 ≠ 0 then (zeroEv,0,(fieldS bs (0,0)).2.2) else ((fieldS bs (0,0)).1,(fieldS bs (0,0)).2.1,0)
def tkR (t : Ev × Nat × Int) : AV := .tup [t.1.av, .v (.int .i64 (t.2.1 : Int)), .v (.int .i64 t.2.2)]
theorem takeE_ok {bs : List UInt8} {e : Ev} {s : St} (h : fieldS bs (0,0) = (e,s)) (h0 : s.2 = 0) : tkR (e,s.1,0) = tkR (takeE bs) := by
 unfold takeE; rw [h,if_neg (fun k => k h0)]
theorem takeE_no {bs : List UInt8} {e : Ev} {s : St} (h : fieldS bs (0,0) = (e,s)) (h0 : ¬ s.2 = 0) : tkR (zeroEv,0,s.2) = tkR (takeE bs) := by
 unfold takeE; rw [h,if_pos h0]
theorem numS_b {bs : List UInt8} {lo hi : Int} {s : St} (_h0 : 0 ≤ lo) (h1 : 0 ≤ hi) : 0 ≤ (numS bs lo hi s).1 ∧ (numS bs lo hi s).1 ≤ hi := by
 unfold numS
 split
 · exact ⟨Int.le_refl _,h1⟩
 · split
   · exact ⟨Int.le_refl _,h1⟩
   · split
     · rename_i h; exact ⟨by omega,h.2⟩
     · exact ⟨Int.le_refl _,h1⟩
theorem octS_to {bs : List UInt8} {lo hi c : Int} {s s' : St} (h : octS bs lo hi s = (c,s')) (hu : s.1 ≤ bs.length) : s'.1 ≤ bs.length ∧ (0 ≤ c ∧ c ≤ 255) := by
 have h1 := octS_le (lo := lo) (hi := hi) hu
 have h2 := octS_b (bs := bs) (lo := lo) (hi := hi) (s := s)
 rw [h] at h1 h2
 exact ⟨h1,h2⟩
theorem numS_to {bs : List UInt8} {lo hi c : Int} {s s' : St} (h : numS bs lo hi s = (c,s')) (hu : s.1 ≤ bs.length) (h0 : 0 ≤ lo) (h1 : 0 ≤ hi) : s'.1 ≤ bs.length ∧ (0 ≤ c ∧ c ≤ hi) := by
 have h3 := numS_le (lo := lo) (hi := hi) hu
 have h2 := numS_b (bs := bs) (lo := lo) (hi := hi) (s := s) h0 h1
 rw [h] at h3 h2
 exact ⟨h3,h2⟩
theorem wordS_to {bs : List UInt8} {sz : Int} {may : ByteArray → Int} {c : ByteArray} {s s' : St} (h : wordS bs sz may s = (c,s')) (hu : s.1 ≤ bs.length) : s'.1 ≤ bs.length := by
 have h1 := wordS_le (sz := sz) (may := may) hu
 rw [h] at h1
 exact h1
set_option maxHeartbeats 8000000 in
set_option maxRecDepth 100000 in
theorem take_spec (bs : List UInt8) (hl : bs.length ≤ 1000000000) : ASpec Try.prog 78 [.sl 1 bs.length true (bytesF bs)] (.tup [(takeE bs).1.av, .v (.int .i64 ((takeE bs).2.1 : Int)), .v (.int .i64 (takeE bs).2.2)]) [] := by
 obtain ⟨⟨k,s1⟩,e1⟩ : ∃ p,octS bs 1 5 (0,0) = p := ⟨_,rfl⟩
 obtain ⟨q1,g1⟩ := octS_to e1 (Nat.zero_le _)
 obtain ⟨⟨R,s2⟩,e2⟩ : ∃ p,octS bs 0 4 s1 = p := ⟨_,rfl⟩
 have hR0 := octS_range (bs := bs) (lo := 0) (hi := 4) (s := s1)
 rw [e2] at hR0
 obtain ⟨q2,g2⟩ := octS_to e2 q1
 obtain ⟨⟨N,s3⟩,e3⟩ : ∃ p,numS bs 1 1048576 s2 = p := ⟨_,rfl⟩
 obtain ⟨q3,g3⟩ := numS_to e3 q2 (by omega) (by omega)
 rcases (show R = 0 ∨ R = 1 ∨ R = 2 ∨ R = 3 ∨ R = 4 by simp only at hR0; omega) with rfl | rfl | rfl | rfl | rfl
 · obtain ⟨⟨c1,t2⟩,f1⟩ : ∃ p,numS bs 0 1048576 s3 = p := ⟨_,rfl⟩
   obtain ⟨p1,_⟩ := numS_to f1 q3 (by omega) (by omega)
   obtain ⟨⟨c2,t3⟩,f2⟩ : ∃ p,numS bs 0 1048576 t2 = p := ⟨_,rfl⟩
   obtain ⟨p2,_⟩ := numS_to f2 p1 (by omega) (by omega)
   obtain ⟨⟨c3,t4⟩,f3⟩ : ∃ p,numS bs 0 1048576 t3 = p := ⟨_,rfl⟩
   obtain ⟨p3,_⟩ := numS_to f3 p2 (by omega) (by omega)
   obtain ⟨⟨c4,t5⟩,f4⟩ : ∃ p,numS bs 0 1048576 t4 = p := ⟨_,rfl⟩
   obtain ⟨p4,_⟩ := numS_to f4 p3 (by omega) (by omega)
   obtain ⟨⟨H,s5⟩,e5⟩ : ∃ p,numS bs 1 16777216 t5 = p := ⟨_,rfl⟩
   obtain ⟨q5,g5⟩ := numS_to e5 p4 (by omega) (by omega)
   obtain ⟨⟨ks,s6⟩,e6⟩ : ∃ p,octS bs 1 8 s5 = p := ⟨_,rfl⟩
   obtain ⟨q6,g6⟩ := octS_to e6 q5
   obtain ⟨⟨key,s7⟩,e7⟩ : ∃ p,wordS bs ks keyE s6 = p := ⟨_,rfl⟩
   have q7 := wordS_to e7 q6
   obtain ⟨⟨l,s8⟩,e8⟩ : ∃ p,octS bs 0 1 s7 = p := ⟨_,rfl⟩
   obtain ⟨q8,g8⟩ := octS_to e8 q7
   obtain ⟨⟨vs,s9⟩,e9⟩ : ∃ p,octS bs 1 12 s8 = p := ⟨_,rfl⟩
   obtain ⟨q9,g9⟩ := octS_to e9 q8
   obtain ⟨⟨v,s10⟩,e10⟩ : ∃ p,wordS bs vs valueE s9 = p := ⟨_,rfl⟩
   have hF : fieldS bs (0,0) = if isLong k then (⟨0,N,⟨N - 1,c1,c2,c3,c4⟩,H,k,key,l,v⟩,s10) else (⟨0,N,⟨N - 1,c1,c2,c3,c4⟩,H,k,key,0,⟨#[]⟩⟩,s7) := by
    simp [fieldS,clockS,clkAt,skipS,Clk.setN,Clk.put,e1,e2,e3,f1,f2,f3,f4,e5,e6,e7,e8,e9,e10]
   have hL : isLong k = true → fieldS bs (0,0) = (⟨0,N,⟨N - 1,c1,c2,c3,c4⟩,H,k,key,l,v⟩,s10) := fun h => hF.trans (if_pos h)
   have hS : isLong k = false → fieldS bs (0,0) = (⟨0,N,⟨N - 1,c1,c2,c3,c4⟩,H,k,key,0,⟨#[]⟩⟩,s7) := fun h => hF.trans (if_neg (by rw [h]; exact Bool.false_ne_true))
   clear hF
   refine aspec_of lay_ok 65791 Try.func78 rfl rfl rfl ?_
   repeat' ((conv => whnf); first | refine K1.a ?_ | refine K1.b ?_ | refine K1.c ?_ | refine K1.d ?_ | refine K1.e ?_ | refine K1.f ?_ | refine ACall.chgR 3 [(0,_),(1,_),(2,_)] (octet_e bs _ _ _ _ _ e1 hl) rfl ⟨rfl,rfl,rfl,trivial⟩ rfl rfl ?_ | refine ACall.chgR 3 [(0,_),(1,_),(2,_)] (octet_e bs _ _ _ _ _ e2 hl) rfl ⟨rfl,rfl,rfl,trivial⟩ rfl rfl ?_ | refine ACall.chgR 3 [(0,_),(1,_),(2,_)] (number_e bs _ _ _ _ _ e3 (by assumption) hl (by omega) (by omega) (by omega)) rfl ⟨rfl,rfl,rfl,trivial⟩ rfl rfl ?_ | refine ACall.chgR 3 [(0,_),(1,_),(2,_)] (number_e bs _ _ _ _ _ f1 (by assumption) hl (by omega) (by omega) (by omega)) rfl ⟨rfl,rfl,rfl,trivial⟩ rfl rfl ?_ | refine ACall.chgR 3 [(0,_),(1,_),(2,_)] (number_e bs _ _ _ _ _ f2 (by assumption) hl (by omega) (by omega) (by omega)) rfl ⟨rfl,rfl,rfl,trivial⟩ rfl rfl ?_ | refine ACall.chgR 3 [(0,_),(1,_),(2,_)] (number_e bs _ _ _ _ _ f3 (by assumption) hl (by omega) (by omega) (by omega)) rfl ⟨rfl,rfl,rfl,trivial⟩ rfl rfl ?_ | refine ACall.chgR 3 [(0,_),(1,_),(2,_)] (number_e bs _ _ _ _ _ f4 (by assumption) hl (by omega) (by omega) (by omega)) rfl ⟨rfl,rfl,rfl,trivial⟩ rfl rfl ?_ | refine ACall.chgR 3 [(0,_),(1,_),(2,_)] (number_e bs _ _ _ _ _ e5 (by assumption) hl (by omega) (by omega) (by omega)) rfl ⟨rfl,rfl,rfl,trivial⟩ rfl rfl ?_ | refine ACall.chgR 3 [(0,_),(1,_),(2,_)] (octet_e bs _ _ _ _ _ e6 hl) rfl ⟨rfl,rfl,rfl,trivial⟩ rfl rfl ?_ | refine ACall.chgR 3 [(0,_),(1,_),(2,_)] (wordsK_e bs _ _ _ _ e7 (by assumption) hl (by assumption)) rfl ⟨rfl,rfl,rfl,trivial⟩ rfl rfl ?_ | refine ACall.chgR 3 [(0,_),(1,_),(2,_)] (octet_e bs _ _ _ _ _ e8 hl) rfl ⟨rfl,rfl,rfl,trivial⟩ rfl rfl ?_ | refine ACall.chgR 3 [(0,_),(1,_),(2,_)] (octet_e bs _ _ _ _ _ e9 hl) rfl ⟨rfl,rfl,rfl,trivial⟩ rfl rfl ?_ | refine ACall.chgR 3 [(0,_),(1,_),(2,_)] (wordsV_e bs _ _ _ _ e10 (by assumption) hl (by assumption)) rfl ⟨rfl,rfl,rfl,trivial⟩ rfl rfl ?_ | refine ACall.plain _ _ (isLong_spec _) (SubL.cons (.eq _) .nil) rfl ?_ | refine ALoop.rounds 6 ?_ | refine ACall.into 70368748569031 _ _ Try.func98 rfl rfl rfl ?_ | refine Spl.mk (fun _ => ?_) (fun _ => ?_) | refine SNil.mk (fun _ => ?_) ?_ | refine K1.g ?_ | refine ASl.frz ?_ | refine Wr.b64 ?_ | refine Wr.bu64 ?_ | refine Wr.bu32 ?_ | refine Wr.bu8 ?_ | refine K1.u8 ?_ | refine K1.u64 ?_ | refine K1.u32 ?_ | refine K1.h ?_ | refine K1.i ?_ | refine K1.q ?_ | refine ADraw.sched (id := 6) lay_ok (awp_snd lay_ok _) [(0,none),(1,none),(2,some []),(3,some []),(4,some [1])] [(2,[]),(3,[]),(4,[1])] follows_ok (by kernel_rfl) ?_ | refine ADraw.sched (id := 7) lay_ok (awp_snd lay_ok _) [(0,none),(1,none),(2,some [0]),(3,some [0,1]),(4,some [0,1])] [(2,[0]),(3,[0,1]),(4,[0,1])] follows_ok (by kernel_rfl) ?_ | refine K1.j ?_ | refine K1.k ?_ | refine BSpl.dec (fun _ => ?_) (fun _ => ?_) | refine K1.l ?_ | refine K1.n ?_ | refine BSpl.mk (fun _ => ?_) (fun _ => ?_))
   all_goals refine ARet.hdI ?_
   all_goals (conv => whnf)
   all_goals refine AEqI.mk (AEq.of ?_)
   all_goals first | exact takeE_ok (hL ‹_›) ‹_› | exact takeE_no (hL ‹_›) ‹_› | exact takeE_ok (hS ‹_›) ‹_› | exact takeE_no (hS ‹_›) ‹_›
 · obtain ⟨⟨c0,t1⟩,f0⟩ : ∃ p,numS bs 0 1048576 s3 = p := ⟨_,rfl⟩
   obtain ⟨p0,_⟩ := numS_to f0 q3 (by omega) (by omega)
   obtain ⟨⟨c2,t3⟩,f2⟩ : ∃ p,numS bs 0 1048576 t1 = p := ⟨_,rfl⟩
   obtain ⟨p2,_⟩ := numS_to f2 p0 (by omega) (by omega)
   obtain ⟨⟨c3,t4⟩,f3⟩ : ∃ p,numS bs 0 1048576 t3 = p := ⟨_,rfl⟩
   obtain ⟨p3,_⟩ := numS_to f3 p2 (by omega) (by omega)
   obtain ⟨⟨c4,t5⟩,f4⟩ : ∃ p,numS bs 0 1048576 t4 = p := ⟨_,rfl⟩
   obtain ⟨p4,_⟩ := numS_to f4 p3 (by omega) (by omega)
   obtain ⟨⟨H,s5⟩,e5⟩ : ∃ p,numS bs 1 16777216 t5 = p := ⟨_,rfl⟩
   obtain ⟨q5,g5⟩ := numS_to e5 p4 (by omega) (by omega)
   obtain ⟨⟨ks,s6⟩,e6⟩ : ∃ p,octS bs 1 8 s5 = p := ⟨_,rfl⟩
   obtain ⟨q6,g6⟩ := octS_to e6 q5
   obtain ⟨⟨key,s7⟩,e7⟩ : ∃ p,wordS bs ks keyE s6 = p := ⟨_,rfl⟩
   have q7 := wordS_to e7 q6
   obtain ⟨⟨l,s8⟩,e8⟩ : ∃ p,octS bs 0 1 s7 = p := ⟨_,rfl⟩
   obtain ⟨q8,g8⟩ := octS_to e8 q7
   obtain ⟨⟨vs,s9⟩,e9⟩ : ∃ p,octS bs 1 12 s8 = p := ⟨_,rfl⟩
   obtain ⟨q9,g9⟩ := octS_to e9 q8
   obtain ⟨⟨v,s10⟩,e10⟩ : ∃ p,wordS bs vs valueE s9 = p := ⟨_,rfl⟩
   have hF : fieldS bs (0,0) = if isLong k then (⟨1,N,⟨c0,N - 1,c2,c3,c4⟩,H,k,key,l,v⟩,s10) else (⟨1,N,⟨c0,N - 1,c2,c3,c4⟩,H,k,key,0,⟨#[]⟩⟩,s7) := by
    simp [fieldS,clockS,clkAt,skipS,Clk.setN,Clk.put,e1,e2,e3,f0,f2,f3,f4,e5,e6,e7,e8,e9,e10]
   have hL : isLong k = true → fieldS bs (0,0) = (⟨1,N,⟨c0,N - 1,c2,c3,c4⟩,H,k,key,l,v⟩,s10) := fun h => hF.trans (if_pos h)
   have hS : isLong k = false → fieldS bs (0,0) = (⟨1,N,⟨c0,N - 1,c2,c3,c4⟩,H,k,key,0,⟨#[]⟩⟩,s7) := fun h => hF.trans (if_neg (by rw [h]; exact Bool.false_ne_true))
   clear hF
   refine aspec_of lay_ok 65791 Try.func78 rfl rfl rfl ?_
   repeat' ((conv => whnf); first | refine K1.a ?_ | refine K1.b ?_ | refine K1.c ?_ | refine K1.d ?_ | refine K1.e ?_ | refine K1.f ?_ | refine ACall.chgR 3 [(0,_),(1,_),(2,_)] (octet_e bs _ _ _ _ _ e1 hl) rfl ⟨rfl,rfl,rfl,trivial⟩ rfl rfl ?_ | refine ACall.chgR 3 [(0,_),(1,_),(2,_)] (octet_e bs _ _ _ _ _ e2 hl) rfl ⟨rfl,rfl,rfl,trivial⟩ rfl rfl ?_ | refine ACall.chgR 3 [(0,_),(1,_),(2,_)] (number_e bs _ _ _ _ _ e3 (by assumption) hl (by omega) (by omega) (by omega)) rfl ⟨rfl,rfl,rfl,trivial⟩ rfl rfl ?_ | refine ACall.chgR 3 [(0,_),(1,_),(2,_)] (number_e bs _ _ _ _ _ f0 (by assumption) hl (by omega) (by omega) (by omega)) rfl ⟨rfl,rfl,rfl,trivial⟩ rfl rfl ?_ | refine ACall.chgR 3 [(0,_),(1,_),(2,_)] (number_e bs _ _ _ _ _ f2 (by assumption) hl (by omega) (by omega) (by omega)) rfl ⟨rfl,rfl,rfl,trivial⟩ rfl rfl ?_ | refine ACall.chgR 3 [(0,_),(1,_),(2,_)] (number_e bs _ _ _ _ _ f3 (by assumption) hl (by omega) (by omega) (by omega)) rfl ⟨rfl,rfl,rfl,trivial⟩ rfl rfl ?_ | refine ACall.chgR 3 [(0,_),(1,_),(2,_)] (number_e bs _ _ _ _ _ f4 (by assumption) hl (by omega) (by omega) (by omega)) rfl ⟨rfl,rfl,rfl,trivial⟩ rfl rfl ?_ | refine ACall.chgR 3 [(0,_),(1,_),(2,_)] (number_e bs _ _ _ _ _ e5 (by assumption) hl (by omega) (by omega) (by omega)) rfl ⟨rfl,rfl,rfl,trivial⟩ rfl rfl ?_ | refine ACall.chgR 3 [(0,_),(1,_),(2,_)] (octet_e bs _ _ _ _ _ e6 hl) rfl ⟨rfl,rfl,rfl,trivial⟩ rfl rfl ?_ | refine ACall.chgR 3 [(0,_),(1,_),(2,_)] (wordsK_e bs _ _ _ _ e7 (by assumption) hl (by assumption)) rfl ⟨rfl,rfl,rfl,trivial⟩ rfl rfl ?_ | refine ACall.chgR 3 [(0,_),(1,_),(2,_)] (octet_e bs _ _ _ _ _ e8 hl) rfl ⟨rfl,rfl,rfl,trivial⟩ rfl rfl ?_ | refine ACall.chgR 3 [(0,_),(1,_),(2,_)] (octet_e bs _ _ _ _ _ e9 hl) rfl ⟨rfl,rfl,rfl,trivial⟩ rfl rfl ?_ | refine ACall.chgR 3 [(0,_),(1,_),(2,_)] (wordsV_e bs _ _ _ _ e10 (by assumption) hl (by assumption)) rfl ⟨rfl,rfl,rfl,trivial⟩ rfl rfl ?_ | refine ACall.plain _ _ (isLong_spec _) (SubL.cons (.eq _) .nil) rfl ?_ | refine ALoop.rounds 6 ?_ | refine ACall.into 70368748569031 _ _ Try.func98 rfl rfl rfl ?_ | refine Spl.mk (fun _ => ?_) (fun _ => ?_) | refine SNil.mk (fun _ => ?_) ?_ | refine K1.g ?_ | refine ASl.frz ?_ | refine Wr.b64 ?_ | refine Wr.bu64 ?_ | refine Wr.bu32 ?_ | refine Wr.bu8 ?_ | refine K1.u8 ?_ | refine K1.u64 ?_ | refine K1.u32 ?_ | refine K1.h ?_ | refine K1.i ?_ | refine K1.q ?_ | refine ADraw.sched (id := 6) lay_ok (awp_snd lay_ok _) [(0,none),(1,none),(2,some []),(3,some []),(4,some [1])] [(2,[]),(3,[]),(4,[1])] follows_ok (by kernel_rfl) ?_ | refine ADraw.sched (id := 7) lay_ok (awp_snd lay_ok _) [(0,none),(1,none),(2,some [0]),(3,some [0,1]),(4,some [0,1])] [(2,[0]),(3,[0,1]),(4,[0,1])] follows_ok (by kernel_rfl) ?_ | refine K1.j ?_ | refine K1.k ?_ | refine BSpl.dec (fun _ => ?_) (fun _ => ?_) | refine K1.l ?_ | refine K1.n ?_ | refine BSpl.mk (fun _ => ?_) (fun _ => ?_))
   all_goals refine ARet.hdI ?_
   all_goals (conv => whnf)
   all_goals refine AEqI.mk (AEq.of ?_)
   all_goals first | exact takeE_ok (hL ‹_›) ‹_› | exact takeE_no (hL ‹_›) ‹_› | exact takeE_ok (hS ‹_›) ‹_› | exact takeE_no (hS ‹_›) ‹_›
 · obtain ⟨⟨c0,t1⟩,f0⟩ : ∃ p,numS bs 0 1048576 s3 = p := ⟨_,rfl⟩
   obtain ⟨p0,_⟩ := numS_to f0 q3 (by omega) (by omega)
   obtain ⟨⟨c1,t2⟩,f1⟩ : ∃ p,numS bs 0 1048576 t1 = p := ⟨_,rfl⟩
   obtain ⟨p1,_⟩ := numS_to f1 p0 (by omega) (by omega)
   obtain ⟨⟨c3,t4⟩,f3⟩ : ∃ p,numS bs 0 1048576 t2 = p := ⟨_,rfl⟩
   obtain ⟨p3,_⟩ := numS_to f3 p1 (by omega) (by omega)
   obtain ⟨⟨c4,t5⟩,f4⟩ : ∃ p,numS bs 0 1048576 t4 = p := ⟨_,rfl⟩
   obtain ⟨p4,_⟩ := numS_to f4 p3 (by omega) (by omega)
   obtain ⟨⟨H,s5⟩,e5⟩ : ∃ p,numS bs 1 16777216 t5 = p := ⟨_,rfl⟩
   obtain ⟨q5,g5⟩ := numS_to e5 p4 (by omega) (by omega)
   obtain ⟨⟨ks,s6⟩,e6⟩ : ∃ p,octS bs 1 8 s5 = p := ⟨_,rfl⟩
   obtain ⟨q6,g6⟩ := octS_to e6 q5
   obtain ⟨⟨key,s7⟩,e7⟩ : ∃ p,wordS bs ks keyE s6 = p := ⟨_,rfl⟩
   have q7 := wordS_to e7 q6
   obtain ⟨⟨l,s8⟩,e8⟩ : ∃ p,octS bs 0 1 s7 = p := ⟨_,rfl⟩
   obtain ⟨q8,g8⟩ := octS_to e8 q7
   obtain ⟨⟨vs,s9⟩,e9⟩ : ∃ p,octS bs 1 12 s8 = p := ⟨_,rfl⟩
   obtain ⟨q9,g9⟩ := octS_to e9 q8
   obtain ⟨⟨v,s10⟩,e10⟩ : ∃ p,wordS bs vs valueE s9 = p := ⟨_,rfl⟩
   have hF : fieldS bs (0,0) = if isLong k then (⟨2,N,⟨c0,c1,N - 1,c3,c4⟩,H,k,key,l,v⟩,s10) else (⟨2,N,⟨c0,c1,N - 1,c3,c4⟩,H,k,key,0,⟨#[]⟩⟩,s7) := by
    simp [fieldS,clockS,clkAt,skipS,Clk.setN,Clk.put,e1,e2,e3,f0,f1,f3,f4,e5,e6,e7,e8,e9,e10]
   have hL : isLong k = true → fieldS bs (0,0) = (⟨2,N,⟨c0,c1,N - 1,c3,c4⟩,H,k,key,l,v⟩,s10) := fun h => hF.trans (if_pos h)
   have hS : isLong k = false → fieldS bs (0,0) = (⟨2,N,⟨c0,c1,N - 1,c3,c4⟩,H,k,key,0,⟨#[]⟩⟩,s7) := fun h => hF.trans (if_neg (by rw [h]; exact Bool.false_ne_true))
   clear hF
   refine aspec_of lay_ok 65791 Try.func78 rfl rfl rfl ?_
   repeat' ((conv => whnf); first | refine K1.a ?_ | refine K1.b ?_ | refine K1.c ?_ | refine K1.d ?_ | refine K1.e ?_ | refine K1.f ?_ | refine ACall.chgR 3 [(0,_),(1,_),(2,_)] (octet_e bs _ _ _ _ _ e1 hl) rfl ⟨rfl,rfl,rfl,trivial⟩ rfl rfl ?_ | refine ACall.chgR 3 [(0,_),(1,_),(2,_)] (octet_e bs _ _ _ _ _ e2 hl) rfl ⟨rfl,rfl,rfl,trivial⟩ rfl rfl ?_ | refine ACall.chgR 3 [(0,_),(1,_),(2,_)] (number_e bs _ _ _ _ _ e3 (by assumption) hl (by omega) (by omega) (by omega)) rfl ⟨rfl,rfl,rfl,trivial⟩ rfl rfl ?_ | refine ACall.chgR 3 [(0,_),(1,_),(2,_)] (number_e bs _ _ _ _ _ f0 (by assumption) hl (by omega) (by omega) (by omega)) rfl ⟨rfl,rfl,rfl,trivial⟩ rfl rfl ?_ | refine ACall.chgR 3 [(0,_),(1,_),(2,_)] (number_e bs _ _ _ _ _ f1 (by assumption) hl (by omega) (by omega) (by omega)) rfl ⟨rfl,rfl,rfl,trivial⟩ rfl rfl ?_ | refine ACall.chgR 3 [(0,_),(1,_),(2,_)] (number_e bs _ _ _ _ _ f3 (by assumption) hl (by omega) (by omega) (by omega)) rfl ⟨rfl,rfl,rfl,trivial⟩ rfl rfl ?_ | refine ACall.chgR 3 [(0,_),(1,_),(2,_)] (number_e bs _ _ _ _ _ f4 (by assumption) hl (by omega) (by omega) (by omega)) rfl ⟨rfl,rfl,rfl,trivial⟩ rfl rfl ?_ | refine ACall.chgR 3 [(0,_),(1,_),(2,_)] (number_e bs _ _ _ _ _ e5 (by assumption) hl (by omega) (by omega) (by omega)) rfl ⟨rfl,rfl,rfl,trivial⟩ rfl rfl ?_ | refine ACall.chgR 3 [(0,_),(1,_),(2,_)] (octet_e bs _ _ _ _ _ e6 hl) rfl ⟨rfl,rfl,rfl,trivial⟩ rfl rfl ?_ | refine ACall.chgR 3 [(0,_),(1,_),(2,_)] (wordsK_e bs _ _ _ _ e7 (by assumption) hl (by assumption)) rfl ⟨rfl,rfl,rfl,trivial⟩ rfl rfl ?_ | refine ACall.chgR 3 [(0,_),(1,_),(2,_)] (octet_e bs _ _ _ _ _ e8 hl) rfl ⟨rfl,rfl,rfl,trivial⟩ rfl rfl ?_ | refine ACall.chgR 3 [(0,_),(1,_),(2,_)] (octet_e bs _ _ _ _ _ e9 hl) rfl ⟨rfl,rfl,rfl,trivial⟩ rfl rfl ?_ | refine ACall.chgR 3 [(0,_),(1,_),(2,_)] (wordsV_e bs _ _ _ _ e10 (by assumption) hl (by assumption)) rfl ⟨rfl,rfl,rfl,trivial⟩ rfl rfl ?_ | refine ACall.plain _ _ (isLong_spec _) (SubL.cons (.eq _) .nil) rfl ?_ | refine ALoop.rounds 6 ?_ | refine ACall.into 70368748569031 _ _ Try.func98 rfl rfl rfl ?_ | refine Spl.mk (fun _ => ?_) (fun _ => ?_) | refine SNil.mk (fun _ => ?_) ?_ | refine K1.g ?_ | refine ASl.frz ?_ | refine Wr.b64 ?_ | refine Wr.bu64 ?_ | refine Wr.bu32 ?_ | refine Wr.bu8 ?_ | refine K1.u8 ?_ | refine K1.u64 ?_ | refine K1.u32 ?_ | refine K1.h ?_ | refine K1.i ?_ | refine K1.q ?_ | refine ADraw.sched (id := 6) lay_ok (awp_snd lay_ok _) [(0,none),(1,none),(2,some []),(3,some []),(4,some [1])] [(2,[]),(3,[]),(4,[1])] follows_ok (by kernel_rfl) ?_ | refine ADraw.sched (id := 7) lay_ok (awp_snd lay_ok _) [(0,none),(1,none),(2,some [0]),(3,some [0,1]),(4,some [0,1])] [(2,[0]),(3,[0,1]),(4,[0,1])] follows_ok (by kernel_rfl) ?_ | refine K1.j ?_ | refine K1.k ?_ | refine BSpl.dec (fun _ => ?_) (fun _ => ?_) | refine K1.l ?_ | refine K1.n ?_ | refine BSpl.mk (fun _ => ?_) (fun _ => ?_))
   all_goals refine ARet.hdI ?_
   all_goals (conv => whnf)
   all_goals refine AEqI.mk (AEq.of ?_)
   all_goals first | exact takeE_ok (hL ‹_›) ‹_› | exact takeE_no (hL ‹_›) ‹_› | exact takeE_ok (hS ‹_›) ‹_› | exact takeE_no (hS ‹_›) ‹_›
 · obtain ⟨⟨c0,t1⟩,f0⟩ : ∃ p,numS bs 0 1048576 s3 = p := ⟨_,rfl⟩
   obtain ⟨p0,_⟩ := numS_to f0 q3 (by omega) (by omega)
   obtain ⟨⟨c1,t2⟩,f1⟩ : ∃ p,numS bs 0 1048576 t1 = p := ⟨_,rfl⟩
   obtain ⟨p1,_⟩ := numS_to f1 p0 (by omega) (by omega)
   obtain ⟨⟨c2,t3⟩,f2⟩ : ∃ p,numS bs 0 1048576 t2 = p := ⟨_,rfl⟩
   obtain ⟨p2,_⟩ := numS_to f2 p1 (by omega) (by omega)
   obtain ⟨⟨c4,t5⟩,f4⟩ : ∃ p,numS bs 0 1048576 t3 = p := ⟨_,rfl⟩
   obtain ⟨p4,_⟩ := numS_to f4 p2 (by omega) (by omega)
   obtain ⟨⟨H,s5⟩,e5⟩ : ∃ p,numS bs 1 16777216 t5 = p := ⟨_,rfl⟩
   obtain ⟨q5,g5⟩ := numS_to e5 p4 (by omega) (by omega)
   obtain ⟨⟨ks,s6⟩,e6⟩ : ∃ p,octS bs 1 8 s5 = p := ⟨_,rfl⟩
   obtain ⟨q6,g6⟩ := octS_to e6 q5
   obtain ⟨⟨key,s7⟩,e7⟩ : ∃ p,wordS bs ks keyE s6 = p := ⟨_,rfl⟩
   have q7 := wordS_to e7 q6
   obtain ⟨⟨l,s8⟩,e8⟩ : ∃ p,octS bs 0 1 s7 = p := ⟨_,rfl⟩
   obtain ⟨q8,g8⟩ := octS_to e8 q7
   obtain ⟨⟨vs,s9⟩,e9⟩ : ∃ p,octS bs 1 12 s8 = p := ⟨_,rfl⟩
   obtain ⟨q9,g9⟩ := octS_to e9 q8
   obtain ⟨⟨v,s10⟩,e10⟩ : ∃ p,wordS bs vs valueE s9 = p := ⟨_,rfl⟩
   have hF : fieldS bs (0,0) = if isLong k then (⟨3,N,⟨c0,c1,c2,N - 1,c4⟩,H,k,key,l,v⟩,s10) else (⟨3,N,⟨c0,c1,c2,N - 1,c4⟩,H,k,key,0,⟨#[]⟩⟩,s7) := by
    simp [fieldS,clockS,clkAt,skipS,Clk.setN,Clk.put,e1,e2,e3,f0,f1,f2,f4,e5,e6,e7,e8,e9,e10]
   have hL : isLong k = true → fieldS bs (0,0) = (⟨3,N,⟨c0,c1,c2,N - 1,c4⟩,H,k,key,l,v⟩,s10) := fun h => hF.trans (if_pos h)
   have hS : isLong k = false → fieldS bs (0,0) = (⟨3,N,⟨c0,c1,c2,N - 1,c4⟩,H,k,key,0,⟨#[]⟩⟩,s7) := fun h => hF.trans (if_neg (by rw [h]; exact Bool.false_ne_true))
   clear hF
   refine aspec_of lay_ok 65791 Try.func78 rfl rfl rfl ?_
   repeat' ((conv => whnf); first | refine K1.a ?_ | refine K1.b ?_ | refine K1.c ?_ | refine K1.d ?_ | refine K1.e ?_ | refine K1.f ?_ | refine ACall.chgR 3 [(0,_),(1,_),(2,_)] (octet_e bs _ _ _ _ _ e1 hl) rfl ⟨rfl,rfl,rfl,trivial⟩ rfl rfl ?_ | refine ACall.chgR 3 [(0,_),(1,_),(2,_)] (octet_e bs _ _ _ _ _ e2 hl) rfl ⟨rfl,rfl,rfl,trivial⟩ rfl rfl ?_ | refine ACall.chgR 3 [(0,_),(1,_),(2,_)] (number_e bs _ _ _ _ _ e3 (by assumption) hl (by omega) (by omega) (by omega)) rfl ⟨rfl,rfl,rfl,trivial⟩ rfl rfl ?_ | refine ACall.chgR 3 [(0,_),(1,_),(2,_)] (number_e bs _ _ _ _ _ f0 (by assumption) hl (by omega) (by omega) (by omega)) rfl ⟨rfl,rfl,rfl,trivial⟩ rfl rfl ?_ | refine ACall.chgR 3 [(0,_),(1,_),(2,_)] (number_e bs _ _ _ _ _ f1 (by assumption) hl (by omega) (by omega) (by omega)) rfl ⟨rfl,rfl,rfl,trivial⟩ rfl rfl ?_ | refine ACall.chgR 3 [(0,_),(1,_),(2,_)] (number_e bs _ _ _ _ _ f2 (by assumption) hl (by omega) (by omega) (by omega)) rfl ⟨rfl,rfl,rfl,trivial⟩ rfl rfl ?_ | refine ACall.chgR 3 [(0,_),(1,_),(2,_)] (number_e bs _ _ _ _ _ f4 (by assumption) hl (by omega) (by omega) (by omega)) rfl ⟨rfl,rfl,rfl,trivial⟩ rfl rfl ?_ | refine ACall.chgR 3 [(0,_),(1,_),(2,_)] (number_e bs _ _ _ _ _ e5 (by assumption) hl (by omega) (by omega) (by omega)) rfl ⟨rfl,rfl,rfl,trivial⟩ rfl rfl ?_ | refine ACall.chgR 3 [(0,_),(1,_),(2,_)] (octet_e bs _ _ _ _ _ e6 hl) rfl ⟨rfl,rfl,rfl,trivial⟩ rfl rfl ?_ | refine ACall.chgR 3 [(0,_),(1,_),(2,_)] (wordsK_e bs _ _ _ _ e7 (by assumption) hl (by assumption)) rfl ⟨rfl,rfl,rfl,trivial⟩ rfl rfl ?_ | refine ACall.chgR 3 [(0,_),(1,_),(2,_)] (octet_e bs _ _ _ _ _ e8 hl) rfl ⟨rfl,rfl,rfl,trivial⟩ rfl rfl ?_ | refine ACall.chgR 3 [(0,_),(1,_),(2,_)] (octet_e bs _ _ _ _ _ e9 hl) rfl ⟨rfl,rfl,rfl,trivial⟩ rfl rfl ?_ | refine ACall.chgR 3 [(0,_),(1,_),(2,_)] (wordsV_e bs _ _ _ _ e10 (by assumption) hl (by assumption)) rfl ⟨rfl,rfl,rfl,trivial⟩ rfl rfl ?_ | refine ACall.plain _ _ (isLong_spec _) (SubL.cons (.eq _) .nil) rfl ?_ | refine ALoop.rounds 6 ?_ | refine ACall.into 70368748569031 _ _ Try.func98 rfl rfl rfl ?_ | refine Spl.mk (fun _ => ?_) (fun _ => ?_) | refine SNil.mk (fun _ => ?_) ?_ | refine K1.g ?_ | refine ASl.frz ?_ | refine Wr.b64 ?_ | refine Wr.bu64 ?_ | refine Wr.bu32 ?_ | refine Wr.bu8 ?_ | refine K1.u8 ?_ | refine K1.u64 ?_ | refine K1.u32 ?_ | refine K1.h ?_ | refine K1.i ?_ | refine K1.q ?_ | refine ADraw.sched (id := 6) lay_ok (awp_snd lay_ok _) [(0,none),(1,none),(2,some []),(3,some []),(4,some [1])] [(2,[]),(3,[]),(4,[1])] follows_ok (by kernel_rfl) ?_ | refine ADraw.sched (id := 7) lay_ok (awp_snd lay_ok _) [(0,none),(1,none),(2,some [0]),(3,some [0,1]),(4,some [0,1])] [(2,[0]),(3,[0,1]),(4,[0,1])] follows_ok (by kernel_rfl) ?_ | refine K1.j ?_ | refine K1.k ?_ | refine BSpl.dec (fun _ => ?_) (fun _ => ?_) | refine K1.l ?_ | refine K1.n ?_ | refine BSpl.mk (fun _ => ?_) (fun _ => ?_))
   all_goals refine ARet.hdI ?_
   all_goals (conv => whnf)
   all_goals refine AEqI.mk (AEq.of ?_)
   all_goals first | exact takeE_ok (hL ‹_›) ‹_› | exact takeE_no (hL ‹_›) ‹_› | exact takeE_ok (hS ‹_›) ‹_› | exact takeE_no (hS ‹_›) ‹_›
 · obtain ⟨⟨c0,t1⟩,f0⟩ : ∃ p,numS bs 0 1048576 s3 = p := ⟨_,rfl⟩
   obtain ⟨p0,_⟩ := numS_to f0 q3 (by omega) (by omega)
   obtain ⟨⟨c1,t2⟩,f1⟩ : ∃ p,numS bs 0 1048576 t1 = p := ⟨_,rfl⟩
   obtain ⟨p1,_⟩ := numS_to f1 p0 (by omega) (by omega)
   obtain ⟨⟨c2,t3⟩,f2⟩ : ∃ p,numS bs 0 1048576 t2 = p := ⟨_,rfl⟩
   obtain ⟨p2,_⟩ := numS_to f2 p1 (by omega) (by omega)
   obtain ⟨⟨c3,t4⟩,f3⟩ : ∃ p,numS bs 0 1048576 t3 = p := ⟨_,rfl⟩
   obtain ⟨p3,_⟩ := numS_to f3 p2 (by omega) (by omega)
   obtain ⟨⟨H,s5⟩,e5⟩ : ∃ p,numS bs 1 16777216 t4 = p := ⟨_,rfl⟩
   obtain ⟨q5,g5⟩ := numS_to e5 p3 (by omega) (by omega)
   obtain ⟨⟨ks,s6⟩,e6⟩ : ∃ p,octS bs 1 8 s5 = p := ⟨_,rfl⟩
   obtain ⟨q6,g6⟩ := octS_to e6 q5
   obtain ⟨⟨key,s7⟩,e7⟩ : ∃ p,wordS bs ks keyE s6 = p := ⟨_,rfl⟩
   have q7 := wordS_to e7 q6
   obtain ⟨⟨l,s8⟩,e8⟩ : ∃ p,octS bs 0 1 s7 = p := ⟨_,rfl⟩
   obtain ⟨q8,g8⟩ := octS_to e8 q7
   obtain ⟨⟨vs,s9⟩,e9⟩ : ∃ p,octS bs 1 12 s8 = p := ⟨_,rfl⟩
   obtain ⟨q9,g9⟩ := octS_to e9 q8
   obtain ⟨⟨v,s10⟩,e10⟩ : ∃ p,wordS bs vs valueE s9 = p := ⟨_,rfl⟩
   have hF : fieldS bs (0,0) = if isLong k then (⟨4,N,⟨c0,c1,c2,c3,N - 1⟩,H,k,key,l,v⟩,s10) else (⟨4,N,⟨c0,c1,c2,c3,N - 1⟩,H,k,key,0,⟨#[]⟩⟩,s7) := by
    simp [fieldS,clockS,clkAt,skipS,Clk.setN,Clk.put,e1,e2,e3,f0,f1,f2,f3,e5,e6,e7,e8,e9,e10]
   have hL : isLong k = true → fieldS bs (0,0) = (⟨4,N,⟨c0,c1,c2,c3,N - 1⟩,H,k,key,l,v⟩,s10) := fun h => hF.trans (if_pos h)
   have hS : isLong k = false → fieldS bs (0,0) = (⟨4,N,⟨c0,c1,c2,c3,N - 1⟩,H,k,key,0,⟨#[]⟩⟩,s7) := fun h => hF.trans (if_neg (by rw [h]; exact Bool.false_ne_true))
   clear hF
   refine aspec_of lay_ok 65791 Try.func78 rfl rfl rfl ?_
   repeat' ((conv => whnf); first | refine K1.a ?_ | refine K1.b ?_ | refine K1.c ?_ | refine K1.d ?_ | refine K1.e ?_ | refine K1.f ?_ | refine ACall.chgR 3 [(0,_),(1,_),(2,_)] (octet_e bs _ _ _ _ _ e1 hl) rfl ⟨rfl,rfl,rfl,trivial⟩ rfl rfl ?_ | refine ACall.chgR 3 [(0,_),(1,_),(2,_)] (octet_e bs _ _ _ _ _ e2 hl) rfl ⟨rfl,rfl,rfl,trivial⟩ rfl rfl ?_ | refine ACall.chgR 3 [(0,_),(1,_),(2,_)] (number_e bs _ _ _ _ _ e3 (by assumption) hl (by omega) (by omega) (by omega)) rfl ⟨rfl,rfl,rfl,trivial⟩ rfl rfl ?_ | refine ACall.chgR 3 [(0,_),(1,_),(2,_)] (number_e bs _ _ _ _ _ f0 (by assumption) hl (by omega) (by omega) (by omega)) rfl ⟨rfl,rfl,rfl,trivial⟩ rfl rfl ?_ | refine ACall.chgR 3 [(0,_),(1,_),(2,_)] (number_e bs _ _ _ _ _ f1 (by assumption) hl (by omega) (by omega) (by omega)) rfl ⟨rfl,rfl,rfl,trivial⟩ rfl rfl ?_ | refine ACall.chgR 3 [(0,_),(1,_),(2,_)] (number_e bs _ _ _ _ _ f2 (by assumption) hl (by omega) (by omega) (by omega)) rfl ⟨rfl,rfl,rfl,trivial⟩ rfl rfl ?_ | refine ACall.chgR 3 [(0,_),(1,_),(2,_)] (number_e bs _ _ _ _ _ f3 (by assumption) hl (by omega) (by omega) (by omega)) rfl ⟨rfl,rfl,rfl,trivial⟩ rfl rfl ?_ | refine ACall.chgR 3 [(0,_),(1,_),(2,_)] (number_e bs _ _ _ _ _ e5 (by assumption) hl (by omega) (by omega) (by omega)) rfl ⟨rfl,rfl,rfl,trivial⟩ rfl rfl ?_ | refine ACall.chgR 3 [(0,_),(1,_),(2,_)] (octet_e bs _ _ _ _ _ e6 hl) rfl ⟨rfl,rfl,rfl,trivial⟩ rfl rfl ?_ | refine ACall.chgR 3 [(0,_),(1,_),(2,_)] (wordsK_e bs _ _ _ _ e7 (by assumption) hl (by assumption)) rfl ⟨rfl,rfl,rfl,trivial⟩ rfl rfl ?_ | refine ACall.chgR 3 [(0,_),(1,_),(2,_)] (octet_e bs _ _ _ _ _ e8 hl) rfl ⟨rfl,rfl,rfl,trivial⟩ rfl rfl ?_ | refine ACall.chgR 3 [(0,_),(1,_),(2,_)] (octet_e bs _ _ _ _ _ e9 hl) rfl ⟨rfl,rfl,rfl,trivial⟩ rfl rfl ?_ | refine ACall.chgR 3 [(0,_),(1,_),(2,_)] (wordsV_e bs _ _ _ _ e10 (by assumption) hl (by assumption)) rfl ⟨rfl,rfl,rfl,trivial⟩ rfl rfl ?_ | refine ACall.plain _ _ (isLong_spec _) (SubL.cons (.eq _) .nil) rfl ?_ | refine ALoop.rounds 6 ?_ | refine ACall.into 70368748569031 _ _ Try.func98 rfl rfl rfl ?_ | refine Spl.mk (fun _ => ?_) (fun _ => ?_) | refine SNil.mk (fun _ => ?_) ?_ | refine K1.g ?_ | refine ASl.frz ?_ | refine Wr.b64 ?_ | refine Wr.bu64 ?_ | refine Wr.bu32 ?_ | refine Wr.bu8 ?_ | refine K1.u8 ?_ | refine K1.u64 ?_ | refine K1.u32 ?_ | refine K1.h ?_ | refine K1.i ?_ | refine K1.q ?_ | refine ADraw.sched (id := 6) lay_ok (awp_snd lay_ok _) [(0,none),(1,none),(2,some []),(3,some []),(4,some [1])] [(2,[]),(3,[]),(4,[1])] follows_ok (by kernel_rfl) ?_ | refine ADraw.sched (id := 7) lay_ok (awp_snd lay_ok _) [(0,none),(1,none),(2,some [0]),(3,some [0,1]),(4,some [0,1])] [(2,[0]),(3,[0,1]),(4,[0,1])] follows_ok (by kernel_rfl) ?_ | refine K1.j ?_ | refine K1.k ?_ | refine BSpl.dec (fun _ => ?_) (fun _ => ?_) | refine K1.l ?_ | refine K1.n ?_ | refine BSpl.mk (fun _ => ?_) (fun _ => ?_))
   all_goals refine ARet.hdI ?_
   all_goals (conv => whnf)
   all_goals refine AEqI.mk (AEq.of ?_)
   all_goals first | exact takeE_ok (hL ‹_›) ‹_› | exact takeE_no (hL ‹_›) ‹_› | exact takeE_ok (hS ‹_›) ‹_› | exact takeE_no (hS ‹_›) ‹_›
end Go.Proofs.Ytmldeejaghflnaa

/-
 Plain Lean: what was put is taken; what is taken was put; what is cut is too short.
-/
namespace Go.Proofs.Ytmldeejaghflnaa
theorem u8_of {n : Nat} (h : n < 256) : (UInt8.ofNat n).toNat = n := by
 rw [UInt8.toNat_ofNat',Nat.mod_eq_of_lt (by omega)]
theorem u8_eq {a b : UInt8} (h : a.toNat = b.toNat) : a = b := UInt8.toNat_inj.1 h
theorem vtakeF_put (t : List UInt8) : ∀ (f i n acc : Nat),i + f = 9 → n * 128 ^ i ≤ 4294967296 → (0 < i → n ≠ 0) → n < 128 ^ (f + 1) →
  vtakeF ((vputF f n ++ t).take (10 - i)) i acc = (acc + n * 128 ^ i,i + (vputF f n).length,0)
  | 0,i,n,acc,hi,hn,h0,_ => by
    have : i = 9 := by omega
    subst this
    exfalso
    have : n = 0 ∨ 1 ≤ n := by omega
    rcases this with h | h
    · exact h0 (by omega) h
    · have h2 : 128 ^ 9 = 9223372036854775808 := by decide
      rw [h2] at hn
      omega
  | f + 1,i,n,acc,hi,hn,h0,hlt => by
    have h10 : 10 - i = (10 - (i + 1)) + 1 := by omega
    by_cases h : n < 128
    · simp only [vputF,if_pos h,List.cons_append,List.nil_append,h10,List.take_succ_cons,vtakeF,u8_of (show n < 256 by omega)]
      rw [if_neg (by omega),if_neg]
      · simp
      · rintro (⟨h1,h2⟩ | ⟨h1,h2⟩)
        · exact h0 h1 h2
        · omega
    · have hq : n % 128 + 128 < 256 := by omega
      have e : n / 128 * 128 ^ (i + 1) + n % 128 * 128 ^ i = n * 128 ^ i := by
       rw [Nat.pow_succ,Nat.mul_comm (128 ^ i) 128,← Nat.mul_assoc,← Nat.add_mul]
       congr 1
       omega
      have ih := vtakeF_put t f (i + 1) (n / 128) (acc + (n % 128) * 128 ^ i) (by omega) (by omega) (fun _ => by omega) (by
       rw [Nat.pow_succ] at hlt
       exact Nat.div_lt_of_lt_mul (by omega))
      simp only [vputF,if_neg h,List.cons_append,h10,List.take_succ_cons,vtakeF,u8_of hq]
      rw [if_pos (by omega),show n % 128 + 128 - 128 = n % 128 by omega,ih]
      simp only [List.length_cons,Prod.mk.injEq,and_true]
      exact ⟨by omega,by omega⟩
theorem vtake_put (n : Nat) (t : List UInt8) (h : n ≤ 4294967296) : vtake (vput n ++ t) = (n,(vput n).length,0) := by
 have := vtakeF_put t 9 0 n 0 rfl (by simpa using h) (fun h => absurd h (by omega)) (by
  have : 128 ^ (9 + 1) = 1180591620717411303424 := by decide
  omega)
 simpa [vtake,vput] using this
theorem vtakeF_ok : ∀ (l : List UInt8) (i acc m k : Nat),i + l.length ≤ 10 → vtakeF l i acc = (m,k,0) → ∃ n,m = acc + n * 128 ^ i ∧ k = i + (vputF (9 - i) n).length ∧ k ≤ i + l.length ∧ l.take (k - i) = vputF (9 - i) n ∧ (0 < i → n ≠ 0)
  | [],i,acc,m,k,hl,h => by
    simp only [vtakeF] at h
    split at h <;> cases h
  | c :: r,i,acc,m,k,hl,h => by
    simp only [vtakeF] at h
    simp only [List.length_cons] at hl
    have hc := UInt8.toNat_lt c
    by_cases h1 : 128 ≤ c.toNat
    · rw [if_pos h1] at h
      obtain ⟨n,e1,e2,e3,e4,e5⟩ := vtakeF_ok r (i + 1) _ m k (by omega) h
      have hn := e5 (by omega)
      have h9 : 9 - i = (9 - (i + 1)) + 1 := by
       have : 1 ≤ r.length := by
        cases r with
        | nil =>
          simp only [vtakeF] at h
          split at h <;> cases h
        | cons => simp
       omega
      refine ⟨n * 128 + (c.toNat - 128),?_,?_,by simp only [List.length_cons]; omega,?_,fun _ => by omega⟩
      · rw [e1,Nat.pow_succ,Nat.add_mul]
        have : n * (128 ^ i * 128) = n * 128 * 128 ^ i := by rw [Nat.mul_comm (128 ^ i) 128,Nat.mul_assoc]
        omega
      · rw [h9,vputF,if_neg (by omega),List.length_cons,show (n * 128 + (c.toNat - 128)) / 128 = n by omega]
        omega
      · have hk : k - i = (k - (i + 1)) + 1 := by
         have := vputF_pos (9 - (i + 1)) n
         omega
        rw [hk,List.take_succ_cons,e4,h9,vputF,if_neg (by omega),show (n * 128 + (c.toNat - 128)) / 128 = n by omega]
        have hcc : UInt8.ofNat ((n * 128 + (c.toNat - 128)) % 128 + 128) = c := u8_eq (by rw [u8_of (by omega)]; omega)
        rw [hcc]
    · rw [if_neg h1] at h
      split at h
      · cases h
      · rename_i h2
        simp only [Prod.mk.injEq,and_true] at h
        obtain ⟨h3,h4⟩ := h
        refine ⟨c.toNat,h3.symm,?_,by simp only [List.length_cons]; omega,?_,fun hi e => h2 (.inl ⟨hi,e⟩)⟩
        all_goals subst h4
        · cases h9 : 9 - i with
          | zero => simp [vputF]
          | succ f => simp [vputF,show c.toNat < 128 by omega]
        · rw [show i + 1 - i = 0 + 1 by omega,List.take_succ_cons,List.take_zero]
          have : UInt8.ofNat c.toNat = c := by simp
          cases h9 : 9 - i with
          | zero => simp [vputF,this]
          | succ f => simp [vputF,show c.toNat < 128 by omega,this]
theorem vtake_ok {l : List UInt8} {m k : Nat} (h : vtake l = (m,k,0)) : k = (vput m).length ∧ k ≤ l.length ∧ l.take k = vput m := by
 obtain ⟨n,e1,e2,e3,e4,_⟩ := vtakeF_ok (l.take 10) 0 0 m k (by rw [List.length_take]; omega) h
 simp only [Nat.pow_zero,Nat.mul_one,Nat.zero_add,Nat.sub_zero] at e1 e2 e3 e4
 subst e1
 rw [List.length_take] at e3
 refine ⟨e2,by omega,?_⟩
 rw [List.take_take,Nat.min_eq_left (by omega)] at e4
 exact e4
theorem vtakeF_err : ∀ (l : List UInt8) (i acc : Nat),(vtakeF l i acc).2.2 = 0 ∨ (vtakeF l i acc).2.2 = 2 ∨ (vtakeF l i acc).2.2 = 3
  | [],i,acc => by simp only [vtakeF]; split <;> simp
  | c :: r,i,acc => by
    simp only [vtakeF]
    split
    · exact vtakeF_err r _ _
    · split <;> simp
theorem vtakeF_cut : ∀ (f i n acc j : Nat),i + f ≤ 9 → j < (vputF f n).length → vtakeF ((vputF f n).take j) i acc = (0,0,2)
  | f,i,n,acc,0,hi,_ => by simp [vtakeF]; omega
  | 0,i,n,acc,j + 1,hi,hj => by simp [vputF] at hj
  | f + 1,i,n,acc,j + 1,hi,hj => by
    by_cases h : n < 128
    · simp [vputF,h] at hj
    · have hq : n % 128 + 128 < 256 := by omega
      simp only [vputF,if_neg h,List.length_cons] at hj
      simp only [vputF,if_neg h,List.take_succ_cons,vtakeF,u8_of hq]
      rw [if_pos (by omega)]
      exact vtakeF_cut f (i + 1) (n / 128) _ j (by omega) (by omega)
theorem vtake_cut {n j : Nat} (hj : j < (vput n).length) : vtake ((vput n).take j) = (0,0,2) := by
 have := vputF_le 9 n
 unfold vtake
 rw [List.take_take,Nat.min_eq_right (by unfold vput at hj; omega)]
 exact vtakeF_cut 9 0 n 0 j (by omega) hj
end Go.Proofs.Ytmldeejaghflnaa
