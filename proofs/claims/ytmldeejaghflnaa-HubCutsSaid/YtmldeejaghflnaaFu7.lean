/-
  Contracts of the walk: HbB, HbC, HbD, HbE, HbF.
-/
import Derived.Test.YtmldeejaghflnaaFu6
/-
 A shelf: what From tells.
-/
namespace Go.Proofs.Ytmldeejaghflnaa
open Go.RowKit
def overN (n : Int) (e : Ev) : Bool := decide (n < e.n)
theorem take_filter {p : Ev → Bool} {l : List Ev} {j : Nat} (h : j < l.length) : (l.take (j + 1)).filter p = (l.take j).filter p ++ (if p (l.getD j default) then [l.getD j default] else []) := by
 rw [List.take_succ_eq_append_getElem h,List.filter_append]
 have e : l[j] = l.getD j default := by simp [List.getD,h]
 rw [e]
 congr 1
 cases hp : p (l.getD j default) <;> simp only [List.filter_cons,List.filter_nil,hp] <;> rfl
set_option maxHeartbeats 4000000 in
set_option maxRecDepth 100000 in
theorem sh_from_m (most : Int) (s : Shf) (n : Int) (h2 : s.kept.length ≤ 1048576) :
  MSpec Try.prog 76 [(0, .obs (shO most s))] [.box 0 0, .v (.int .i64 n)] (.own 1) [(0, .obs (shO most s)),(1,evRow (s.kept.filter (overN n)))] := by
 refine sh_opn ⟨_,_,Try.func76,rfl,rfl⟩ ?_ rfl
 obtain ⟨base,l⟩ := s
 dsimp only [shB,evRow,List.cons_append,List.nil_append] at h2 ⊢
 refine mspec_of lay_ok 1079475 10 Try.func76 rfl rfl rfl ?_
 repeat' ((conv => whnf); first | refine K1.a ?_ | refine K1.b ?_ | refine K1.c ?_ | refine K1.d ?_ | refine K1.e ?_ | refine K1.f ?_ | refine Spl.mk (fun _ => ?_) (fun _ => ?_) | refine SNil.mk (fun _ => ?_) ?_ | refine K1.g ?_ | refine ASl.frz ?_ | refine Wr.b64 ?_ | refine Wr.bu64 ?_ | refine Wr.bu32 ?_ | refine Wr.bu8 ?_ | refine K1.u8 ?_ | refine K1.u64 ?_ | refine K1.u32 ?_ | refine K1.h ?_ | refine K1.i ?_ | refine K1.q ?_ | refine K1.j ?_ | refine K1.k ?_ | refine BSpl.dec (fun _ => ?_) (fun _ => ?_) | refine K1.l ?_ | refine K1.n ?_ | refine BSpl.mk (fun _ => ?_) (fun _ => ?_))
 conv => whnf
 refine ALoop.nil 5 90 66 12 (evF []) rfl (by omega) ?_
 refine ALoop.mk { j : Nat // j ≤ l.length } (fun j => ⟨[(13, .v (.int .i64 (j.1 : Int))),(12, .v (.int .i64 (l.length : Int))),(11, .own 9),(5, .own 90),(1, .v (.int .i64 n))],[(90, .row 66 12 ((l.take j.1).filter (overN n)).length true (evF ((l.take j.1).filter (overN n)))),(0, .box 125 [.v (.int .i64 most), .v (.int .i64 base), .own 9]),(9, .row 66 12 l.length true (evF l))],[[(0, .box 0 0),(1, .own 9)]],91⟩)
  (fun j => l.length - j.1) ⟨0,Nat.zero_le _⟩ _ (LeR.mk' [] _ _ _ rfl ⟨AEq.int rfl,AEq.refl _,AEq.refl _,AEq.refl _,AEq.refl _,trivial⟩ ⟨⟨_,rfl,OEq.refl _⟩,⟨_,rfl,OEq.refl _⟩,⟨_,rfl,OEq.refl _⟩,trivial⟩ rfl) ?_
 rintro ⟨j,hj⟩
 dsimp only
 by_cases hjl : j < l.length
 · have hf := take_filter (p := overN n) hjl
   have hb : Nat.ble ((j : Int).toNat + 1) l.length = true := Nat.ble_eq_true_of_le (by rw [Int.toNat_natCast]; exact hjl)
   have e : l.getD j default = l.getD (j : Int).toNat default := rfl
   rw [e] at hf
   have hfl := List.length_filter_le (overN n) (l.take j)
   rw [List.length_take] at hfl
   cases ho : overN n (l.getD (j : Int).toNat default) with
   | true =>
     have hq : n < (l.getD (j : Int).toNat default).n := by simpa [overN] using ho
     rw [ho,if_pos rfl] at hf
     repeat' ((conv => whnf); first | refine K1.a ?_ | refine K1.b ?_ | refine K1.c ?_ | refine K1.d ?_ | refine K1.e ?_ | refine K1.f ?_ | refine Spl.mk (fun _ => ?_) (fun _ => ?_) | refine SNil.mk (fun _ => ?_) ?_ | refine K1.g ?_ | refine ASl.frz ?_ | refine Wr.b64 ?_ | refine Wr.bu64 ?_ | refine Wr.bu32 ?_ | refine Wr.bu8 ?_ | refine K1.u8 ?_ | refine K1.u64 ?_ | refine K1.u32 ?_ | refine K1.h ?_ | refine K1.i ?_ | refine K1.q ?_ | refine K1.j ?_ | refine K1.k ?_ | refine BSpl.dec (fun _ => ?_) (fun _ => ?_) | refine K1.l ?_ | refine K1.n ?_ | refine BSpl.mk (fun _ => ?_) (fun _ => ?_))
     all_goals (conv => whnf)
     refine ⟨⟨j + 1,hjl⟩,_,LeR.mk' [(93,90)] _ _ _ rfl ⟨AEq.int rfl,AEq.refl _,AEq.refl _,AEq.refl _,AEq.refl _,trivial⟩ ⟨⟨_,rfl,OEq.row (by rw [hf]; simp) (fun m hm => ?_)⟩,⟨_,rfl,OEq.refl _⟩,⟨_,rfl,OEq.refl _⟩,trivial⟩ rfl,by show l.length - (j + 1) < l.length - j; omega⟩
     rw [hf]
     exact els_app1 (c := Ev.cs) (l := (l.take j).filter (overN n)) rfl rfl m hm
   | false =>
     have hq : ¬ n < (l.getD (j : Int).toNat default).n := by simpa [overN] using ho
     rw [ho,if_neg (by simp),List.append_nil] at hf
     repeat' ((conv => whnf); first | refine K1.a ?_ | refine K1.b ?_ | refine K1.c ?_ | refine K1.d ?_ | refine K1.e ?_ | refine K1.f ?_ | refine Spl.mk (fun _ => ?_) (fun _ => ?_) | refine SNil.mk (fun _ => ?_) ?_ | refine K1.g ?_ | refine ASl.frz ?_ | refine Wr.b64 ?_ | refine Wr.bu64 ?_ | refine Wr.bu32 ?_ | refine Wr.bu8 ?_ | refine K1.u8 ?_ | refine K1.u64 ?_ | refine K1.u32 ?_ | refine K1.h ?_ | refine K1.i ?_ | refine K1.q ?_ | refine K1.j ?_ | refine K1.k ?_ | refine BSpl.dec (fun _ => ?_) (fun _ => ?_) | refine K1.l ?_ | refine K1.n ?_ | refine BSpl.mk (fun _ => ?_) (fun _ => ?_))
     all_goals (conv => whnf)
     exact ⟨⟨j + 1,hjl⟩,_,LeR.mk' [] _ _ _ rfl ⟨AEq.int rfl,AEq.refl _,AEq.refl _,AEq.refl _,AEq.refl _,trivial⟩ ⟨⟨_,rfl,by rw [hf]; exact OEq.refl _⟩,⟨_,rfl,OEq.refl _⟩,⟨_,rfl,OEq.refl _⟩,trivial⟩ rfl,by show l.length - (j + 1) < l.length - j; omega⟩
 · have e1 : l.take j = l := List.take_of_length_le (by omega)
   rw [e1]
   repeat' ((conv => whnf); first | refine K1.a ?_ | refine K1.b ?_ | refine K1.c ?_ | refine K1.d ?_ | refine K1.e ?_ | refine K1.f ?_ | refine Spl.mk (fun _ => ?_) (fun _ => ?_) | refine SNil.mk (fun _ => ?_) ?_ | refine K1.g ?_ | refine ASl.frz ?_ | refine Wr.b64 ?_ | refine Wr.bu64 ?_ | refine Wr.bu32 ?_ | refine Wr.bu8 ?_ | refine K1.u8 ?_ | refine K1.u64 ?_ | refine K1.u32 ?_ | refine K1.h ?_ | refine K1.i ?_ | refine K1.q ?_ | refine K1.j ?_ | refine K1.k ?_ | refine BSpl.dec (fun _ => ?_) (fun _ => ?_) | refine K1.l ?_ | refine K1.n ?_ | refine BSpl.mk (fun _ => ?_) (fun _ => ?_))
   all_goals (conv => whnf)
   exact ⟨[(90,1)],rfl,rfl,⟨⟨_,rfl,OEq.refl _⟩,⟨_,rfl,OEq.refl _⟩,⟨_,rfl,OEq.refl _⟩,trivial⟩,rfl,rfl,AEq.refl _⟩
end Go.Proofs.Ytmldeejaghflnaa

/-
 A shelf: what Cut leaves.
-/
namespace Go.Proofs.Ytmldeejaghflnaa
open Go.RowKit
theorem sh_len_o (most base : Int) (l : List Ev) (h0 : 0 ≤ base) (h1 : base ≤ 1000000000000) (h2 : l.length ≤ 1048576) : MSpec Try.prog 42 [(0,shB most base (.own 1)),(1,evRow l)] [.box 0 0] (.v (.int .i64 (base + l.length))) [(0,shB most base (.own 1)),(1,evRow l)] := by
 dsimp only [shB,evRow]
 refine mspec_of lay_ok 5 10 Try.func42 rfl rfl rfl ?_
 repeat' ((conv => whnf); first | refine K1.a ?_ | refine K1.b ?_ | refine K1.c ?_ | refine K1.d ?_ | refine K1.e ?_ | refine K1.f ?_ | refine Spl.mk (fun _ => ?_) (fun _ => ?_) | refine SNil.mk (fun _ => ?_) ?_ | refine K1.g ?_ | refine ASl.frz ?_ | refine Wr.b64 ?_ | refine Wr.bu64 ?_ | refine Wr.bu32 ?_ | refine Wr.bu8 ?_ | refine K1.u8 ?_ | refine K1.u64 ?_ | refine K1.u32 ?_ | refine K1.h ?_ | refine K1.i ?_ | refine K1.q ?_ | refine K1.j ?_ | refine K1.k ?_ | refine BSpl.dec (fun _ => ?_) (fun _ => ?_) | refine K1.l ?_ | refine K1.n ?_ | refine BSpl.mk (fun _ => ?_) (fun _ => ?_))
 all_goals (conv => whnf)
 exact ⟨[],rfl,rfl,⟨⟨_,rfl,OEq.refl _⟩,⟨_,rfl,OEq.refl _⟩,trivial⟩,rfl,rfl,AEq.refl _⟩
theorem ovr_lo {k m : Nat} {f f' : Nat → List AV} (h : m < k) : ovr 0 k f f' m = f' m := by
 have hb : Nat.ble k m = false := by
  rw [Bool.eq_false_iff]
  intro e
  have := Nat.le_of_ble_eq_true e
  omega
 show (bif Nat.ble k (m - 0) then _ else f' (m - 0)) = f' m
 rw [Nat.sub_zero,hb]
 rfl
theorem els_drop {α : Type} [Inhabited α] {c : α → List AV} {l : List α} (k m : Nat) : elsF c (l.drop k) m = elsF c l (k + m) := by
 show c ((l.drop k).getD m default) = c (l.getD (k + m) default)
 simp only [List.getD_eq_getElem?_getD,List.getElem?_drop]
def cutN (base len n : Int) : Int := if (if base + len < n then base + len else n) > base then (if base + len < n then base + len else n) else base
theorem cutN_in (base len n : Int) (h : 0 ≤ len) : base ≤ cutN base len n ∧ cutN base len n ≤ base + len := by
 unfold cutN
 split <;> (try split) <;> omega
def cutS (s : Shf) (n : Int) : Shf := ⟨cutN s.base s.kept.length n,s.kept.drop (cutN s.base s.kept.length n - s.base).toNat⟩
set_option maxHeartbeats 4000000 in
set_option maxRecDepth 100000 in
theorem sh_cut_m (most : Int) (s : Shf) (n : Int) (h0 : 0 ≤ s.base) (h1 : s.base ≤ 1000000000000) (h2 : s.kept.length ≤ 1048576) :
  MSpec Try.prog 86 [(0, .obs (shO most s))] [.box 0 0, .v (.int .i64 n)] (.tup []) [(0, .obs (shO most (cutS s n)))] := by
 refine sh_opn8 (ho := []) ⟨_,_,Try.func86,rfl,rfl⟩ ?_ rfl
 obtain ⟨base,l⟩ := s
 dsimp only [List.append_nil,cutS] at h0 h1 h2 ⊢
 have hl := sh_len_o most base l h0 h1 h2
 have hc := cutN_in base l.length n (by omega)
 dsimp only [shB,evRow] at hl ⊢
 refine mspec_of lay_ok 51 10 Try.func86 rfl rfl rfl ?_
 repeat' ((conv => whnf); first | refine K1.a ?_ | refine K1.b ?_ | refine K1.c ?_ | refine K1.d ?_ | refine K1.e ?_ | refine K1.f ?_ | refine ACall.chgR 2 [(0,_),(1,_)] (hl) rfl ⟨rfl,rfl,trivial⟩ rfl rfl ?_ | refine Spl.mk (fun _ => ?_) (fun _ => ?_) | refine SNil.mk (fun _ => ?_) ?_ | refine K1.g ?_ | refine ASl.frz ?_ | refine Wr.b64 ?_ | refine Wr.bu64 ?_ | refine Wr.bu32 ?_ | refine Wr.bu8 ?_ | refine K1.u8 ?_ | refine K1.u64 ?_ | refine K1.u32 ?_ | refine K1.h ?_ | refine K1.i ?_ | refine K1.q ?_ | refine ADraw.sched (id := 0) lay_ok (awp_snd lay_ok _) [(0,none),(1,none),(2,none),(3,none),(4,none),(5,none),(6,some []),(7,none),(8,none),(9,none)] [(6,[])] follows_ok (by kernel_rfl) ?_ | refine ADraw.sched (id := 2) lay_ok (awp_snd lay_ok _) [(0,none),(1,none),(2,none),(3,none),(4,none),(5,none),(6,none),(7,none),(8,none),(9,none),(10,none),(11,none),(12,some [10,9,7,4,2])] [(3,[2]),(4,[2]),(8,[7]),(9,[7]),(10,[9,7]),(11,[10,9,7,4,2]),(12,[10,9,7,4,2])] follows_ok (by kernel_rfl) ?_ | refine K1.j ?_ | refine K1.k ?_ | refine BSpl.dec (fun _ => ?_) (fun _ => ?_) | refine K1.l ?_ | refine K1.n ?_ | refine BSpl.mk (fun _ => ?_) (fun _ => ?_))
 all_goals (conv => whnf)
 generalize hb : cutN base l.length n = b at hc ⊢
 unfold cutN at hb
 rw [hb]
 clear hb
 repeat' ((conv => whnf); first | refine K1.a ?_ | refine K1.b ?_ | refine K1.c ?_ | refine K1.d ?_ | refine K1.e ?_ | refine K1.f ?_ | refine ACall.chgR 2 [(0,_),(1,_)] (hl) rfl ⟨rfl,rfl,trivial⟩ rfl rfl ?_ | refine AMk.full (by omega) rfl (by simp only; omega) (by omega) ?_ | refine ASl.part ?_ | refine Spl.mk (fun _ => ?_) (fun _ => ?_) | refine SNil.mk (fun _ => ?_) ?_ | refine K1.g ?_ | refine ASl.frz ?_ | refine Wr.b64 ?_ | refine Wr.bu64 ?_ | refine Wr.bu32 ?_ | refine Wr.bu8 ?_ | refine K1.u8 ?_ | refine K1.u64 ?_ | refine K1.u32 ?_ | refine K1.h ?_ | refine K1.i ?_ | refine K1.q ?_ | refine ADraw.sched (id := 0) lay_ok (awp_snd lay_ok _) [(0,none),(1,none),(2,none),(3,none),(4,none),(5,none),(6,some []),(7,none),(8,none),(9,none)] [(6,[])] follows_ok (by kernel_rfl) ?_ | refine ADraw.sched (id := 2) lay_ok (awp_snd lay_ok _) [(0,none),(1,none),(2,none),(3,none),(4,none),(5,none),(6,none),(7,none),(8,none),(9,none),(10,none),(11,none),(12,some [10,9,7,4,2])] [(3,[2]),(4,[2]),(8,[7]),(9,[7]),(10,[9,7]),(11,[10,9,7,4,2]),(12,[10,9,7,4,2])] follows_ok (by kernel_rfl) ?_ | refine K1.j ?_ | refine K1.k ?_ | refine BSpl.dec (fun _ => ?_) (fun _ => ?_) | refine K1.l ?_ | refine K1.n ?_ | refine BSpl.mk (fun _ => ?_) (fun _ => ?_))
 all_goals (conv => whnf)
 refine ⟨[(12,8)],rfl,rfl,⟨⟨_,rfl,OEq.refl _⟩,⟨_,rfl,OEq.row (by rw [List.length_drop]; omega) (fun m hm => ?_)⟩,trivial⟩,rfl,rfl,AEq.refl _⟩
 exact (ovr_lo (show m < l.length - (b - base).toNat by have hm : m < (base + (l.length : Int) - b).toNat := hm; omega)).trans (els_drop _ _).symm
end Go.Proofs.Ytmldeejaghflnaa

/-
 A shelf: what Put leaves,and answers.
-/
namespace Go.Proofs.Ytmldeejaghflnaa
open Go.RowKit
theorem ovr_app {a b m : Nat} {z f f' : Nat → List AV} (h : m < a + b) : ovr a b (ovr 0 a z f) f' m = appF a f f' m := by
 show appF a (ovr 0 a z f) (appF b f' _) m = appF a f f' m
 unfold appF
 cases hb : Nat.ble a m with
 | true =>
   have := Nat.le_of_ble_eq_true hb
   have hb2 : Nat.ble b (m - a) = false := by
    rw [Bool.eq_false_iff]
    intro e
    have := Nat.le_of_ble_eq_true e
    omega
   simp only [cond_true,hb2,cond_false]
 | false =>
   have hlt : m < a := by
    rcases Nat.lt_or_ge m a with h1 | h1
    · exact h1
    · rw [Nat.ble_eq_true_of_le h1] at hb; cases hb
   simp only [cond_false]
   exact ovr_lo hlt
def okAt (s : Shf) (l : List Ev) (j : Nat) : Prop := if j = 0 then (l.getD 0 default).n ≤ s.len + 1 else (l.getD j default).n = (l.getD (j - 1) default).n + 1
instance (s : Shf) (l : List Ev) (j : Nat) : Decidable (okAt s l j) := by unfold okAt; infer_instance
def newS (s : Shf) (l : List Ev) : List Ev := l.dropWhile fun e => decide (e.n ≤ s.len)
def putS (most : Int) (s : Shf) (l : List Ev) : Shf × Int :=
 if (List.range l.length).all (fun j => decide (okAt s l j)) then
  (if newS s l = [] then (s,0) else if most < (s.kept.length : Int) + ((newS s l).length : Int) then (s,21) else (⟨s.base,s.kept ++ newS s l⟩,0))
 else (s,20)
set_option maxHeartbeats 8000000 in
set_option maxRecDepth 100000 in
theorem sh_put_m (most : Int) (s s' : Shf) (l : List Ev) (x : Int) (h0 : 0 ≤ s.base) (h1 : s.base ≤ 1000000000000) (h2 : s.kept.length ≤ 1048576) (h3 : l.length ≤ 1000000) (hN : ∀ j,0 ≤ (l.getD j default).n ∧ (l.getD j default).n ≤ 1000000000) (hp : putS most s l = (s',x)) :
  MSpec Try.prog 67 [(0, .obs (shO most s))] [.box 0 0, .sl 12 l.length true (evF l)] (.v (.int .i64 x)) [(0, .obs (shO most s'))] := by
 refine sh_opn8 (ho := []) ⟨_,_,Try.func67,rfl,rfl⟩ ?_ rfl
 obtain ⟨base,k⟩ := s
 have hl := sh_len_o most base k h0 h1 h2
 dsimp only [shB,evRow,List.append_nil] at h0 h1 h2 hl ⊢
 refine mspec_of lay_ok 9445327443089126596595 10 Try.func67 rfl rfl rfl ?_
 repeat' ((conv => whnf); first | refine K1.a ?_ | refine K1.b ?_ | refine K1.c ?_ | refine K1.d ?_ | refine K1.e ?_ | refine K1.f ?_ | refine ACall.chgR 2 [(0,_),(1,_)] (hl) rfl ⟨rfl,rfl,trivial⟩ rfl rfl ?_ | refine Spl.mk (fun _ => ?_) (fun _ => ?_) | refine SNil.mk (fun _ => ?_) ?_ | refine K1.g ?_ | refine ASl.frz ?_ | refine Wr.b64 ?_ | refine Wr.bu64 ?_ | refine Wr.bu32 ?_ | refine Wr.bu8 ?_ | refine K1.u8 ?_ | refine K1.u64 ?_ | refine K1.u32 ?_ | refine K1.h ?_ | refine K1.i ?_ | refine K1.q ?_ | refine ADraw.sched (id := 4) lay_ok (awp_snd lay_ok _) [(0,none),(1,none),(2,none),(3,none),(4,none),(5,none),(6,some [1]),(7,none),(8,none),(9,none),(10,none),(11,none),(12,none),(13,none),(14,none),(15,none),(16,none),(17,none),(18,none),(19,none),(20,none),(21,none),(22,none),(23,none),(24,none),(25,none)] [(2,[1]),(3,[1]),(4,[1]),(5,[1]),(6,[1]),(7,[1]),(8,[1]),(9,[1]),(10,[1]),(11,[1]),(12,[1]),(13,[1]),(14,[1]),(15,[1]),(16,[1]),(17,[1]),(18,[1]),(19,[1]),(20,[1]),(21,[1]),(22,[1]),(23,[1]),(24,[1]),(25,[1])] follows_ok (by kernel_rfl) ?_ | refine ADraw.sched (id := 7) lay_ok (awp_snd lay_ok _) [(0,none),(1,none),(2,none),(3,none),(4,none),(5,none),(6,none),(7,none),(8,none),(9,some [2]),(10,none),(11,none)] [(3,[2]),(4,[2]),(5,[2]),(6,[2]),(7,[2]),(8,[2]),(9,[2]),(10,[2]),(11,[2])] follows_ok (by kernel_rfl) ?_ | refine K1.j ?_ | refine K1.k ?_ | refine BSpl.dec (fun _ => ?_) (fun _ => ?_) | refine K1.l ?_ | refine K1.n ?_ | refine BSpl.mk (fun _ => ?_) (fun _ => ?_))
 conv => whnf
 refine ALoop.mk { j : Nat // j ≤ l.length ∧ ∀ i,i < j → okAt ⟨base,k⟩ l i } (fun j => ⟨[(11, .v (.int .i64 (j.1 : Int))),(10, .v (.int .i64 (l.length : Int))),(9, .sl 12 l.length true (evF l)),(0, .box 0 0),(1, .sl 12 l.length true (evF l))],[(0, .box 125 [.v (.int .i64 most), .v (.int .i64 base), .own 9]),(9, .row 66 12 k.length true (evF k))],[[(0, .box 0 0),(1, .own 9)]],10⟩)
  (fun j => l.length - j.1) ⟨0,Nat.zero_le _,fun i hi => absurd hi (Nat.not_lt_zero _)⟩ _ (LeR.mk' [] _ _ _ rfl ⟨AEq.int rfl,AEq.refl _,AEq.refl _,AEq.refl _,AEq.refl _,trivial⟩ ⟨⟨_,rfl,OEq.refl _⟩,⟨_,rfl,OEq.refl _⟩,trivial⟩ rfl) ?_
 rintro ⟨j,hj,hok⟩
 dsimp only
 have back : ∀ (hjl : j < l.length),okAt ⟨base,k⟩ l j → ∃ y : { j : Nat // j ≤ l.length ∧ ∀ i,i < j → okAt ⟨base,k⟩ l i },y.1 = j + 1 := fun hjl h => ⟨⟨j + 1,hjl,fun i hi => by
  rcases Nat.lt_or_ge i j with hi' | hi'
  · exact hok i hi'
  · obtain rfl : i = j := by omega
    exact h⟩,rfl⟩
 by_cases hjl : j < l.length
 · have bad : ¬ okAt ⟨base,k⟩ l j → s' = ⟨base,k⟩ ∧ x = 20 := fun h => by
    unfold putS at hp
    rw [if_neg (fun hall => h (by
     have := List.all_eq_true.1 hall j (List.mem_range.2 hjl)
     simpa using this))] at hp
    cases hp
    exact ⟨rfl,rfl⟩
   by_cases hj0 : j = 0
   · have hn := hN (j : Int).toNat
     by_cases ho : okAt ⟨base,k⟩ l j
     · obtain ⟨y,hy⟩ := back hjl ho
       have ho' : (l.getD (j : Int).toNat default).n ≤ base + (k.length : Int) + 1 := by
        unfold okAt at ho
        rw [if_pos hj0] at ho
        rw [show (j : Int).toNat = 0 by omega]
        exact ho
       repeat' ((conv => whnf); first | refine K1.a ?_ | refine K1.b ?_ | refine K1.c ?_ | refine K1.d ?_ | refine K1.e ?_ | refine K1.f ?_ | refine ACall.chgR 2 [(0,_),(1,_)] (hl) rfl ⟨rfl,rfl,trivial⟩ rfl rfl ?_ | refine Spl.mk (fun _ => ?_) (fun _ => ?_) | refine SNil.mk (fun _ => ?_) ?_ | refine K1.g ?_ | refine ASl.frz ?_ | refine Wr.b64 ?_ | refine Wr.bu64 ?_ | refine Wr.bu32 ?_ | refine Wr.bu8 ?_ | refine K1.u8 ?_ | refine K1.u64 ?_ | refine K1.u32 ?_ | refine K1.h ?_ | refine K1.i ?_ | refine K1.q ?_ | refine ADraw.sched (id := 4) lay_ok (awp_snd lay_ok _) [(0,none),(1,none),(2,none),(3,none),(4,none),(5,none),(6,some [1]),(7,none),(8,none),(9,none),(10,none),(11,none),(12,none),(13,none),(14,none),(15,none),(16,none),(17,none),(18,none),(19,none),(20,none),(21,none),(22,none),(23,none),(24,none),(25,none)] [(2,[1]),(3,[1]),(4,[1]),(5,[1]),(6,[1]),(7,[1]),(8,[1]),(9,[1]),(10,[1]),(11,[1]),(12,[1]),(13,[1]),(14,[1]),(15,[1]),(16,[1]),(17,[1]),(18,[1]),(19,[1]),(20,[1]),(21,[1]),(22,[1]),(23,[1]),(24,[1]),(25,[1])] follows_ok (by kernel_rfl) ?_ | refine ADraw.sched (id := 7) lay_ok (awp_snd lay_ok _) [(0,none),(1,none),(2,none),(3,none),(4,none),(5,none),(6,none),(7,none),(8,none),(9,some [2]),(10,none),(11,none)] [(3,[2]),(4,[2]),(5,[2]),(6,[2]),(7,[2]),(8,[2]),(9,[2]),(10,[2]),(11,[2])] follows_ok (by kernel_rfl) ?_ | refine K1.j ?_ | refine K1.k ?_ | refine BSpl.dec (fun _ => ?_) (fun _ => ?_) | refine K1.l ?_ | refine K1.n ?_ | refine BSpl.mk (fun _ => ?_) (fun _ => ?_))
       all_goals (conv => whnf)
       all_goals exact ⟨y,_,LeR.mk' [] _ _ _ rfl ⟨AEq.int (by rw [hy]; rfl),AEq.refl _,AEq.refl _,AEq.refl _,AEq.refl _,trivial⟩ ⟨⟨_,rfl,OEq.refl _⟩,⟨_,rfl,OEq.refl _⟩,trivial⟩ rfl,by show l.length - y.1 < l.length - j; omega⟩
     · obtain ⟨rfl,rfl⟩ := bad ho
       have ho' : ¬ (l.getD (j : Int).toNat default).n ≤ base + (k.length : Int) + 1 := by
        unfold okAt at ho
        rw [if_pos hj0] at ho
        rw [show (j : Int).toNat = 0 by omega]
        exact ho
       repeat' ((conv => whnf); first | refine K1.a ?_ | refine K1.b ?_ | refine K1.c ?_ | refine K1.d ?_ | refine K1.e ?_ | refine K1.f ?_ | refine ACall.chgR 2 [(0,_),(1,_)] (hl) rfl ⟨rfl,rfl,trivial⟩ rfl rfl ?_ | refine Spl.mk (fun _ => ?_) (fun _ => ?_) | refine SNil.mk (fun _ => ?_) ?_ | refine K1.g ?_ | refine ASl.frz ?_ | refine Wr.b64 ?_ | refine Wr.bu64 ?_ | refine Wr.bu32 ?_ | refine Wr.bu8 ?_ | refine K1.u8 ?_ | refine K1.u64 ?_ | refine K1.u32 ?_ | refine K1.h ?_ | refine K1.i ?_ | refine K1.q ?_ | refine ADraw.sched (id := 4) lay_ok (awp_snd lay_ok _) [(0,none),(1,none),(2,none),(3,none),(4,none),(5,none),(6,some [1]),(7,none),(8,none),(9,none),(10,none),(11,none),(12,none),(13,none),(14,none),(15,none),(16,none),(17,none),(18,none),(19,none),(20,none),(21,none),(22,none),(23,none),(24,none),(25,none)] [(2,[1]),(3,[1]),(4,[1]),(5,[1]),(6,[1]),(7,[1]),(8,[1]),(9,[1]),(10,[1]),(11,[1]),(12,[1]),(13,[1]),(14,[1]),(15,[1]),(16,[1]),(17,[1]),(18,[1]),(19,[1]),(20,[1]),(21,[1]),(22,[1]),(23,[1]),(24,[1]),(25,[1])] follows_ok (by kernel_rfl) ?_ | refine ADraw.sched (id := 7) lay_ok (awp_snd lay_ok _) [(0,none),(1,none),(2,none),(3,none),(4,none),(5,none),(6,none),(7,none),(8,none),(9,some [2]),(10,none),(11,none)] [(3,[2]),(4,[2]),(5,[2]),(6,[2]),(7,[2]),(8,[2]),(9,[2]),(10,[2]),(11,[2])] follows_ok (by kernel_rfl) ?_ | refine K1.j ?_ | refine K1.k ?_ | refine BSpl.dec (fun _ => ?_) (fun _ => ?_) | refine K1.l ?_ | refine K1.n ?_ | refine BSpl.mk (fun _ => ?_) (fun _ => ?_))
       all_goals (conv => whnf)
       all_goals exact ⟨[(9,8)],rfl,rfl,⟨⟨_,rfl,OEq.refl _⟩,⟨_,rfl,OEq.refl _⟩,trivial⟩,rfl,rfl,AEq.refl _⟩
   · have hn := hN ((j : Int) - 1).toNat
     have hm := hN (j : Int).toNat
     by_cases ho : okAt ⟨base,k⟩ l j
     · obtain ⟨y,hy⟩ := back hjl ho
       have ho' : (l.getD (j : Int).toNat default).n = (l.getD ((j : Int) - 1).toNat default).n + 1 := by
        unfold okAt at ho
        rw [if_neg hj0] at ho
        rw [show ((j : Int) - 1).toNat = j - 1 by omega,show (j : Int).toNat = j by omega]
        exact ho
       repeat' ((conv => whnf); first | refine K1.a ?_ | refine K1.b ?_ | refine K1.c ?_ | refine K1.d ?_ | refine K1.e ?_ | refine K1.f ?_ | refine ACall.chgR 2 [(0,_),(1,_)] (hl) rfl ⟨rfl,rfl,trivial⟩ rfl rfl ?_ | refine Spl.mk (fun _ => ?_) (fun _ => ?_) | refine SNil.mk (fun _ => ?_) ?_ | refine K1.g ?_ | refine ASl.frz ?_ | refine Wr.b64 ?_ | refine Wr.bu64 ?_ | refine Wr.bu32 ?_ | refine Wr.bu8 ?_ | refine K1.u8 ?_ | refine K1.u64 ?_ | refine K1.u32 ?_ | refine K1.h ?_ | refine K1.i ?_ | refine K1.q ?_ | refine ADraw.sched (id := 4) lay_ok (awp_snd lay_ok _) [(0,none),(1,none),(2,none),(3,none),(4,none),(5,none),(6,some [1]),(7,none),(8,none),(9,none),(10,none),(11,none),(12,none),(13,none),(14,none),(15,none),(16,none),(17,none),(18,none),(19,none),(20,none),(21,none),(22,none),(23,none),(24,none),(25,none)] [(2,[1]),(3,[1]),(4,[1]),(5,[1]),(6,[1]),(7,[1]),(8,[1]),(9,[1]),(10,[1]),(11,[1]),(12,[1]),(13,[1]),(14,[1]),(15,[1]),(16,[1]),(17,[1]),(18,[1]),(19,[1]),(20,[1]),(21,[1]),(22,[1]),(23,[1]),(24,[1]),(25,[1])] follows_ok (by kernel_rfl) ?_ | refine ADraw.sched (id := 7) lay_ok (awp_snd lay_ok _) [(0,none),(1,none),(2,none),(3,none),(4,none),(5,none),(6,none),(7,none),(8,none),(9,some [2]),(10,none),(11,none)] [(3,[2]),(4,[2]),(5,[2]),(6,[2]),(7,[2]),(8,[2]),(9,[2]),(10,[2]),(11,[2])] follows_ok (by kernel_rfl) ?_ | refine K1.j ?_ | refine K1.k ?_ | refine BSpl.dec (fun _ => ?_) (fun _ => ?_) | refine K1.l ?_ | refine K1.n ?_ | refine BSpl.mk (fun _ => ?_) (fun _ => ?_))
       all_goals (conv => whnf)
       all_goals exact ⟨y,_,LeR.mk' [] _ _ _ rfl ⟨AEq.int (by rw [hy]; rfl),AEq.refl _,AEq.refl _,AEq.refl _,AEq.refl _,trivial⟩ ⟨⟨_,rfl,OEq.refl _⟩,⟨_,rfl,OEq.refl _⟩,trivial⟩ rfl,by show l.length - y.1 < l.length - j; omega⟩
     · obtain ⟨rfl,rfl⟩ := bad ho
       have ho' : ¬ (l.getD (j : Int).toNat default).n = (l.getD ((j : Int) - 1).toNat default).n + 1 := by
        unfold okAt at ho
        rw [if_neg hj0] at ho
        rw [show ((j : Int) - 1).toNat = j - 1 by omega,show (j : Int).toNat = j by omega]
        exact ho
       repeat' ((conv => whnf); first | refine K1.a ?_ | refine K1.b ?_ | refine K1.c ?_ | refine K1.d ?_ | refine K1.e ?_ | refine K1.f ?_ | refine ACall.chgR 2 [(0,_),(1,_)] (hl) rfl ⟨rfl,rfl,trivial⟩ rfl rfl ?_ | refine Spl.mk (fun _ => ?_) (fun _ => ?_) | refine SNil.mk (fun _ => ?_) ?_ | refine K1.g ?_ | refine ASl.frz ?_ | refine Wr.b64 ?_ | refine Wr.bu64 ?_ | refine Wr.bu32 ?_ | refine Wr.bu8 ?_ | refine K1.u8 ?_ | refine K1.u64 ?_ | refine K1.u32 ?_ | refine K1.h ?_ | refine K1.i ?_ | refine K1.q ?_ | refine ADraw.sched (id := 4) lay_ok (awp_snd lay_ok _) [(0,none),(1,none),(2,none),(3,none),(4,none),(5,none),(6,some [1]),(7,none),(8,none),(9,none),(10,none),(11,none),(12,none),(13,none),(14,none),(15,none),(16,none),(17,none),(18,none),(19,none),(20,none),(21,none),(22,none),(23,none),(24,none),(25,none)] [(2,[1]),(3,[1]),(4,[1]),(5,[1]),(6,[1]),(7,[1]),(8,[1]),(9,[1]),(10,[1]),(11,[1]),(12,[1]),(13,[1]),(14,[1]),(15,[1]),(16,[1]),(17,[1]),(18,[1]),(19,[1]),(20,[1]),(21,[1]),(22,[1]),(23,[1]),(24,[1]),(25,[1])] follows_ok (by kernel_rfl) ?_ | refine ADraw.sched (id := 7) lay_ok (awp_snd lay_ok _) [(0,none),(1,none),(2,none),(3,none),(4,none),(5,none),(6,none),(7,none),(8,none),(9,some [2]),(10,none),(11,none)] [(3,[2]),(4,[2]),(5,[2]),(6,[2]),(7,[2]),(8,[2]),(9,[2]),(10,[2]),(11,[2])] follows_ok (by kernel_rfl) ?_ | refine K1.j ?_ | refine K1.k ?_ | refine BSpl.dec (fun _ => ?_) (fun _ => ?_) | refine K1.l ?_ | refine K1.n ?_ | refine BSpl.mk (fun _ => ?_) (fun _ => ?_))
       all_goals (conv => whnf)
       all_goals exact ⟨[(9,8)],rfl,rfl,⟨⟨_,rfl,OEq.refl _⟩,⟨_,rfl,OEq.refl _⟩,trivial⟩,rfl,rfl,AEq.refl _⟩
 · have hall : (List.range l.length).all (fun j => decide (okAt ⟨base,k⟩ l j)) = true := List.all_eq_true.2 fun i hi => decide_eq_true (hok i (by have := List.mem_range.1 hi; omega))
   unfold putS at hp
   rw [if_pos hall] at hp
   clear hall back hok
   repeat' ((conv => whnf); first | refine K1.a ?_ | refine K1.b ?_ | refine K1.c ?_ | refine K1.d ?_ | refine K1.e ?_ | refine K1.f ?_ | refine ACall.chgR 2 [(0,_),(1,_)] (hl) rfl ⟨rfl,rfl,trivial⟩ rfl rfl ?_ | refine Spl.mk (fun _ => ?_) (fun _ => ?_) | refine SNil.mk (fun _ => ?_) ?_ | refine K1.g ?_ | refine ASl.frz ?_ | refine Wr.b64 ?_ | refine Wr.bu64 ?_ | refine Wr.bu32 ?_ | refine Wr.bu8 ?_ | refine K1.u8 ?_ | refine K1.u64 ?_ | refine K1.u32 ?_ | refine K1.h ?_ | refine K1.i ?_ | refine K1.q ?_ | refine ADraw.sched (id := 4) lay_ok (awp_snd lay_ok _) [(0,none),(1,none),(2,none),(3,none),(4,none),(5,none),(6,some [1]),(7,none),(8,none),(9,none),(10,none),(11,none),(12,none),(13,none),(14,none),(15,none),(16,none),(17,none),(18,none),(19,none),(20,none),(21,none),(22,none),(23,none),(24,none),(25,none)] [(2,[1]),(3,[1]),(4,[1]),(5,[1]),(6,[1]),(7,[1]),(8,[1]),(9,[1]),(10,[1]),(11,[1]),(12,[1]),(13,[1]),(14,[1]),(15,[1]),(16,[1]),(17,[1]),(18,[1]),(19,[1]),(20,[1]),(21,[1]),(22,[1]),(23,[1]),(24,[1]),(25,[1])] follows_ok (by kernel_rfl) ?_ | refine ADraw.sched (id := 7) lay_ok (awp_snd lay_ok _) [(0,none),(1,none),(2,none),(3,none),(4,none),(5,none),(6,none),(7,none),(8,none),(9,some [2]),(10,none),(11,none)] [(3,[2]),(4,[2]),(5,[2]),(6,[2]),(7,[2]),(8,[2]),(9,[2]),(10,[2]),(11,[2])] follows_ok (by kernel_rfl) ?_ | refine K1.j ?_ | refine K1.k ?_ | refine BSpl.dec (fun _ => ?_) (fun _ => ?_) | refine K1.l ?_ | refine K1.n ?_ | refine BSpl.mk (fun _ => ?_) (fun _ => ?_))
   conv => whnf
   have hN' : ∀ e ∈ l,0 ≤ e.n ∧ e.n ≤ 1000000000 := fun e he => by
    obtain ⟨i,hi,rfl⟩ := List.getElem_of_mem he
    have := hN i
    rwa [show l.getD i default = l[i] by simp [List.getD,hi]] at this
   clear hN
   refine ALoop.mk { t : List Ev // newS ⟨base,k⟩ l = t.dropWhile (fun e => decide (e.n ≤ (⟨base,k⟩ : Shf).len)) ∧ t.length ≤ l.length ∧ ∀ e ∈ t,0 ≤ e.n ∧ e.n ≤ 1000000000 } (fun t => ⟨[(0, .box 0 0),(1, .sl 12 t.1.length true (evF t.1))],[(0, .box 125 [.v (.int .i64 most), .v (.int .i64 base), .own 9]),(9, .row 66 12 k.length true (evF k))],[[(0, .box 0 0),(1, .own 9)]],10⟩)
    (fun t => t.1.length) ⟨l,rfl,Nat.le_refl _,hN'⟩ _ (LeR.mk' [] _ _ _ rfl ⟨AEq.refl _,AEq.refl _,trivial⟩ ⟨⟨_,rfl,OEq.refl _⟩,⟨_,rfl,OEq.refl _⟩,trivial⟩ rfl) ?_
   rintro ⟨t,hnew,htl,hN⟩
   dsimp only
   rw [hnew] at hp
   rcases t with _ | ⟨e,t⟩
   · have hlen : (([] : List Ev).length : Int) = 0 := rfl
     rw [List.dropWhile_nil,if_pos rfl] at hp
     obtain ⟨rfl,rfl⟩ := Prod.mk.inj hp
     repeat' ((conv => whnf); first | refine K1.a ?_ | refine K1.b ?_ | refine K1.c ?_ | refine K1.d ?_ | refine K1.e ?_ | refine K1.f ?_ | refine ACall.chgR 2 [(0,_),(1,_)] (hl) rfl ⟨rfl,rfl,trivial⟩ rfl rfl ?_ | refine Spl.mk (fun _ => ?_) (fun _ => ?_) | refine SNil.mk (fun _ => ?_) ?_ | refine K1.g ?_ | refine ASl.frz ?_ | refine Wr.b64 ?_ | refine Wr.bu64 ?_ | refine Wr.bu32 ?_ | refine Wr.bu8 ?_ | refine K1.u8 ?_ | refine K1.u64 ?_ | refine K1.u32 ?_ | refine K1.h ?_ | refine K1.i ?_ | refine K1.q ?_ | refine ADraw.sched (id := 4) lay_ok (awp_snd lay_ok _) [(0,none),(1,none),(2,none),(3,none),(4,none),(5,none),(6,some [1]),(7,none),(8,none),(9,none),(10,none),(11,none),(12,none),(13,none),(14,none),(15,none),(16,none),(17,none),(18,none),(19,none),(20,none),(21,none),(22,none),(23,none),(24,none),(25,none)] [(2,[1]),(3,[1]),(4,[1]),(5,[1]),(6,[1]),(7,[1]),(8,[1]),(9,[1]),(10,[1]),(11,[1]),(12,[1]),(13,[1]),(14,[1]),(15,[1]),(16,[1]),(17,[1]),(18,[1]),(19,[1]),(20,[1]),(21,[1]),(22,[1]),(23,[1]),(24,[1]),(25,[1])] follows_ok (by kernel_rfl) ?_ | refine ADraw.sched (id := 7) lay_ok (awp_snd lay_ok _) [(0,none),(1,none),(2,none),(3,none),(4,none),(5,none),(6,none),(7,none),(8,none),(9,some [2]),(10,none),(11,none)] [(3,[2]),(4,[2]),(5,[2]),(6,[2]),(7,[2]),(8,[2]),(9,[2]),(10,[2]),(11,[2])] follows_ok (by kernel_rfl) ?_ | refine K1.j ?_ | refine K1.k ?_ | refine BSpl.dec (fun _ => ?_) (fun _ => ?_) | refine K1.l ?_ | refine K1.n ?_ | refine BSpl.mk (fun _ => ?_) (fun _ => ?_))
     all_goals (conv => whnf)
     all_goals exact ⟨[(9,8)],rfl,rfl,⟨⟨_,rfl,OEq.refl _⟩,⟨_,rfl,OEq.refl _⟩,trivial⟩,rfl,rfl,AEq.refl _⟩
   · have hen := hN e List.mem_cons_self
     have hlen : ((e :: t).length : Int) = (t.length : Int) + 1 := by simp
     by_cases hle : e.n ≤ base + (k.length : Int)
     · have hle0 : (evF (e :: t) 0) = Ev.cs e := rfl
       have hnext : newS ⟨base,k⟩ l = t.dropWhile (fun e => decide (e.n ≤ (⟨base,k⟩ : Shf).len)) := by
        rw [hnew,List.dropWhile_cons_of_pos (by rw [decide_eq_true_eq]; exact hle)]
       clear hp
       repeat' ((conv => whnf); first | refine K1.a ?_ | refine K1.b ?_ | refine K1.c ?_ | refine K1.d ?_ | refine K1.e ?_ | refine K1.f ?_ | refine ACall.chgR 2 [(0,_),(1,_)] (hl) rfl ⟨rfl,rfl,trivial⟩ rfl rfl ?_ | refine Spl.mk (fun _ => ?_) (fun _ => ?_) | refine SNil.mk (fun _ => ?_) ?_ | refine K1.g ?_ | refine ASl.frz ?_ | refine Wr.b64 ?_ | refine Wr.bu64 ?_ | refine Wr.bu32 ?_ | refine Wr.bu8 ?_ | refine K1.u8 ?_ | refine K1.u64 ?_ | refine K1.u32 ?_ | refine K1.h ?_ | refine K1.i ?_ | refine K1.q ?_ | refine ADraw.sched (id := 4) lay_ok (awp_snd lay_ok _) [(0,none),(1,none),(2,none),(3,none),(4,none),(5,none),(6,some [1]),(7,none),(8,none),(9,none),(10,none),(11,none),(12,none),(13,none),(14,none),(15,none),(16,none),(17,none),(18,none),(19,none),(20,none),(21,none),(22,none),(23,none),(24,none),(25,none)] [(2,[1]),(3,[1]),(4,[1]),(5,[1]),(6,[1]),(7,[1]),(8,[1]),(9,[1]),(10,[1]),(11,[1]),(12,[1]),(13,[1]),(14,[1]),(15,[1]),(16,[1]),(17,[1]),(18,[1]),(19,[1]),(20,[1]),(21,[1]),(22,[1]),(23,[1]),(24,[1]),(25,[1])] follows_ok (by kernel_rfl) ?_ | refine ADraw.sched (id := 7) lay_ok (awp_snd lay_ok _) [(0,none),(1,none),(2,none),(3,none),(4,none),(5,none),(6,none),(7,none),(8,none),(9,some [2]),(10,none),(11,none)] [(3,[2]),(4,[2]),(5,[2]),(6,[2]),(7,[2]),(8,[2]),(9,[2]),(10,[2]),(11,[2])] follows_ok (by kernel_rfl) ?_ | refine K1.j ?_ | refine K1.k ?_ | refine BSpl.dec (fun _ => ?_) (fun _ => ?_) | refine K1.l ?_ | refine K1.n ?_ | refine BSpl.mk (fun _ => ?_) (fun _ => ?_))
       all_goals (conv => whnf)
       refine ⟨⟨t,hnext,by rw [List.length_cons] at htl; omega,fun e he => hN e (List.mem_cons_of_mem _ he)⟩,_,LeR.mk' [] _ _ _ rfl ⟨AEq.refl _,AEq.sl (by simp) (fun i _ => ?_),trivial⟩ ⟨⟨_,rfl,OEq.refl _⟩,⟨_,rfl,OEq.refl _⟩,trivial⟩ rfl,by simp⟩
       show evF (e :: t) (1 + i) = evF t i
       rw [Nat.add_comm]
       rfl
     · have hd : (e :: t).dropWhile (fun e => decide (e.n ≤ (⟨base,k⟩ : Shf).len)) = e :: t := List.dropWhile_cons_of_neg (by rw [decide_eq_true_eq]; exact hle)
       rw [hd,if_neg (by simp)] at hp
       by_cases hm : most < (k.length : Int) + ((e :: t).length : Int)
       · rw [if_pos hm] at hp
         obtain ⟨rfl,rfl⟩ := Prod.mk.inj hp
         repeat' ((conv => whnf); first | refine K1.a ?_ | refine K1.b ?_ | refine K1.c ?_ | refine K1.d ?_ | refine K1.e ?_ | refine K1.f ?_ | refine ACall.chgR 2 [(0,_),(1,_)] (hl) rfl ⟨rfl,rfl,trivial⟩ rfl rfl ?_ | refine Spl.mk (fun _ => ?_) (fun _ => ?_) | refine SNil.mk (fun _ => ?_) ?_ | refine K1.g ?_ | refine ASl.frz ?_ | refine Wr.b64 ?_ | refine Wr.bu64 ?_ | refine Wr.bu32 ?_ | refine Wr.bu8 ?_ | refine K1.u8 ?_ | refine K1.u64 ?_ | refine K1.u32 ?_ | refine K1.h ?_ | refine K1.i ?_ | refine K1.q ?_ | refine ADraw.sched (id := 4) lay_ok (awp_snd lay_ok _) [(0,none),(1,none),(2,none),(3,none),(4,none),(5,none),(6,some [1]),(7,none),(8,none),(9,none),(10,none),(11,none),(12,none),(13,none),(14,none),(15,none),(16,none),(17,none),(18,none),(19,none),(20,none),(21,none),(22,none),(23,none),(24,none),(25,none)] [(2,[1]),(3,[1]),(4,[1]),(5,[1]),(6,[1]),(7,[1]),(8,[1]),(9,[1]),(10,[1]),(11,[1]),(12,[1]),(13,[1]),(14,[1]),(15,[1]),(16,[1]),(17,[1]),(18,[1]),(19,[1]),(20,[1]),(21,[1]),(22,[1]),(23,[1]),(24,[1]),(25,[1])] follows_ok (by kernel_rfl) ?_ | refine ADraw.sched (id := 7) lay_ok (awp_snd lay_ok _) [(0,none),(1,none),(2,none),(3,none),(4,none),(5,none),(6,none),(7,none),(8,none),(9,some [2]),(10,none),(11,none)] [(3,[2]),(4,[2]),(5,[2]),(6,[2]),(7,[2]),(8,[2]),(9,[2]),(10,[2]),(11,[2])] follows_ok (by kernel_rfl) ?_ | refine K1.j ?_ | refine K1.k ?_ | refine BSpl.dec (fun _ => ?_) (fun _ => ?_) | refine K1.l ?_ | refine K1.n ?_ | refine BSpl.mk (fun _ => ?_) (fun _ => ?_))
         all_goals (conv => whnf)
         all_goals exact ⟨[(9,8)],rfl,rfl,⟨⟨_,rfl,OEq.refl _⟩,⟨_,rfl,OEq.refl _⟩,trivial⟩,rfl,rfl,AEq.refl _⟩
       · rw [if_neg hm] at hp
         obtain ⟨rfl,rfl⟩ := Prod.mk.inj hp
         repeat' ((conv => whnf); first | refine K1.a ?_ | refine K1.b ?_ | refine K1.c ?_ | refine K1.d ?_ | refine K1.e ?_ | refine K1.f ?_ | refine ACall.chgR 2 [(0,_),(1,_)] (hl) rfl ⟨rfl,rfl,trivial⟩ rfl rfl ?_ | refine AMk.full (by omega) rfl (by simp only; omega) (by omega) ?_ | refine ASl.part ?_ | refine Spl.mk (fun _ => ?_) (fun _ => ?_) | refine SNil.mk (fun _ => ?_) ?_ | refine K1.g ?_ | refine ASl.frz ?_ | refine Wr.b64 ?_ | refine Wr.bu64 ?_ | refine Wr.bu32 ?_ | refine Wr.bu8 ?_ | refine K1.u8 ?_ | refine K1.u64 ?_ | refine K1.u32 ?_ | refine K1.h ?_ | refine K1.i ?_ | refine K1.q ?_ | refine ADraw.sched (id := 4) lay_ok (awp_snd lay_ok _) [(0,none),(1,none),(2,none),(3,none),(4,none),(5,none),(6,some [1]),(7,none),(8,none),(9,none),(10,none),(11,none),(12,none),(13,none),(14,none),(15,none),(16,none),(17,none),(18,none),(19,none),(20,none),(21,none),(22,none),(23,none),(24,none),(25,none)] [(2,[1]),(3,[1]),(4,[1]),(5,[1]),(6,[1]),(7,[1]),(8,[1]),(9,[1]),(10,[1]),(11,[1]),(12,[1]),(13,[1]),(14,[1]),(15,[1]),(16,[1]),(17,[1]),(18,[1]),(19,[1]),(20,[1]),(21,[1]),(22,[1]),(23,[1]),(24,[1]),(25,[1])] follows_ok (by kernel_rfl) ?_ | refine ADraw.sched (id := 7) lay_ok (awp_snd lay_ok _) [(0,none),(1,none),(2,none),(3,none),(4,none),(5,none),(6,none),(7,none),(8,none),(9,some [2]),(10,none),(11,none)] [(3,[2]),(4,[2]),(5,[2]),(6,[2]),(7,[2]),(8,[2]),(9,[2]),(10,[2]),(11,[2])] follows_ok (by kernel_rfl) ?_ | refine K1.j ?_ | refine K1.k ?_ | refine BSpl.dec (fun _ => ?_) (fun _ => ?_) | refine K1.l ?_ | refine K1.n ?_ | refine BSpl.mk (fun _ => ?_) (fun _ => ?_))
         all_goals (conv => whnf)
         refine ⟨[(11,8)],rfl,rfl,⟨⟨_,rfl,OEq.refl _⟩,⟨_,rfl,OEq.row (by show ((k.length : Int) + ((e :: t).length : Int)).toNat = (k ++ e :: t).length; rw [List.length_append]; omega) (fun m hm => ?_)⟩,trivial⟩,rfl,rfl,AEq.refl _⟩
         refine (ovr_app (a := k.length) (b := (e :: t).length) (by have hm : m < ((k.length : Int) + ((e :: t).length : Int)).toNat := hm; omega)).trans ?_
         exact els_app (c := Ev.cs) (l := k) (l' := e :: t) rfl m
end Go.Proofs.Ytmldeejaghflnaa

/-
 The post (layer 16),told as a whole: the shelves,and what each replica told; what New makes.
-/
namespace Go.Proofs.Ytmldeejaghflnaa
open Go.RowKit
instance : Inhabited Clk := ⟨⟨0,0,0,0,0⟩⟩
def clC (c : Clk) : List AV := [.v (.int .i64 c.c0), .v (.int .i64 c.c1), .v (.int .i64 c.c2), .v (.int .i64 c.c3), .v (.int .i64 c.c4)]
abbrev clF (l : List Clk) : Nat → List AV := elsF clC l
structure Pt where
 (sh : List Shf) (told : List Clk)
def ptrs : Nat → List Shf → List AV
  | _,[] => []
  | i,_ :: l => .box i 0 :: ptrs (i + 1) l
def shs (most : Int) : Nat → List Shf → List (Nat × AO)
  | _,[] => []
  | i,s :: l => (i, .obs (shO most s)) :: shs most (i + 1) l
def ptB : AO := .box 94 [.own 10, .own 11]
def clRow (l : List Clk) : AO := .row 31 5 l.length true (clF l)
def ptH (most : Int) (p : Pt) (_ : Unit) : List (Nat × AO) := (0,ptB) :: (10, .rn (90 : Nat) (ptrs 20 p.sh)) :: (11,clRow p.told) :: shs most 20 p.sh
def ptO (most : Int) (p : Pt) : OB := OB.pack (ptH most p)
theorem pt_close (most : Int) (p : Pt) : Closes (ptH most p ()) 0 (ptO most p) := Closes.pack (ptH most p) () rfl fun _ hok => boxO_one (hok _ List.mem_cons_self)
def pt0 (n : Nat) : Pt := ⟨List.replicate n ⟨0,[]⟩,List.replicate n clk0⟩
structure Cfg where
 (n w q h l p : Int)
def Cfg.cs (c : Cfg) : List AV := [.v (.int .i64 c.n), .v (.int .i64 c.w), .v (.int .i64 c.q), .v (.int .i64 c.h), .v (.int .i64 c.l), .v (.int .i64 c.p)]
def Cfg.av (c : Cfg) : AV := .agg c.cs
theorem rep_clk {n m : Nat} (h : m < n) : clF (List.replicate n clk0) m = clC clk0 := by
 show clC ((List.replicate n clk0).getD m default) = _
 rw [List.getD_eq_getElem?_getD,List.getElem?_replicate,if_pos h]
 rfl
set_option maxHeartbeats 4000000 in
set_option maxRecDepth 100000 in
theorem pt_new_1 (w q h l p : Int) : MSpec Try.prog 35 [] [.agg [.v (.int .i64 1), .v (.int .i64 w), .v (.int .i64 q), .v (.int .i64 h), .v (.int .i64 l), .v (.int .i64 p)]] (.box 0 0) (ptH w (pt0 1) ()) := by
 dsimp only [ptH,pt0,List.replicate,ptB,clRow,ptrs,shs]
 refine mspec_of lay_ok 57375 40 Try.func35 rfl rfl rfl ?_
 repeat' ((conv => whnf); first | refine K1.a ?_ | refine K1.b ?_ | refine K1.c ?_ | refine K1.d ?_ | refine K1.e ?_ | refine K1.f ?_ | refine ACall.chgR 0 [] (sh_new_m _) rfl trivial rfl rfl ?_ | refine AMk.full (by decide) rfl (by decide) (by decide) ?_ | refine ALoop.unr 14 6 rfl ?_ | refine Spl.mk (fun _ => ?_) (fun _ => ?_) | refine SNil.mk (fun _ => ?_) ?_ | refine K1.g ?_ | refine ASl.frz ?_ | refine Wr.b64 ?_ | refine Wr.bu64 ?_ | refine Wr.bu32 ?_ | refine Wr.bu8 ?_ | refine K1.u8 ?_ | refine K1.u64 ?_ | refine K1.u32 ?_ | refine K1.h ?_ | refine K1.i ?_ | refine K1.q ?_ | refine ADraw.sched (id := 5) lay_ok (awp_snd lay_ok _) [(0,none),(1,none),(2,none),(3,none),(4,none),(5,none),(6,none),(7,some [6]),(8,some [6]),(9,some [6,4,2]),(10,none),(11,none),(12,some [6,4,2,10])] [(3,[2]),(4,[2]),(7,[6]),(8,[6]),(9,[6,4,2]),(10,[6,4,2]),(11,[6,4,2,10]),(12,[6,4,2,10])] follows_ok (by kernel_rfl) ?_ | refine K1.j ?_ | refine K1.k ?_ | refine BSpl.dec (fun _ => ?_) (fun _ => ?_) | refine K1.l ?_ | refine K1.n ?_ | refine BSpl.mk (fun _ => ?_) (fun _ => ?_))
 all_goals (conv => whnf)
 exact ⟨[(42,0),(45,10),(41,11),(43,20)],rfl,rfl,⟨⟨_,rfl,OEq.refl _⟩,⟨_,rfl,OEq.refl _⟩,⟨_,rfl,OEq.row rfl (fun m hm => (rep_clk (n := 1) hm).symm)⟩,⟨_,rfl,OEq.refl _⟩,trivial⟩,rfl,rfl,AEq.refl _⟩
set_option maxHeartbeats 4000000 in
set_option maxRecDepth 100000 in
theorem pt_new_2 (w q h l p : Int) : MSpec Try.prog 35 [] [.agg [.v (.int .i64 2), .v (.int .i64 w), .v (.int .i64 q), .v (.int .i64 h), .v (.int .i64 l), .v (.int .i64 p)]] (.box 0 0) (ptH w (pt0 2) ()) := by
 dsimp only [ptH,pt0,List.replicate,ptB,clRow,ptrs,shs]
 refine mspec_of lay_ok 57375 40 Try.func35 rfl rfl rfl ?_
 repeat' ((conv => whnf); first | refine K1.a ?_ | refine K1.b ?_ | refine K1.c ?_ | refine K1.d ?_ | refine K1.e ?_ | refine K1.f ?_ | refine ACall.chgR 0 [] (sh_new_m _) rfl trivial rfl rfl ?_ | refine AMk.full (by decide) rfl (by decide) (by decide) ?_ | refine ALoop.unr 14 6 rfl ?_ | refine Spl.mk (fun _ => ?_) (fun _ => ?_) | refine SNil.mk (fun _ => ?_) ?_ | refine K1.g ?_ | refine ASl.frz ?_ | refine Wr.b64 ?_ | refine Wr.bu64 ?_ | refine Wr.bu32 ?_ | refine Wr.bu8 ?_ | refine K1.u8 ?_ | refine K1.u64 ?_ | refine K1.u32 ?_ | refine K1.h ?_ | refine K1.i ?_ | refine K1.q ?_ | refine ADraw.sched (id := 5) lay_ok (awp_snd lay_ok _) [(0,none),(1,none),(2,none),(3,none),(4,none),(5,none),(6,none),(7,some [6]),(8,some [6]),(9,some [6,4,2]),(10,none),(11,none),(12,some [6,4,2,10])] [(3,[2]),(4,[2]),(7,[6]),(8,[6]),(9,[6,4,2]),(10,[6,4,2]),(11,[6,4,2,10]),(12,[6,4,2,10])] follows_ok (by kernel_rfl) ?_ | refine K1.j ?_ | refine K1.k ?_ | refine BSpl.dec (fun _ => ?_) (fun _ => ?_) | refine K1.l ?_ | refine K1.n ?_ | refine BSpl.mk (fun _ => ?_) (fun _ => ?_))
 all_goals (conv => whnf)
 exact ⟨[(42,0),(48,10),(41,11),(43,20),(46,21)],rfl,rfl,⟨⟨_,rfl,OEq.refl _⟩,⟨_,rfl,OEq.refl _⟩,⟨_,rfl,OEq.row rfl (fun m hm => (rep_clk (n := 2) hm).symm)⟩,⟨_,rfl,OEq.refl _⟩,⟨_,rfl,OEq.refl _⟩,trivial⟩,rfl,rfl,AEq.refl _⟩
set_option maxHeartbeats 4000000 in
set_option maxRecDepth 100000 in
theorem pt_new_3 (w q h l p : Int) : MSpec Try.prog 35 [] [.agg [.v (.int .i64 3), .v (.int .i64 w), .v (.int .i64 q), .v (.int .i64 h), .v (.int .i64 l), .v (.int .i64 p)]] (.box 0 0) (ptH w (pt0 3) ()) := by
 dsimp only [ptH,pt0,List.replicate,ptB,clRow,ptrs,shs]
 refine mspec_of lay_ok 57375 40 Try.func35 rfl rfl rfl ?_
 repeat' ((conv => whnf); first | refine K1.a ?_ | refine K1.b ?_ | refine K1.c ?_ | refine K1.d ?_ | refine K1.e ?_ | refine K1.f ?_ | refine ACall.chgR 0 [] (sh_new_m _) rfl trivial rfl rfl ?_ | refine AMk.full (by decide) rfl (by decide) (by decide) ?_ | refine ALoop.unr 14 6 rfl ?_ | refine Spl.mk (fun _ => ?_) (fun _ => ?_) | refine SNil.mk (fun _ => ?_) ?_ | refine K1.g ?_ | refine ASl.frz ?_ | refine Wr.b64 ?_ | refine Wr.bu64 ?_ | refine Wr.bu32 ?_ | refine Wr.bu8 ?_ | refine K1.u8 ?_ | refine K1.u64 ?_ | refine K1.u32 ?_ | refine K1.h ?_ | refine K1.i ?_ | refine K1.q ?_ | refine ADraw.sched (id := 5) lay_ok (awp_snd lay_ok _) [(0,none),(1,none),(2,none),(3,none),(4,none),(5,none),(6,none),(7,some [6]),(8,some [6]),(9,some [6,4,2]),(10,none),(11,none),(12,some [6,4,2,10])] [(3,[2]),(4,[2]),(7,[6]),(8,[6]),(9,[6,4,2]),(10,[6,4,2]),(11,[6,4,2,10]),(12,[6,4,2,10])] follows_ok (by kernel_rfl) ?_ | refine K1.j ?_ | refine K1.k ?_ | refine BSpl.dec (fun _ => ?_) (fun _ => ?_) | refine K1.l ?_ | refine K1.n ?_ | refine BSpl.mk (fun _ => ?_) (fun _ => ?_))
 all_goals (conv => whnf)
 exact ⟨[(42,0),(51,10),(41,11),(43,20),(46,21),(49,22)],rfl,rfl,⟨⟨_,rfl,OEq.refl _⟩,⟨_,rfl,OEq.refl _⟩,⟨_,rfl,OEq.row rfl (fun m hm => (rep_clk (n := 3) hm).symm)⟩,⟨_,rfl,OEq.refl _⟩,⟨_,rfl,OEq.refl _⟩,⟨_,rfl,OEq.refl _⟩,trivial⟩,rfl,rfl,AEq.refl _⟩
set_option maxHeartbeats 4000000 in
set_option maxRecDepth 100000 in
theorem pt_new_4 (w q h l p : Int) : MSpec Try.prog 35 [] [.agg [.v (.int .i64 4), .v (.int .i64 w), .v (.int .i64 q), .v (.int .i64 h), .v (.int .i64 l), .v (.int .i64 p)]] (.box 0 0) (ptH w (pt0 4) ()) := by
 dsimp only [ptH,pt0,List.replicate,ptB,clRow,ptrs,shs]
 refine mspec_of lay_ok 57375 40 Try.func35 rfl rfl rfl ?_
 repeat' ((conv => whnf); first | refine K1.a ?_ | refine K1.b ?_ | refine K1.c ?_ | refine K1.d ?_ | refine K1.e ?_ | refine K1.f ?_ | refine ACall.chgR 0 [] (sh_new_m _) rfl trivial rfl rfl ?_ | refine AMk.full (by decide) rfl (by decide) (by decide) ?_ | refine ALoop.unr 14 6 rfl ?_ | refine Spl.mk (fun _ => ?_) (fun _ => ?_) | refine SNil.mk (fun _ => ?_) ?_ | refine K1.g ?_ | refine ASl.frz ?_ | refine Wr.b64 ?_ | refine Wr.bu64 ?_ | refine Wr.bu32 ?_ | refine Wr.bu8 ?_ | refine K1.u8 ?_ | refine K1.u64 ?_ | refine K1.u32 ?_ | refine K1.h ?_ | refine K1.i ?_ | refine K1.q ?_ | refine ADraw.sched (id := 5) lay_ok (awp_snd lay_ok _) [(0,none),(1,none),(2,none),(3,none),(4,none),(5,none),(6,none),(7,some [6]),(8,some [6]),(9,some [6,4,2]),(10,none),(11,none),(12,some [6,4,2,10])] [(3,[2]),(4,[2]),(7,[6]),(8,[6]),(9,[6,4,2]),(10,[6,4,2]),(11,[6,4,2,10]),(12,[6,4,2,10])] follows_ok (by kernel_rfl) ?_ | refine K1.j ?_ | refine K1.k ?_ | refine BSpl.dec (fun _ => ?_) (fun _ => ?_) | refine K1.l ?_ | refine K1.n ?_ | refine BSpl.mk (fun _ => ?_) (fun _ => ?_))
 all_goals (conv => whnf)
 exact ⟨[(42,0),(54,10),(41,11),(43,20),(46,21),(49,22),(52,23)],rfl,rfl,⟨⟨_,rfl,OEq.refl _⟩,⟨_,rfl,OEq.refl _⟩,⟨_,rfl,OEq.row rfl (fun m hm => (rep_clk (n := 4) hm).symm)⟩,⟨_,rfl,OEq.refl _⟩,⟨_,rfl,OEq.refl _⟩,⟨_,rfl,OEq.refl _⟩,⟨_,rfl,OEq.refl _⟩,trivial⟩,rfl,rfl,AEq.refl _⟩
set_option maxHeartbeats 4000000 in
set_option maxRecDepth 100000 in
theorem pt_new_5 (w q h l p : Int) : MSpec Try.prog 35 [] [.agg [.v (.int .i64 5), .v (.int .i64 w), .v (.int .i64 q), .v (.int .i64 h), .v (.int .i64 l), .v (.int .i64 p)]] (.box 0 0) (ptH w (pt0 5) ()) := by
 dsimp only [ptH,pt0,List.replicate,ptB,clRow,ptrs,shs]
 refine mspec_of lay_ok 57375 40 Try.func35 rfl rfl rfl ?_
 repeat' ((conv => whnf); first | refine K1.a ?_ | refine K1.b ?_ | refine K1.c ?_ | refine K1.d ?_ | refine K1.e ?_ | refine K1.f ?_ | refine ACall.chgR 0 [] (sh_new_m _) rfl trivial rfl rfl ?_ | refine AMk.full (by decide) rfl (by decide) (by decide) ?_ | refine ALoop.unr 14 6 rfl ?_ | refine Spl.mk (fun _ => ?_) (fun _ => ?_) | refine SNil.mk (fun _ => ?_) ?_ | refine K1.g ?_ | refine ASl.frz ?_ | refine Wr.b64 ?_ | refine Wr.bu64 ?_ | refine Wr.bu32 ?_ | refine Wr.bu8 ?_ | refine K1.u8 ?_ | refine K1.u64 ?_ | refine K1.u32 ?_ | refine K1.h ?_ | refine K1.i ?_ | refine K1.q ?_ | refine ADraw.sched (id := 5) lay_ok (awp_snd lay_ok _) [(0,none),(1,none),(2,none),(3,none),(4,none),(5,none),(6,none),(7,some [6]),(8,some [6]),(9,some [6,4,2]),(10,none),(11,none),(12,some [6,4,2,10])] [(3,[2]),(4,[2]),(7,[6]),(8,[6]),(9,[6,4,2]),(10,[6,4,2]),(11,[6,4,2,10]),(12,[6,4,2,10])] follows_ok (by kernel_rfl) ?_ | refine K1.j ?_ | refine K1.k ?_ | refine BSpl.dec (fun _ => ?_) (fun _ => ?_) | refine K1.l ?_ | refine K1.n ?_ | refine BSpl.mk (fun _ => ?_) (fun _ => ?_))
 all_goals (conv => whnf)
 exact ⟨[(42,0),(57,10),(41,11),(43,20),(46,21),(49,22),(52,23),(55,24)],rfl,rfl,⟨⟨_,rfl,OEq.refl _⟩,⟨_,rfl,OEq.refl _⟩,⟨_,rfl,OEq.row rfl (fun m hm => (rep_clk (n := 5) hm).symm)⟩,⟨_,rfl,OEq.refl _⟩,⟨_,rfl,OEq.refl _⟩,⟨_,rfl,OEq.refl _⟩,⟨_,rfl,OEq.refl _⟩,⟨_,rfl,OEq.refl _⟩,trivial⟩,rfl,rfl,AEq.refl _⟩
theorem pt_new_m (c : Cfg) (n : Nat) (hn : c.n = (n : Int)) (h1 : 1 ≤ n) (h5 : n ≤ 5) : MSpec Try.prog 35 [] [c.av] (.box 0 0) [(0, .obs (ptO c.w (pt0 n)))] := by
 refine MSpec.cls (hs' := ptH c.w (pt0 n) ()) (ho := []) (pt_close _ _) ?_ rfl
 obtain ⟨cn,w,q,h,l,p⟩ := c
 dsimp only at hn ⊢
 subst hn
 rw [List.append_nil]
 rcases (show n = 1 ∨ n = 2 ∨ n = 3 ∨ n = 4 ∨ n = 5 by omega) with rfl | rfl | rfl | rfl | rfl
 · exact pt_new_1 w q h l p
 · exact pt_new_2 w q h l p
 · exact pt_new_3 w q h l p
 · exact pt_new_4 w q h l p
 · exact pt_new_5 w q h l p
end Go.Proofs.Ytmldeejaghflnaa

/-
 The post: how it stands (Site).
-/
namespace Go.Proofs.Ytmldeejaghflnaa
open Go.RowKit
structure ShB (s : Shf) : Prop where
 b0 : 0 ≤ s.base
 ln : s.base + (s.kept.length : Int) ≤ 1048576
theorem ShB.b1 {s : Shf} (h : ShB s) : s.base ≤ 1000000000000 := by have := h.b0; have := h.ln; omega
theorem ShB.k {s : Shf} (h : ShB s) : s.kept.length ≤ 1048576 := by have := h.b0; have := h.ln; omega
structure PtB (p : Pt) : Prop where
 h1 : 1 ≤ p.sh.length
 h5 : p.sh.length ≤ 5
 t : p.told.length = p.sh.length
 s : ∀ s ∈ p.sh,ShB s
def nums (l : List Int) : List AV := [.v (.int .i64 (l.getD 0 0)), .v (.int .i64 (l.getD 1 0)), .v (.int .i64 (l.getD 2 0)), .v (.int .i64 (l.getD 3 0)), .v (.int .i64 (l.getD 4 0))]
def Pt.site (p : Pt) : List AV := .v (.bool true) :: (nums (p.sh.map Shf.base) ++ (nums (p.sh.map Shf.len) ++ (clC (p.told.getD 0 clk0) ++ (clC (p.told.getD 1 clk0) ++ (clC (p.told.getD 2 clk0) ++ (clC (p.told.getD 3 clk0) ++ clC (p.told.getD 4 clk0)))))))
theorem pt_opn {f : FuncId} {most : Int} {p p' : Pt} {avs : List AV} {r : AV} {ho : List (Nat × AO)} (hE : Enters Try.prog f) (h : MSpec Try.prog f (ptH most p ()) avs r (ptH most p' () ++ ho))
  (hb : (avs.all (refQ1 (fun _ => false) 0) && refQ2 (fun i => hasN i ho) 0 r && closedH ho ho && !(hasN 0 ho)) = true) : MSpec Try.prog f [(0, .obs (ptO most p))] avs r ((0, .obs (ptO most p')) :: ho) :=
 MSpec.opn hE (Opens.pack (ptH most p)) (fun _ => ⟨_,pt_close most p',rfl,rfl,h⟩) hb
theorem Pt.cases {C : Pt → Prop} (p : Pt) (hp : PtB p) (h1 : ∀ s0 t0,ShB s0 → C ⟨[s0],[t0]⟩) (h2 : ∀ s0 s1 t0 t1,ShB s0 → ShB s1 → C ⟨[s0,s1],[t0,t1]⟩)
  (h3 : ∀ s0 s1 s2 t0 t1 t2,ShB s0 → ShB s1 → ShB s2 → C ⟨[s0,s1,s2],[t0,t1,t2]⟩) (h4 : ∀ s0 s1 s2 s3 t0 t1 t2 t3,ShB s0 → ShB s1 → ShB s2 → ShB s3 → C ⟨[s0,s1,s2,s3],[t0,t1,t2,t3]⟩)
  (h5 : ∀ s0 s1 s2 s3 s4 t0 t1 t2 t3 t4,ShB s0 → ShB s1 → ShB s2 → ShB s3 → ShB s4 → C ⟨[s0,s1,s2,s3,s4],[t0,t1,t2,t3,t4]⟩) : C p := by
 obtain ⟨sh,told⟩ := p
 obtain ⟨a1,a5,at',as'⟩ := hp
 dsimp only at a1 a5 at' as'
 rcases sh with _ | ⟨s0,_ | ⟨s1,_ | ⟨s2,_ | ⟨s3,_ | ⟨s4,_ | ⟨s5,sh⟩⟩⟩⟩⟩⟩
 · simp at a1
 · rcases told with _ | ⟨t0,_ | ⟨t1,told⟩⟩
   · simp at at'
   · exact h1 s0 t0 (as' _ (by simp))
   · simp at at'
 · rcases told with _ | ⟨t0,_ | ⟨t1,_ | ⟨t2,told⟩⟩⟩
   · simp at at'
   · simp at at'
   · exact h2 s0 s1 t0 t1 (as' _ (by simp)) (as' _ (by simp))
   · simp at at'
 · rcases told with _ | ⟨t0,_ | ⟨t1,_ | ⟨t2,_ | ⟨t3,told⟩⟩⟩⟩
   · simp at at'
   · simp at at'
   · simp at at'
   · exact h3 s0 s1 s2 t0 t1 t2 (as' _ (by simp)) (as' _ (by simp)) (as' _ (by simp))
   · simp at at'
 · rcases told with _ | ⟨t0,_ | ⟨t1,_ | ⟨t2,_ | ⟨t3,_ | ⟨t4,told⟩⟩⟩⟩⟩
   · simp at at'
   · simp at at'
   · simp at at'
   · simp at at'
   · exact h4 s0 s1 s2 s3 t0 t1 t2 t3 (as' _ (by simp)) (as' _ (by simp)) (as' _ (by simp)) (as' _ (by simp))
   · simp at at'
 · rcases told with _ | ⟨t0,_ | ⟨t1,_ | ⟨t2,_ | ⟨t3,_ | ⟨t4,_ | ⟨t5,told⟩⟩⟩⟩⟩⟩
   · simp at at'
   · simp at at'
   · simp at at'
   · simp at at'
   · simp at at'
   · exact h5 s0 s1 s2 s3 s4 t0 t1 t2 t3 t4 (as' _ (by simp)) (as' _ (by simp)) (as' _ (by simp)) (as' _ (by simp)) (as' _ (by simp))
   · simp at at'
 · simp at a5
instance : Inhabited Shf := ⟨⟨0,[]⟩⟩
theorem Pt.casesR {C : Pt → Nat → Prop} (p : Pt) (r : Nat) (hp : PtB p) (hr : r < p.sh.length)
  (h10 : ∀ s0 t0,ShB s0 → C ⟨[s0],[t0]⟩ 0)
  (h20 : ∀ s0 s1 t0 t1,ShB s0 → ShB s1 → C ⟨[s0,s1],[t0,t1]⟩ 0)
  (h21 : ∀ s0 s1 t0 t1,ShB s0 → ShB s1 → C ⟨[s0,s1],[t0,t1]⟩ 1)
  (h30 : ∀ s0 s1 s2 t0 t1 t2,ShB s0 → ShB s1 → ShB s2 → C ⟨[s0,s1,s2],[t0,t1,t2]⟩ 0)
  (h31 : ∀ s0 s1 s2 t0 t1 t2,ShB s0 → ShB s1 → ShB s2 → C ⟨[s0,s1,s2],[t0,t1,t2]⟩ 1)
  (h32 : ∀ s0 s1 s2 t0 t1 t2,ShB s0 → ShB s1 → ShB s2 → C ⟨[s0,s1,s2],[t0,t1,t2]⟩ 2)
  (h40 : ∀ s0 s1 s2 s3 t0 t1 t2 t3,ShB s0 → ShB s1 → ShB s2 → ShB s3 → C ⟨[s0,s1,s2,s3],[t0,t1,t2,t3]⟩ 0)
  (h41 : ∀ s0 s1 s2 s3 t0 t1 t2 t3,ShB s0 → ShB s1 → ShB s2 → ShB s3 → C ⟨[s0,s1,s2,s3],[t0,t1,t2,t3]⟩ 1)
  (h42 : ∀ s0 s1 s2 s3 t0 t1 t2 t3,ShB s0 → ShB s1 → ShB s2 → ShB s3 → C ⟨[s0,s1,s2,s3],[t0,t1,t2,t3]⟩ 2)
  (h43 : ∀ s0 s1 s2 s3 t0 t1 t2 t3,ShB s0 → ShB s1 → ShB s2 → ShB s3 → C ⟨[s0,s1,s2,s3],[t0,t1,t2,t3]⟩ 3)
  (h50 : ∀ s0 s1 s2 s3 s4 t0 t1 t2 t3 t4,ShB s0 → ShB s1 → ShB s2 → ShB s3 → ShB s4 → C ⟨[s0,s1,s2,s3,s4],[t0,t1,t2,t3,t4]⟩ 0)
  (h51 : ∀ s0 s1 s2 s3 s4 t0 t1 t2 t3 t4,ShB s0 → ShB s1 → ShB s2 → ShB s3 → ShB s4 → C ⟨[s0,s1,s2,s3,s4],[t0,t1,t2,t3,t4]⟩ 1)
  (h52 : ∀ s0 s1 s2 s3 s4 t0 t1 t2 t3 t4,ShB s0 → ShB s1 → ShB s2 → ShB s3 → ShB s4 → C ⟨[s0,s1,s2,s3,s4],[t0,t1,t2,t3,t4]⟩ 2)
  (h53 : ∀ s0 s1 s2 s3 s4 t0 t1 t2 t3 t4,ShB s0 → ShB s1 → ShB s2 → ShB s3 → ShB s4 → C ⟨[s0,s1,s2,s3,s4],[t0,t1,t2,t3,t4]⟩ 3)
  (h54 : ∀ s0 s1 s2 s3 s4 t0 t1 t2 t3 t4,ShB s0 → ShB s1 → ShB s2 → ShB s3 → ShB s4 → C ⟨[s0,s1,s2,s3,s4],[t0,t1,t2,t3,t4]⟩ 4) : C p r := by
 refine Pt.cases (C := fun p => r < p.sh.length → C p r) p hp ?_ ?_ ?_ ?_ ?_ hr
 · intro s0 t0 g0 hr
   rcases (show r = 0 by simp at hr; omega) with rfl
   · exact h10 s0 t0 g0
 · intro s0 s1 t0 t1 g0 g1 hr
   rcases (show r = 0 ∨ r = 1 by simp at hr; omega) with rfl | rfl
   · exact h20 s0 s1 t0 t1 g0 g1
   · exact h21 s0 s1 t0 t1 g0 g1
 · intro s0 s1 s2 t0 t1 t2 g0 g1 g2 hr
   rcases (show r = 0 ∨ r = 1 ∨ r = 2 by simp at hr; omega) with rfl | rfl | rfl
   · exact h30 s0 s1 s2 t0 t1 t2 g0 g1 g2
   · exact h31 s0 s1 s2 t0 t1 t2 g0 g1 g2
   · exact h32 s0 s1 s2 t0 t1 t2 g0 g1 g2
 · intro s0 s1 s2 s3 t0 t1 t2 t3 g0 g1 g2 g3 hr
   rcases (show r = 0 ∨ r = 1 ∨ r = 2 ∨ r = 3 by simp at hr; omega) with rfl | rfl | rfl | rfl
   · exact h40 s0 s1 s2 s3 t0 t1 t2 t3 g0 g1 g2 g3
   · exact h41 s0 s1 s2 s3 t0 t1 t2 t3 g0 g1 g2 g3
   · exact h42 s0 s1 s2 s3 t0 t1 t2 t3 g0 g1 g2 g3
   · exact h43 s0 s1 s2 s3 t0 t1 t2 t3 g0 g1 g2 g3
 · intro s0 s1 s2 s3 s4 t0 t1 t2 t3 t4 g0 g1 g2 g3 g4 hr
   rcases (show r = 0 ∨ r = 1 ∨ r = 2 ∨ r = 3 ∨ r = 4 by simp at hr; omega) with rfl | rfl | rfl | rfl | rfl
   · exact h50 s0 s1 s2 s3 s4 t0 t1 t2 t3 t4 g0 g1 g2 g3 g4
   · exact h51 s0 s1 s2 s3 s4 t0 t1 t2 t3 t4 g0 g1 g2 g3 g4
   · exact h52 s0 s1 s2 s3 s4 t0 t1 t2 t3 t4 g0 g1 g2 g3 g4
   · exact h53 s0 s1 s2 s3 s4 t0 t1 t2 t3 t4 g0 g1 g2 g3 g4
   · exact h54 s0 s1 s2 s3 s4 t0 t1 t2 t3 t4 g0 g1 g2 g3 g4
theorem sh_len_b (most : Int) (s : Shf) (h : ShB s) : MSpec Try.prog 42 [(0, .obs (shO most s))] [.box 0 0] (.v (.int .i64 s.len)) [(0, .obs (shO most s))] := sh_len_m most s h.b0 h.b1 h.k
set_option maxHeartbeats 4000000 in
set_option maxRecDepth 100000 in
theorem pt_site_m (most : Int) (p : Pt) (hp : PtB p) : MSpec Try.prog 21 [(0, .obs (ptO most p))] [.box 0 0] (.agg p.site) [(0, .obs (ptO most p))] := by
 refine pt_opn (ho := []) ⟨_,_,Try.func21,rfl,rfl⟩ ?_ rfl
 rw [List.append_nil]
 refine Pt.cases (C := fun p => MSpec Try.prog 21 (ptH most p ()) [.box 0 0] (.agg p.site) (ptH most p ())) p hp ?_ ?_ ?_ ?_ ?_
 all_goals
  intros
  dsimp only [ptH,ptB,clRow,ptrs,shs]
  refine mspec_of lay_ok 13 40 Try.func21 rfl rfl rfl ?_
  repeat' ((conv => whnf); first | refine K1.a ?_ | refine K1.b ?_ | refine K1.c ?_ | refine K1.d ?_ | refine K1.e ?_ | refine K1.f ?_ | refine ACall.chgR 1 [(0,_)] (sh_len_b _ _ (by assumption)) rfl ⟨rfl,trivial⟩ rfl rfl ?_ | refine ACall.chgR 1 [(0,_)] (sh_base_m _ _) rfl ⟨rfl,trivial⟩ rfl rfl ?_ | refine ACall.into 30963 _ _ Try.func40 rfl rfl rfl ?_ | refine ALoop.unr 13 6 rfl ?_ | refine ASl.part ?_ | refine InA.mk (by decide) ?_ | refine Spl.yes (by decide) ?_ | refine Spl.no (by decide) ?_ | refine Spl.mk (fun _ => ?_) (fun _ => ?_) | refine SNil.mk (fun _ => ?_) ?_ | refine K1.g ?_ | refine ASl.frz ?_ | refine Wr.b64 ?_ | refine Wr.bu64 ?_ | refine Wr.bu32 ?_ | refine Wr.bu8 ?_ | refine K1.u8 ?_ | refine K1.u64 ?_ | refine K1.u32 ?_ | refine K1.h ?_ | refine K1.i ?_ | refine K1.q ?_ | refine ADraw.sched (id := 2) lay_ok (awp_snd lay_ok _) [(0,none),(1,none),(2,none),(3,none),(4,none),(5,none),(6,some [5,3])] [(4,[3]),(5,[3]),(6,[5,3])] follows_ok (by kernel_rfl) ?_ | refine K1.j ?_ | refine K1.k ?_ | refine BSpl.dec (fun _ => ?_) (fun _ => ?_) | refine K1.l ?_ | refine K1.n ?_ | refine BSpl.mk (fun _ => ?_) (fun _ => ?_))
  all_goals (conv => whnf)
  refine ⟨[],rfl,rfl,?_,rfl,rfl,AEq.refl _⟩
  repeat' first | exact trivial | refine ⟨⟨_,rfl,OEq.refl _⟩,?_⟩
end Go.Proofs.Ytmldeejaghflnaa
