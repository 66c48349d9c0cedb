/-
  Contracts of the walk: Mk2, Ps1, Ap1, BkLp, Ps2.
-/
import Derived.Test.YtkkpfjifkjbndaaGreatLBnd10
import Derived.Test.YtkkpfjifkjbndaaGreatLBnd9
import Derived.Test.YtkkpfjifkjbndaaGreatLBnd8
/-
 Makers of pasts: kithref08.Make.
-/
namespace Go.Proofs.YtkkpfjifkjbndaaGreat
open Go.RowKit
def setC (H : Nat → Clk) (r : Nat) (c : Clk) : Nat → Clk := fun i => bif Nat.beq i r then c else H i
def Clk.inc (c : Clk) : Nat → Clk
  | 0 => ⟨c.c0 + 1,c.c1,c.c2,c.c3,c.c4⟩
  | 1 => ⟨c.c0,c.c1 + 1,c.c2,c.c3,c.c4⟩
  | 2 => ⟨c.c0,c.c1,c.c2 + 1,c.c3,c.c4⟩
  | 3 => ⟨c.c0,c.c1,c.c2,c.c3 + 1,c.c4⟩
  | _ => ⟨c.c0,c.c1,c.c2,c.c3,c.c4 + 1⟩
def Clk.at (c : Clk) : Nat → Int
  | 0 => c.c0
  | 1 => c.c1
  | 2 => c.c2
  | 3 => c.c3
  | _ => c.c4
abbrev Mk := List Ev × (Nat → Clk)
def Ch0.ed (c : Ch0) : Ed := ⟨c.k,c.key,c.l,c.v⟩
def mkEvt (out : List Ev) (H : Nat → Clk) (r : Nat) (x : Ed) : Ev := ⟨(r : Int),(H r).at r + 1,H r,hgt out (H r),x.k,x.key,x.l,x.v⟩
def mkSync (s : Mk) (r f : Nat) : Mk := (s.1,setC s.2 r ((s.2 r).join (s.2 f)))
def mkEdit (s : Mk) (r : Nat) (x : Ed) : Mk := (s.1 ++ [mkEvt s.1 s.2 r x],setC s.2 r ((s.2 r).inc r))
def mkStep (s : Mk) (c : Ch0) : Mk :=
 if c.sy = true then mkSync s (c.r % 5).toNat (c.f % 5).toNat else mkEdit s (c.r % 5).toNat (fitEd c.ed)
def clk0 : Clk := ⟨0,0,0,0,0⟩
def mkS (l : List Ch0) : Mk := l.foldl mkStep ([],fun _ => clk0)
def makeL (l : List Ch0) : List Ev := (mkS l).1
def Clk.in (c : Clk) (M : Int) : Prop := (0 ≤ c.c0 ∧ c.c0 ≤ M) ∧ (0 ≤ c.c1 ∧ c.c1 ≤ M) ∧ (0 ≤ c.c2 ∧ c.c2 ≤ M) ∧ (0 ≤ c.c3 ∧ c.c3 ≤ M) ∧ (0 ≤ c.c4 ∧ c.c4 ≤ M)
def MkB (s : Mk) (n : Nat) : Prop := (∀ q,(s.2 q).in n) ∧ (∀ e ∈ s.1,0 ≤ e.h ∧ e.h ≤ (n : Int)) ∧ s.1.length ≤ n
theorem Clk.in.mono {c : Clk} {M N : Int} (h : c.in M) (hMN : M ≤ N) : c.in N := by unfold Clk.in at *; omega
theorem Clk.in.join {a b : Clk} {M : Int} (ha : a.in M) (hb : b.in M) : (a.join b).in M := by
 unfold Clk.in at *
 unfold Clk.join mxI
 simp only
 refine ⟨?_,?_,?_,?_,?_⟩ <;> split <;> omega
theorem Clk.in.inc {a : Clk} {M : Int} (ha : a.in M) : ∀ r,(a.inc r).in (M + 1)
  | 0 => by unfold Clk.in Clk.inc at *; simp only; omega
  | 1 => by unfold Clk.in Clk.inc at *; simp only; omega
  | 2 => by unfold Clk.in Clk.inc at *; simp only; omega
  | 3 => by unfold Clk.in Clk.inc at *; simp only; omega
  | _ + 4 => by unfold Clk.in Clk.inc at *; simp only; omega
theorem setC_all {P : Clk → Prop} {H : Nat → Clk} {r : Nat} {c : Clk} (h : ∀ q,P (H q)) (hc : P c) (q : Nat) : P (setC H r c q) := by
 unfold setC
 cases Nat.beq q r with
 | true => exact hc
 | false => exact h q
theorem MkB.step {s : Mk} {n : Nat} (h : MkB s n) (c : Ch0) : MkB (mkStep s c) (n + 1) := by
 obtain ⟨h1,h2,h3⟩ := h
 have h1' : ∀ q,(s.2 q).in ((n + 1 : Nat) : Int) := fun q => (h1 q).mono (by omega)
 unfold mkStep
 split
 · exact ⟨fun q => setC_all (P := fun c => c.in ((n + 1 : Nat) : Int)) h1' ((h1' _).join (h1' _)) q,fun e he => by have := h2 e he; omega,by show s.1.length ≤ _; omega⟩
 · refine ⟨fun q => setC_all (P := fun c => c.in ((n + 1 : Nat) : Int)) h1' ?_ q,fun e he => ?_,?_⟩
   · have := (h1 (c.r % 5).toNat).inc (c.r % 5).toNat
     exact this.mono (by omega)
   · rcases List.mem_append.1 he with he | he
     · have := h2 e he
       omega
     · rw [List.mem_singleton.1 he]
       have := hgt_bnd (c := s.2 (c.r % 5).toNat) (M := n) (by omega) h2
       show 0 ≤ hgt s.1 (s.2 (c.r % 5).toNat) ∧ hgt s.1 (s.2 (c.r % 5).toNat) ≤ ((n + 1 : Nat) : Int)
       omega
   · show (s.1 ++ [_]).length ≤ _
     rw [List.length_append,List.length_singleton]
     omega
theorem mkB_fold : ∀ (l : List Ch0) (s : Mk) (n : Nat),MkB s n → MkB (l.foldl mkStep s) (n + l.length)
  | [],_,_,h => h
  | c :: l,s,n,h => by
   have := mkB_fold l (mkStep s c) (n + 1) (h.step c)
   rw [List.foldl_cons,List.length_cons,show n + (l.length + 1) = n + 1 + l.length by omega]
   exact this
theorem mkB_of (l : List Ch0) : MkB (mkS l) l.length := by
 have := mkB_fold l ([],fun _ => clk0) 0 ⟨fun q => by simp [Clk.in,clk0],fun e he => (by cases he),by simp⟩
 rwa [Nat.zero_add] at this
abbrev haveV (H : Nat → Clk) : List AV := [.v (.int .i64 (H 0).c0), .v (.int .i64 (H 0).c1), .v (.int .i64 (H 0).c2), .v (.int .i64 (H 0).c3), .v (.int .i64 (H 0).c4),
 .v (.int .i64 (H 1).c0), .v (.int .i64 (H 1).c1), .v (.int .i64 (H 1).c2), .v (.int .i64 (H 1).c3), .v (.int .i64 (H 1).c4),
 .v (.int .i64 (H 2).c0), .v (.int .i64 (H 2).c1), .v (.int .i64 (H 2).c2), .v (.int .i64 (H 2).c3), .v (.int .i64 (H 2).c4),
 .v (.int .i64 (H 3).c0), .v (.int .i64 (H 3).c1), .v (.int .i64 (H 3).c2), .v (.int .i64 (H 3).c3), .v (.int .i64 (H 3).c4),
 .v (.int .i64 (H 4).c0), .v (.int .i64 (H 4).c1), .v (.int .i64 (H 4).c2), .v (.int .i64 (H 4).c3), .v (.int .i64 (H 4).c4)]
abbrev MkI (l : List Ch0) : Type := { x : Nat × Mk // x.1 ≤ l.length ∧ mkS (l.take x.1) = x.2 }
theorem mk_next {l : List Ch0} {j : Nat} {s : Mk} (hj : j < l.length) (hs : mkS (l.take j) = s) : mkS (l.take (j + 1)) = mkStep s (l.getD (j : Int).toNat default) := by
 rw [← hs]
 exact fold_take hj
theorem get_in {α : Type} {l : List α} {j : Nat} {d : α} (h : j < l.length) : l.getD (j : Int).toNat d ∈ l := by
 rw [Int.toNat_natCast,List.getD,List.getElem?_eq_getElem h]
 exact List.getElem_mem h
theorem len_app1 {α : Type} {l : List α} {x : α} : l.length + 1 = (l ++ [x]).length := by rw [List.length_append,List.length_singleton]
theorem int_five {x : Int} (_h : 0 ≤ x) : x % 5 = 0 ∨ x % 5 = 1 ∨ x % 5 = 2 ∨ x % 5 = 3 ∨ x % 5 = 4 := by omega
set_option maxHeartbeats 16000000 in
set_option maxRecDepth 100000 in
theorem make_spec (l : List Ch0) (hl : l.length ≤ 100000) (hr : ∀ c ∈ l,c.rng) :
  ASpec Tryz.prog 10 [.sl 7 l.length true (chF l)] (.sl 12 (makeL l).length true (evF (makeL l))) [] := by
 refine aspec_of lay_ok 134226173 Tryz.func10 rfl rfl rfl ?_
 repeat' ((conv => whnf); first | refine Spl.yes (by first | assumption | omega) ?_ | refine Spl.no (by first | assumption | omega) ?_ | refine Wr.i64 (by omega) (by omega) ?_ | refine Still.mk rfl rfl ?_ | refine InB.mk (inB_mk (by omega) (by omega)) ?_ | refine Req.mk (by omega) ?_ | refine Req.mk ⟨by first | omega | (dsimp only; omega),by first | omega | (dsimp only; omega)⟩ ?_ | refine ARet.hdI ?_ | refine Spl.mk (fun _ => ?_) (fun _ => ?_) | refine InA.mk (inB_mk (by omega) (by omega)) ?_ | refine Wr.b64 ?_ | refine Wr.bu64 ?_ | refine Wr.bu32 ?_ | refine Wr.bu8 ?_ | refine Wr.u8 (by omega) (by omega) ?_ | refine Wr.u64 (by omega) (by omega) ?_ | refine Wr.u32 (by omega) (by omega) ?_ | refine Dv.pos (by omega) (by omega) ?_ | refine Rm.pos (by omega) (by omega) ?_ | refine ADraw.quiet follows_ok (by kernel_rfl) rfl ?_ | refine ADraw.sched (id := 8) lay_ok (awp_snd lay_ok _) [(0,none),(1,none),(2,none),(3,none),(4,none),(5,none),(6,none),(7,none),(8,none),(9,none),(10,none),(11,none),(12,none),(13,some [12,10,9,8,3]),(14,none),(15,some [12,10,9,8,3])] [(9,[8]),(10,[9,8]),(11,[10,9,8]),(12,[10,9,8]),(13,[12,10,9,8,3]),(14,[12,10,9,8,3]),(15,[12,10,9,8,3])] follows_ok (by kernel_rfl) ?_ | refine ADraw.sched (id := 10) lay_ok (awp_snd lay_ok _) [(0,none),(1,none),(2,none),(3,none),(4,none),(5,none),(6,none),(7,none),(8,none),(9,none),(10,none),(11,none),(12,none),(13,none),(14,none),(16,none),(17,none),(18,none),(19,none),(20,none),(21,none),(22,none),(23,none),(15,some [14]),(24,none),(25,some [23,21,19,17,14,10,7,6]),(26,some [14,23,21,19,17,10,7,6]),(27,none)] [(7,[6]),(15,[14]),(24,[23,21,19,17,14,10,7,6]),(25,[23,21,19,17,14,10,7,6]),(26,[14,23,21,19,17,10,7,6]),(27,[14,23,21,19,17,10,7,6])] follows_ok (by kernel_rfl) ?_ | refine ADraw.sched (id := 11) lay_ok (awp_snd lay_ok _) [(0,none),(1,none),(2,none),(3,none),(4,none),(5,none),(6,none),(7,none),(8,none),(9,none),(10,some [7,6])] [(7,[6]),(9,[7,6]),(10,[7,6])] follows_ok (by kernel_rfl) ?_ | refine BSpl.decY (by first | assumption | omega) ?_ | refine BSpl.decN (by first | assumption | omega) ?_ | refine BSpl.dec (fun _ => ?_) (fun _ => ?_) | refine BSpl.yes (by assumption) ?_ | refine BSpl.no (by assumption) ?_ | refine BSpl.mk (fun _ => ?_) (fun _ => ?_))
 conv => whnf
 refine ALoop.mk (MkI l) (fun x => ⟨[(0, .sl 7 l.length true (chF l)),(3, .own 90),(4, .box 91 0),(5, .v (.int .i64 (x.1.1 : Int)))],
   [(90, .row 36 12 x.1.2.1.length true (evF x.1.2.1)),(91, .box 61 (haveV x.1.2.2))],[],92⟩) (fun x => l.length - x.1.1) ⟨(0,([],fun _ => clk0)),Nat.zero_le _,rfl⟩ _
  (LeR.mk' [(0,90),(1,91)] _ _ _ rfl ⟨AEq.refl _,AEq.refl _,AEq.refl _,AEq.int rfl,trivial⟩ ⟨⟨_,rfl,OEq.row rfl (fun i hi => absurd hi (Nat.not_lt_zero i))⟩,⟨_,rfl,OEq.refl _⟩,trivial⟩ rfl) ?_
 rintro ⟨⟨j,T,H⟩,hj,hs⟩
 dsimp only at hj hs ⊢
 obtain ⟨b1,b2,b3⟩ := mkB_of (l.take j)
 have hlt : (l.take j).length ≤ 100000 := by rw [List.length_take]; omega
 rw [hs] at b1 b2 b3
 dsimp only at b1 b2 b3
 by_cases hjl : j < l.length
 · have hn := mk_next hjl hs
   have hrg : (l.getD (j : Int).toNat default).rng := hr _ (get_in hjl)
   obtain ⟨⟨hr0,hr1⟩,⟨hf0,hf1⟩,_,_,_,_,hks,hvs⟩ := hrg
   clear hs hr
   have hT : T.length ≤ 100000 := by omega
   obtain ⟨q,hq⟩ : ∃ q,(l.getD (j : Int).toNat default).sy = q := ⟨_,rfl⟩
   rcases q with _ | _
   · rw [mkStep,if_neg (by rw [hq]; simp)] at hn
     have hfit := fit05_spec (l.getD (j : Int).toNat default).ed hks hvs
     have hhe := fun k => height_spec T (H k) (by omega) (fun e he => by have := b2 e he; omega)
     generalize fitEd (l.getD (j : Int).toNat default).ed = X at hfit hn
     obtain ⟨Xk,Xkey,Xl,Xv⟩ := X
     dsimp only [Ed.av,Ed.cs,Ch0.ed,Clk.av] at hfit hhe
     rcases int_five hr0 with e | e | e | e | e
     all_goals
      rw [e] at hn
     · have b := b1 0
       have hn : mkS (l.take (j + 1)) = (T ++ [mkEvt T H 0 ⟨Xk,Xkey,Xl,Xv⟩],setC H 0 ((H 0).inc 0)) := hn
       unfold Clk.in at b
       repeat' ((conv => whnf); first | refine Spl.yes (by first | assumption | omega) ?_ | refine Spl.no (by first | assumption | omega) ?_ | refine Wr.i64 (by omega) (by omega) ?_ | refine Still.mk rfl rfl ?_ | refine InB.mk (inB_mk (by omega) (by omega)) ?_ | refine Req.mk (by omega) ?_ | refine Req.mk ⟨by first | omega | (dsimp only; omega),by first | omega | (dsimp only; omega)⟩ ?_ | refine ACall.plain _ _ (hfit) (SubL.cons (.eq _) .nil) rfl ?_ | refine ACall.plain _ _ (hhe _) (SubL.cons (.eq _) (SubL.cons (.eq _) .nil)) rfl ?_ | refine Rm.is (by omega) (by omega) e ?_ | refine ARet.hdI ?_ | refine Spl.mk (fun _ => ?_) (fun _ => ?_) | refine InA.mk (inB_mk (by omega) (by omega)) ?_ | refine Wr.b64 ?_ | refine Wr.bu64 ?_ | refine Wr.bu32 ?_ | refine Wr.bu8 ?_ | refine Wr.u8 (by omega) (by omega) ?_ | refine Wr.u64 (by omega) (by omega) ?_ | refine Wr.u32 (by omega) (by omega) ?_ | refine Dv.pos (by omega) (by omega) ?_ | refine Rm.pos (by omega) (by omega) ?_ | refine ADraw.quiet follows_ok (by kernel_rfl) rfl ?_ | refine ADraw.sched (id := 8) lay_ok (awp_snd lay_ok _) [(0,none),(1,none),(2,none),(3,none),(4,none),(5,none),(6,none),(7,none),(8,none),(9,none),(10,none),(11,none),(12,none),(13,some [12,10,9,8,3]),(14,none),(15,some [12,10,9,8,3])] [(9,[8]),(10,[9,8]),(11,[10,9,8]),(12,[10,9,8]),(13,[12,10,9,8,3]),(14,[12,10,9,8,3]),(15,[12,10,9,8,3])] follows_ok (by kernel_rfl) ?_ | refine ADraw.sched (id := 10) lay_ok (awp_snd lay_ok _) [(0,none),(1,none),(2,none),(3,none),(4,none),(5,none),(6,none),(7,none),(8,none),(9,none),(10,none),(11,none),(12,none),(13,none),(14,none),(16,none),(17,none),(18,none),(19,none),(20,none),(21,none),(22,none),(23,none),(15,some [14]),(24,none),(25,some [23,21,19,17,14,10,7,6]),(26,some [14,23,21,19,17,10,7,6]),(27,none)] [(7,[6]),(15,[14]),(24,[23,21,19,17,14,10,7,6]),(25,[23,21,19,17,14,10,7,6]),(26,[14,23,21,19,17,10,7,6]),(27,[14,23,21,19,17,10,7,6])] follows_ok (by kernel_rfl) ?_ | refine ADraw.sched (id := 11) lay_ok (awp_snd lay_ok _) [(0,none),(1,none),(2,none),(3,none),(4,none),(5,none),(6,none),(7,none),(8,none),(9,none),(10,some [7,6])] [(7,[6]),(9,[7,6]),(10,[7,6])] follows_ok (by kernel_rfl) ?_ | refine BSpl.decY (by first | assumption | omega) ?_ | refine BSpl.decN (by first | assumption | omega) ?_ | refine BSpl.dec (fun _ => ?_) (fun _ => ?_) | refine BSpl.yes (by assumption) ?_ | refine BSpl.no (by assumption) ?_ | refine BSpl.mk (fun _ => ?_) (fun _ => ?_))
       conv => whnf
       refine ⟨⟨(j + 1,_),hjl,hn⟩,_,LeR.mk' [(94,90)] _ _ _ rfl ⟨AEq.refl _,AEq.refl _,AEq.refl _,AEq.int rfl,trivial⟩ ⟨⟨_,rfl,OEq.row len_app1 (fun m hm => ?_)⟩,⟨_,rfl,OEq.refl _⟩,trivial⟩ rfl,Nat.sub_succ_lt_self _ _ hjl⟩
       exact els_app1 (c := Ev.cs) (l := T) rfl rfl m hm
     · have b := b1 1
       have hn : mkS (l.take (j + 1)) = (T ++ [mkEvt T H 1 ⟨Xk,Xkey,Xl,Xv⟩],setC H 1 ((H 1).inc 1)) := hn
       unfold Clk.in at b
       repeat' ((conv => whnf); first | refine Spl.yes (by first | assumption | omega) ?_ | refine Spl.no (by first | assumption | omega) ?_ | refine Wr.i64 (by omega) (by omega) ?_ | refine Still.mk rfl rfl ?_ | refine InB.mk (inB_mk (by omega) (by omega)) ?_ | refine Req.mk (by omega) ?_ | refine Req.mk ⟨by first | omega | (dsimp only; omega),by first | omega | (dsimp only; omega)⟩ ?_ | refine ACall.plain _ _ (hfit) (SubL.cons (.eq _) .nil) rfl ?_ | refine ACall.plain _ _ (hhe _) (SubL.cons (.eq _) (SubL.cons (.eq _) .nil)) rfl ?_ | refine Rm.is (by omega) (by omega) e ?_ | refine ARet.hdI ?_ | refine Spl.mk (fun _ => ?_) (fun _ => ?_) | refine InA.mk (inB_mk (by omega) (by omega)) ?_ | refine Wr.b64 ?_ | refine Wr.bu64 ?_ | refine Wr.bu32 ?_ | refine Wr.bu8 ?_ | refine Wr.u8 (by omega) (by omega) ?_ | refine Wr.u64 (by omega) (by omega) ?_ | refine Wr.u32 (by omega) (by omega) ?_ | refine Dv.pos (by omega) (by omega) ?_ | refine Rm.pos (by omega) (by omega) ?_ | refine ADraw.quiet follows_ok (by kernel_rfl) rfl ?_ | refine ADraw.sched (id := 8) lay_ok (awp_snd lay_ok _) [(0,none),(1,none),(2,none),(3,none),(4,none),(5,none),(6,none),(7,none),(8,none),(9,none),(10,none),(11,none),(12,none),(13,some [12,10,9,8,3]),(14,none),(15,some [12,10,9,8,3])] [(9,[8]),(10,[9,8]),(11,[10,9,8]),(12,[10,9,8]),(13,[12,10,9,8,3]),(14,[12,10,9,8,3]),(15,[12,10,9,8,3])] follows_ok (by kernel_rfl) ?_ | refine ADraw.sched (id := 10) lay_ok (awp_snd lay_ok _) [(0,none),(1,none),(2,none),(3,none),(4,none),(5,none),(6,none),(7,none),(8,none),(9,none),(10,none),(11,none),(12,none),(13,none),(14,none),(16,none),(17,none),(18,none),(19,none),(20,none),(21,none),(22,none),(23,none),(15,some [14]),(24,none),(25,some [23,21,19,17,14,10,7,6]),(26,some [14,23,21,19,17,10,7,6]),(27,none)] [(7,[6]),(15,[14]),(24,[23,21,19,17,14,10,7,6]),(25,[23,21,19,17,14,10,7,6]),(26,[14,23,21,19,17,10,7,6]),(27,[14,23,21,19,17,10,7,6])] follows_ok (by kernel_rfl) ?_ | refine ADraw.sched (id := 11) lay_ok (awp_snd lay_ok _) [(0,none),(1,none),(2,none),(3,none),(4,none),(5,none),(6,none),(7,none),(8,none),(9,none),(10,some [7,6])] [(7,[6]),(9,[7,6]),(10,[7,6])] follows_ok (by kernel_rfl) ?_ | refine BSpl.decY (by first | assumption | omega) ?_ | refine BSpl.decN (by first | assumption | omega) ?_ | refine BSpl.dec (fun _ => ?_) (fun _ => ?_) | refine BSpl.yes (by assumption) ?_ | refine BSpl.no (by assumption) ?_ | refine BSpl.mk (fun _ => ?_) (fun _ => ?_))
       conv => whnf
       refine ⟨⟨(j + 1,_),hjl,hn⟩,_,LeR.mk' [(94,90)] _ _ _ rfl ⟨AEq.refl _,AEq.refl _,AEq.refl _,AEq.int rfl,trivial⟩ ⟨⟨_,rfl,OEq.row len_app1 (fun m hm => ?_)⟩,⟨_,rfl,OEq.refl _⟩,trivial⟩ rfl,Nat.sub_succ_lt_self _ _ hjl⟩
       exact els_app1 (c := Ev.cs) (l := T) rfl rfl m hm
     · have b := b1 2
       have hn : mkS (l.take (j + 1)) = (T ++ [mkEvt T H 2 ⟨Xk,Xkey,Xl,Xv⟩],setC H 2 ((H 2).inc 2)) := hn
       unfold Clk.in at b
       repeat' ((conv => whnf); first | refine Spl.yes (by first | assumption | omega) ?_ | refine Spl.no (by first | assumption | omega) ?_ | refine Wr.i64 (by omega) (by omega) ?_ | refine Still.mk rfl rfl ?_ | refine InB.mk (inB_mk (by omega) (by omega)) ?_ | refine Req.mk (by omega) ?_ | refine Req.mk ⟨by first | omega | (dsimp only; omega),by first | omega | (dsimp only; omega)⟩ ?_ | refine ACall.plain _ _ (hfit) (SubL.cons (.eq _) .nil) rfl ?_ | refine ACall.plain _ _ (hhe _) (SubL.cons (.eq _) (SubL.cons (.eq _) .nil)) rfl ?_ | refine Rm.is (by omega) (by omega) e ?_ | refine ARet.hdI ?_ | refine Spl.mk (fun _ => ?_) (fun _ => ?_) | refine InA.mk (inB_mk (by omega) (by omega)) ?_ | refine Wr.b64 ?_ | refine Wr.bu64 ?_ | refine Wr.bu32 ?_ | refine Wr.bu8 ?_ | refine Wr.u8 (by omega) (by omega) ?_ | refine Wr.u64 (by omega) (by omega) ?_ | refine Wr.u32 (by omega) (by omega) ?_ | refine Dv.pos (by omega) (by omega) ?_ | refine Rm.pos (by omega) (by omega) ?_ | refine ADraw.quiet follows_ok (by kernel_rfl) rfl ?_ | refine ADraw.sched (id := 8) lay_ok (awp_snd lay_ok _) [(0,none),(1,none),(2,none),(3,none),(4,none),(5,none),(6,none),(7,none),(8,none),(9,none),(10,none),(11,none),(12,none),(13,some [12,10,9,8,3]),(14,none),(15,some [12,10,9,8,3])] [(9,[8]),(10,[9,8]),(11,[10,9,8]),(12,[10,9,8]),(13,[12,10,9,8,3]),(14,[12,10,9,8,3]),(15,[12,10,9,8,3])] follows_ok (by kernel_rfl) ?_ | refine ADraw.sched (id := 10) lay_ok (awp_snd lay_ok _) [(0,none),(1,none),(2,none),(3,none),(4,none),(5,none),(6,none),(7,none),(8,none),(9,none),(10,none),(11,none),(12,none),(13,none),(14,none),(16,none),(17,none),(18,none),(19,none),(20,none),(21,none),(22,none),(23,none),(15,some [14]),(24,none),(25,some [23,21,19,17,14,10,7,6]),(26,some [14,23,21,19,17,10,7,6]),(27,none)] [(7,[6]),(15,[14]),(24,[23,21,19,17,14,10,7,6]),(25,[23,21,19,17,14,10,7,6]),(26,[14,23,21,19,17,10,7,6]),(27,[14,23,21,19,17,10,7,6])] follows_ok (by kernel_rfl) ?_ | refine ADraw.sched (id := 11) lay_ok (awp_snd lay_ok _) [(0,none),(1,none),(2,none),(3,none),(4,none),(5,none),(6,none),(7,none),(8,none),(9,none),(10,some [7,6])] [(7,[6]),(9,[7,6]),(10,[7,6])] follows_ok (by kernel_rfl) ?_ | refine BSpl.decY (by first | assumption | omega) ?_ | refine BSpl.decN (by first | assumption | omega) ?_ | refine BSpl.dec (fun _ => ?_) (fun _ => ?_) | refine BSpl.yes (by assumption) ?_ | refine BSpl.no (by assumption) ?_ | refine BSpl.mk (fun _ => ?_) (fun _ => ?_))
       conv => whnf
       refine ⟨⟨(j + 1,_),hjl,hn⟩,_,LeR.mk' [(94,90)] _ _ _ rfl ⟨AEq.refl _,AEq.refl _,AEq.refl _,AEq.int rfl,trivial⟩ ⟨⟨_,rfl,OEq.row len_app1 (fun m hm => ?_)⟩,⟨_,rfl,OEq.refl _⟩,trivial⟩ rfl,Nat.sub_succ_lt_self _ _ hjl⟩
       exact els_app1 (c := Ev.cs) (l := T) rfl rfl m hm
     · have b := b1 3
       have hn : mkS (l.take (j + 1)) = (T ++ [mkEvt T H 3 ⟨Xk,Xkey,Xl,Xv⟩],setC H 3 ((H 3).inc 3)) := hn
       unfold Clk.in at b
       repeat' ((conv => whnf); first | refine Spl.yes (by first | assumption | omega) ?_ | refine Spl.no (by first | assumption | omega) ?_ | refine Wr.i64 (by omega) (by omega) ?_ | refine Still.mk rfl rfl ?_ | refine InB.mk (inB_mk (by omega) (by omega)) ?_ | refine Req.mk (by omega) ?_ | refine Req.mk ⟨by first | omega | (dsimp only; omega),by first | omega | (dsimp only; omega)⟩ ?_ | refine ACall.plain _ _ (hfit) (SubL.cons (.eq _) .nil) rfl ?_ | refine ACall.plain _ _ (hhe _) (SubL.cons (.eq _) (SubL.cons (.eq _) .nil)) rfl ?_ | refine Rm.is (by omega) (by omega) e ?_ | refine ARet.hdI ?_ | refine Spl.mk (fun _ => ?_) (fun _ => ?_) | refine InA.mk (inB_mk (by omega) (by omega)) ?_ | refine Wr.b64 ?_ | refine Wr.bu64 ?_ | refine Wr.bu32 ?_ | refine Wr.bu8 ?_ | refine Wr.u8 (by omega) (by omega) ?_ | refine Wr.u64 (by omega) (by omega) ?_ | refine Wr.u32 (by omega) (by omega) ?_ | refine Dv.pos (by omega) (by omega) ?_ | refine Rm.pos (by omega) (by omega) ?_ | refine ADraw.quiet follows_ok (by kernel_rfl) rfl ?_ | refine ADraw.sched (id := 8) lay_ok (awp_snd lay_ok _) [(0,none),(1,none),(2,none),(3,none),(4,none),(5,none),(6,none),(7,none),(8,none),(9,none),(10,none),(11,none),(12,none),(13,some [12,10,9,8,3]),(14,none),(15,some [12,10,9,8,3])] [(9,[8]),(10,[9,8]),(11,[10,9,8]),(12,[10,9,8]),(13,[12,10,9,8,3]),(14,[12,10,9,8,3]),(15,[12,10,9,8,3])] follows_ok (by kernel_rfl) ?_ | refine ADraw.sched (id := 10) lay_ok (awp_snd lay_ok _) [(0,none),(1,none),(2,none),(3,none),(4,none),(5,none),(6,none),(7,none),(8,none),(9,none),(10,none),(11,none),(12,none),(13,none),(14,none),(16,none),(17,none),(18,none),(19,none),(20,none),(21,none),(22,none),(23,none),(15,some [14]),(24,none),(25,some [23,21,19,17,14,10,7,6]),(26,some [14,23,21,19,17,10,7,6]),(27,none)] [(7,[6]),(15,[14]),(24,[23,21,19,17,14,10,7,6]),(25,[23,21,19,17,14,10,7,6]),(26,[14,23,21,19,17,10,7,6]),(27,[14,23,21,19,17,10,7,6])] follows_ok (by kernel_rfl) ?_ | refine ADraw.sched (id := 11) lay_ok (awp_snd lay_ok _) [(0,none),(1,none),(2,none),(3,none),(4,none),(5,none),(6,none),(7,none),(8,none),(9,none),(10,some [7,6])] [(7,[6]),(9,[7,6]),(10,[7,6])] follows_ok (by kernel_rfl) ?_ | refine BSpl.decY (by first | assumption | omega) ?_ | refine BSpl.decN (by first | assumption | omega) ?_ | refine BSpl.dec (fun _ => ?_) (fun _ => ?_) | refine BSpl.yes (by assumption) ?_ | refine BSpl.no (by assumption) ?_ | refine BSpl.mk (fun _ => ?_) (fun _ => ?_))
       conv => whnf
       refine ⟨⟨(j + 1,_),hjl,hn⟩,_,LeR.mk' [(94,90)] _ _ _ rfl ⟨AEq.refl _,AEq.refl _,AEq.refl _,AEq.int rfl,trivial⟩ ⟨⟨_,rfl,OEq.row len_app1 (fun m hm => ?_)⟩,⟨_,rfl,OEq.refl _⟩,trivial⟩ rfl,Nat.sub_succ_lt_self _ _ hjl⟩
       exact els_app1 (c := Ev.cs) (l := T) rfl rfl m hm
     · have b := b1 4
       have hn : mkS (l.take (j + 1)) = (T ++ [mkEvt T H 4 ⟨Xk,Xkey,Xl,Xv⟩],setC H 4 ((H 4).inc 4)) := hn
       unfold Clk.in at b
       repeat' ((conv => whnf); first | refine Spl.yes (by first | assumption | omega) ?_ | refine Spl.no (by first | assumption | omega) ?_ | refine Wr.i64 (by omega) (by omega) ?_ | refine Still.mk rfl rfl ?_ | refine InB.mk (inB_mk (by omega) (by omega)) ?_ | refine Req.mk (by omega) ?_ | refine Req.mk ⟨by first | omega | (dsimp only; omega),by first | omega | (dsimp only; omega)⟩ ?_ | refine ACall.plain _ _ (hfit) (SubL.cons (.eq _) .nil) rfl ?_ | refine ACall.plain _ _ (hhe _) (SubL.cons (.eq _) (SubL.cons (.eq _) .nil)) rfl ?_ | refine Rm.is (by omega) (by omega) e ?_ | refine ARet.hdI ?_ | refine Spl.mk (fun _ => ?_) (fun _ => ?_) | refine InA.mk (inB_mk (by omega) (by omega)) ?_ | refine Wr.b64 ?_ | refine Wr.bu64 ?_ | refine Wr.bu32 ?_ | refine Wr.bu8 ?_ | refine Wr.u8 (by omega) (by omega) ?_ | refine Wr.u64 (by omega) (by omega) ?_ | refine Wr.u32 (by omega) (by omega) ?_ | refine Dv.pos (by omega) (by omega) ?_ | refine Rm.pos (by omega) (by omega) ?_ | refine ADraw.quiet follows_ok (by kernel_rfl) rfl ?_ | refine ADraw.sched (id := 8) lay_ok (awp_snd lay_ok _) [(0,none),(1,none),(2,none),(3,none),(4,none),(5,none),(6,none),(7,none),(8,none),(9,none),(10,none),(11,none),(12,none),(13,some [12,10,9,8,3]),(14,none),(15,some [12,10,9,8,3])] [(9,[8]),(10,[9,8]),(11,[10,9,8]),(12,[10,9,8]),(13,[12,10,9,8,3]),(14,[12,10,9,8,3]),(15,[12,10,9,8,3])] follows_ok (by kernel_rfl) ?_ | refine ADraw.sched (id := 10) lay_ok (awp_snd lay_ok _) [(0,none),(1,none),(2,none),(3,none),(4,none),(5,none),(6,none),(7,none),(8,none),(9,none),(10,none),(11,none),(12,none),(13,none),(14,none),(16,none),(17,none),(18,none),(19,none),(20,none),(21,none),(22,none),(23,none),(15,some [14]),(24,none),(25,some [23,21,19,17,14,10,7,6]),(26,some [14,23,21,19,17,10,7,6]),(27,none)] [(7,[6]),(15,[14]),(24,[23,21,19,17,14,10,7,6]),(25,[23,21,19,17,14,10,7,6]),(26,[14,23,21,19,17,10,7,6]),(27,[14,23,21,19,17,10,7,6])] follows_ok (by kernel_rfl) ?_ | refine ADraw.sched (id := 11) lay_ok (awp_snd lay_ok _) [(0,none),(1,none),(2,none),(3,none),(4,none),(5,none),(6,none),(7,none),(8,none),(9,none),(10,some [7,6])] [(7,[6]),(9,[7,6]),(10,[7,6])] follows_ok (by kernel_rfl) ?_ | refine BSpl.decY (by first | assumption | omega) ?_ | refine BSpl.decN (by first | assumption | omega) ?_ | refine BSpl.dec (fun _ => ?_) (fun _ => ?_) | refine BSpl.yes (by assumption) ?_ | refine BSpl.no (by assumption) ?_ | refine BSpl.mk (fun _ => ?_) (fun _ => ?_))
       conv => whnf
       refine ⟨⟨(j + 1,_),hjl,hn⟩,_,LeR.mk' [(94,90)] _ _ _ rfl ⟨AEq.refl _,AEq.refl _,AEq.refl _,AEq.int rfl,trivial⟩ ⟨⟨_,rfl,OEq.row len_app1 (fun m hm => ?_)⟩,⟨_,rfl,OEq.refl _⟩,trivial⟩ rfl,Nat.sub_succ_lt_self _ _ hjl⟩
       exact els_app1 (c := Ev.cs) (l := T) rfl rfl m hm
   · rw [mkStep,if_pos hq] at hn
     have hjo := fun r f => join_spec (H r) (H f)
     dsimp only [Clk.av,Clk.join] at hjo
     rcases int_five hr0 with e | e | e | e | e
     all_goals
      rw [e] at hn
      rcases int_five hf0 with e' | e' | e' | e' | e'
     all_goals
      rw [e'] at hn
     all_goals
      repeat' ((conv => whnf); first | refine Spl.yes (by first | assumption | omega) ?_ | refine Spl.no (by first | assumption | omega) ?_ | refine Wr.i64 (by omega) (by omega) ?_ | refine Still.mk rfl rfl ?_ | refine InB.mk (inB_mk (by omega) (by omega)) ?_ | refine Req.mk (by omega) ?_ | refine Req.mk ⟨by first | omega | (dsimp only; omega),by first | omega | (dsimp only; omega)⟩ ?_ | refine ACall.plain _ _ (hjo _ _) (SubL.cons (.eq _) (SubL.cons (.eq _) .nil)) rfl ?_ | refine Rm.is (by omega) (by omega) e ?_ | refine Rm.is (by omega) (by omega) e' ?_ | refine ARet.hdI ?_ | refine Spl.mk (fun _ => ?_) (fun _ => ?_) | refine InA.mk (inB_mk (by omega) (by omega)) ?_ | refine Wr.b64 ?_ | refine Wr.bu64 ?_ | refine Wr.bu32 ?_ | refine Wr.bu8 ?_ | refine Wr.u8 (by omega) (by omega) ?_ | refine Wr.u64 (by omega) (by omega) ?_ | refine Wr.u32 (by omega) (by omega) ?_ | refine Dv.pos (by omega) (by omega) ?_ | refine Rm.pos (by omega) (by omega) ?_ | refine ADraw.quiet follows_ok (by kernel_rfl) rfl ?_ | refine ADraw.sched (id := 8) lay_ok (awp_snd lay_ok _) [(0,none),(1,none),(2,none),(3,none),(4,none),(5,none),(6,none),(7,none),(8,none),(9,none),(10,none),(11,none),(12,none),(13,some [12,10,9,8,3]),(14,none),(15,some [12,10,9,8,3])] [(9,[8]),(10,[9,8]),(11,[10,9,8]),(12,[10,9,8]),(13,[12,10,9,8,3]),(14,[12,10,9,8,3]),(15,[12,10,9,8,3])] follows_ok (by kernel_rfl) ?_ | refine ADraw.sched (id := 10) lay_ok (awp_snd lay_ok _) [(0,none),(1,none),(2,none),(3,none),(4,none),(5,none),(6,none),(7,none),(8,none),(9,none),(10,none),(11,none),(12,none),(13,none),(14,none),(16,none),(17,none),(18,none),(19,none),(20,none),(21,none),(22,none),(23,none),(15,some [14]),(24,none),(25,some [23,21,19,17,14,10,7,6]),(26,some [14,23,21,19,17,10,7,6]),(27,none)] [(7,[6]),(15,[14]),(24,[23,21,19,17,14,10,7,6]),(25,[23,21,19,17,14,10,7,6]),(26,[14,23,21,19,17,10,7,6]),(27,[14,23,21,19,17,10,7,6])] follows_ok (by kernel_rfl) ?_ | refine ADraw.sched (id := 11) lay_ok (awp_snd lay_ok _) [(0,none),(1,none),(2,none),(3,none),(4,none),(5,none),(6,none),(7,none),(8,none),(9,none),(10,some [7,6])] [(7,[6]),(9,[7,6]),(10,[7,6])] follows_ok (by kernel_rfl) ?_ | refine BSpl.decY (by first | assumption | omega) ?_ | refine BSpl.decN (by first | assumption | omega) ?_ | refine BSpl.dec (fun _ => ?_) (fun _ => ?_) | refine BSpl.yes (by assumption) ?_ | refine BSpl.no (by assumption) ?_ | refine BSpl.mk (fun _ => ?_) (fun _ => ?_))
      conv => whnf
      exact ⟨⟨(j + 1,_),hjl,hn⟩,_,LeR.mk' [] _ _ _ rfl ⟨AEq.refl _,AEq.refl _,AEq.refl _,AEq.int rfl,trivial⟩ ⟨⟨_,rfl,OEq.refl _⟩,⟨_,rfl,OEq.refl _⟩,trivial⟩ rfl,Nat.sub_succ_lt_self _ _ hjl⟩
 · rw [List.take_of_length_le (show l.length ≤ j by omega)] at hs
   have hR : makeL l = T := by rw [makeL,hs]
   rw [hR]
   repeat' ((conv => whnf); first | refine Spl.yes (by first | assumption | omega) ?_ | refine Spl.no (by first | assumption | omega) ?_ | refine Wr.i64 (by omega) (by omega) ?_ | refine Still.mk rfl rfl ?_ | refine InB.mk (inB_mk (by omega) (by omega)) ?_ | refine Req.mk (by omega) ?_ | refine Req.mk ⟨by first | omega | (dsimp only; omega),by first | omega | (dsimp only; omega)⟩ ?_ | refine ARet.hdI ?_ | refine Spl.mk (fun _ => ?_) (fun _ => ?_) | refine InA.mk (inB_mk (by omega) (by omega)) ?_ | refine Wr.b64 ?_ | refine Wr.bu64 ?_ | refine Wr.bu32 ?_ | refine Wr.bu8 ?_ | refine Wr.u8 (by omega) (by omega) ?_ | refine Wr.u64 (by omega) (by omega) ?_ | refine Wr.u32 (by omega) (by omega) ?_ | refine Dv.pos (by omega) (by omega) ?_ | refine Rm.pos (by omega) (by omega) ?_ | refine ADraw.quiet follows_ok (by kernel_rfl) rfl ?_ | refine ADraw.sched (id := 8) lay_ok (awp_snd lay_ok _) [(0,none),(1,none),(2,none),(3,none),(4,none),(5,none),(6,none),(7,none),(8,none),(9,none),(10,none),(11,none),(12,none),(13,some [12,10,9,8,3]),(14,none),(15,some [12,10,9,8,3])] [(9,[8]),(10,[9,8]),(11,[10,9,8]),(12,[10,9,8]),(13,[12,10,9,8,3]),(14,[12,10,9,8,3]),(15,[12,10,9,8,3])] follows_ok (by kernel_rfl) ?_ | refine ADraw.sched (id := 10) lay_ok (awp_snd lay_ok _) [(0,none),(1,none),(2,none),(3,none),(4,none),(5,none),(6,none),(7,none),(8,none),(9,none),(10,none),(11,none),(12,none),(13,none),(14,none),(16,none),(17,none),(18,none),(19,none),(20,none),(21,none),(22,none),(23,none),(15,some [14]),(24,none),(25,some [23,21,19,17,14,10,7,6]),(26,some [14,23,21,19,17,10,7,6]),(27,none)] [(7,[6]),(15,[14]),(24,[23,21,19,17,14,10,7,6]),(25,[23,21,19,17,14,10,7,6]),(26,[14,23,21,19,17,10,7,6]),(27,[14,23,21,19,17,10,7,6])] follows_ok (by kernel_rfl) ?_ | refine ADraw.sched (id := 11) lay_ok (awp_snd lay_ok _) [(0,none),(1,none),(2,none),(3,none),(4,none),(5,none),(6,none),(7,none),(8,none),(9,none),(10,some [7,6])] [(7,[6]),(9,[7,6]),(10,[7,6])] follows_ok (by kernel_rfl) ?_ | refine BSpl.decY (by first | assumption | omega) ?_ | refine BSpl.decN (by first | assumption | omega) ?_ | refine BSpl.dec (fun _ => ?_) (fun _ => ?_) | refine BSpl.yes (by assumption) ?_ | refine BSpl.no (by assumption) ?_ | refine BSpl.mk (fun _ => ?_) (fun _ => ?_))
   conv => whnf
   exact AEqI.mk (AEq.refl _)
end Go.Proofs.YtkkpfjifkjbndaaGreat

/-
 Plain Lean: what pasts that were made are like.
-/
namespace Go.Proofs.YtkkpfjifkjbndaaGreat
open Go.RowKit
theorem get_at (c : Clk) : ∀ {r : Nat},r < 5 → c.get (r : Int) = c.at r
  | 0,_ => rfl
  | 1,_ => rfl
  | 2,_ => rfl
  | 3,_ => rfl
  | 4,_ => rfl
  | _ + 5,h => by omega
theorem has_at {c : Clk} {r : Nat} (h : r < 5) {n : Int} : hasB c (r : Int) n = true ↔ 1 ≤ n ∧ n ≤ c.at r := by
 unfold hasB
 rw [decide_eq_true_eq,get_at c h]
 omega
theorem join_at (a b : Clk) : ∀ r,(a.join b).at r = mxI (a.at r) (b.at r)
  | 0 => rfl
  | 1 => rfl
  | 2 => rfl
  | 3 => rfl
  | _ + 4 => rfl
theorem inc_at (c : Clk) : ∀ {r q : Nat},r < 5 → q < 5 → (c.inc r).at q = if q = r then c.at q + 1 else c.at q := by
 intro r q hr hq
 obtain rfl | rfl | rfl | rfl | rfl : r = 0 ∨ r = 1 ∨ r = 2 ∨ r = 3 ∨ r = 4 := by omega
 all_goals (obtain rfl | rfl | rfl | rfl | rfl : q = 0 ∨ q = 1 ∨ q = 2 ∨ q = 3 ∨ q = 4 := by omega)
 all_goals rfl
theorem le_at {a b : Clk} : a.le b = true ↔ ∀ r,r < 5 → a.at r ≤ b.at r := by
 unfold Clk.le
 rw [decide_eq_true_eq]
 constructor
 · rintro ⟨h0,h1,h2,h3,h4⟩ r hr
   obtain rfl | rfl | rfl | rfl | rfl : r = 0 ∨ r = 1 ∨ r = 2 ∨ r = 3 ∨ r = 4 := by omega
   all_goals assumption
 · intro h
   exact ⟨h 0 (by omega),h 1 (by omega),h 2 (by omega),h 3 (by omega),h 4 (by omega)⟩
theorem setC_at {H : Nat → Clk} {r q : Nat} {c : Clk} : setC H r c q = if q = r then c else H q := by
 unfold setC
 by_cases h : q = r
 · rw [if_pos h,h,Nat.beq_refl]; rfl
 · rw [if_neg h,show Nat.beq q r = false from by rw [Bool.eq_false_iff]; intro e; exact h (Nat.eq_of_beq_eq_true e)]; rfl
theorem mx_le {a b c : Int} (h : a ≤ c) (k : b ≤ c) : mxI a b ≤ c := by unfold mxI; split <;> omega
theorem mx_l (a b : Int) : a ≤ mxI a b := by unfold mxI; split <;> omega
theorem mx_r (a b : Int) : b ≤ mxI a b := by unfold mxI; split <;> omega
theorem hStep_ge {c : Clk} : ∀ (l : List Ev) (s : Int × Bool),s.2 = true → s.1 ≤ (l.foldl (hStep c) s).1 ∧ (l.foldl (hStep c) s).2 = true
  | [],s,h => ⟨Int.le_refl _,h⟩
  | e :: l,s,h => by
   rw [List.foldl_cons]
   by_cases k : (hasB c e.r e.n && (!s.2 || decide (s.1 < e.h))) = true
   · have e1 : hStep c s e = (e.h,true) := if_pos k
     rw [e1]
     have := hStep_ge (c := c) l (e.h,true) rfl
     simp only [h,Bool.not_true,Bool.false_or,Bool.and_eq_true,decide_eq_true_eq] at k
     exact ⟨by have := this.1; simp only at this; omega,this.2⟩
   · have e1 : hStep c s e = s := if_neg k
     rw [e1]
     exact hStep_ge l s h
theorem hgt_gt {c : Clk} {e : Ev} : ∀ (l : List Ev) (s : Int × Bool),e ∈ l → hasB c e.r e.n = true → e.h ≤ (l.foldl (hStep c) s).1
  | [],_,h,_ => by cases h
  | x :: l,s,h,hh => by
   rw [List.foldl_cons]
   rcases List.mem_cons.1 h with rfl | h
   · by_cases k : (hasB c e.r e.n && (!s.2 || decide (s.1 < e.h))) = true
     · have e1 : hStep c s e = (e.h,true) := if_pos k
       rw [e1]
       exact (hStep_ge (c := c) l (e.h,true) rfl).1
     · have e1 : hStep c s e = s := if_neg k
       rw [e1]
       have k' : s.2 = true ∧ e.h ≤ s.1 := by
        rw [hh] at k
        simp only [Bool.true_and,Bool.or_eq_true,Bool.not_eq_true',decide_eq_true_eq,not_or,Bool.not_eq_false,Int.not_lt] at k
        exact k
       have := (hStep_ge (c := c) l s k'.1).1
       omega
   · exact hgt_gt l _ h hh
theorem hgt_lt {c : Clk} {l : List Ev} {e : Ev} (he : e ∈ l) (hh : hasB c e.r e.n = true) : e.h < hgt l c := by
 have := hgt_gt l (0,false) he hh
 unfold hgt hgtF
 omega
structure Fine (e : Ev) : Prop where
 k : 1 ≤ e.k ∧ e.k ≤ 5
 key : e.key.size ≤ 3
 l : e.l = 0 ∨ e.l = 1
 v : e.v.size ≤ 12
structure Inv (T : List Ev) (H : Nat → Clk) : Prop where
 ev : ∀ e ∈ T,∃ r : Nat,r < 5 ∧ e.r = (r : Int) ∧ 1 ≤ e.n ∧ e.n ≤ (H r).at r ∧ e.c.at r = e.n - 1
 ge : ∀ q : Nat,q < 5 → ∀ r : Nat,r < 5 → 0 ≤ (H q).at r ∧ (H q).at r ≤ (H r).at r
 all : ∀ r : Nat,r < 5 → ∀ n : Int,1 ≤ n → n ≤ (H r).at r → ∃ e ∈ T,e.r = (r : Int) ∧ e.n = n
 clo : ∀ q : Nat,q < 5 → ∀ e ∈ T,hasB (H q) e.r e.n = true → ∀ r : Nat,r < 5 → e.c.at r ≤ (H q).at r
 own : ∀ e ∈ T,∀ r : Nat,r < 5 → 0 ≤ e.c.at r ∧ e.c.at r ≤ (H r).at r
 dis : T.Pairwise fun a b => ¬ (a.r = b.r ∧ a.n = b.n)
 ord : T.Pairwise fun a b => belowB b a = false
 hgt : ∀ a ∈ T,∀ b ∈ T,belowB a b = true → a.h < b.h
 pre : ∀ T1 e T2,T = T1 ++ e :: T2 → ∀ r : Nat,r < 5 → ∀ n : Int,1 ≤ n → n ≤ e.c.at r → ∃ x ∈ T1,x.r = (r : Int) ∧ x.n = n
 fine : ∀ e ∈ T,Fine e
theorem Inv.nil : Inv [] (fun _ => clk0) := by
 have h0 : ∀ r,clk0.at r = 0 := fun r => match r with | 0 => rfl | 1 => rfl | 2 => rfl | 3 => rfl | _ + 4 => rfl
 exact ⟨fun e h => (by cases h),fun q _ r _ => ⟨by rw [h0]; omega,by omega⟩,fun r _ n h1 h2 => by rw [h0] at h2; omega,fun _ _ e h => (by cases h),fun e h => (by cases h), .nil, .nil,fun a h => (by cases h),fun T1 e T2 h => (by simp at h),fun e h => (by cases h)⟩
section
variable {T : List Ev} {H : Nat → Clk}
theorem Inv.sync (h : Inv T H) {r f : Nat} (hr : r < 5) (hf : f < 5) : Inv T (setC H r ((H r).join (H f))) := by
 have hj : ∀ q,(setC H r ((H r).join (H f)) q) = if q = r then (H r).join (H f) else H q := fun q => setC_at
 have dg : ∀ q,q < 5 → (setC H r ((H r).join (H f)) q).at q = (H q).at q := fun q hq => by
  rw [hj]
  split
  · rename_i e
    subst e
    rw [join_at]
    have := (h.ge f hf q hq).2
    unfold mxI
    split <;> omega
  · rfl
 refine ⟨fun e he => ?_,fun q hq p hp => ?_,fun p hp n h1 h2 => ?_,fun q hq e he hh p hp => ?_,fun e he p hp => ?_,h.dis,h.ord,h.hgt,h.pre,h.fine⟩
 · obtain ⟨p,h1,h2,h3,h4,h5⟩ := h.ev e he
   exact ⟨p,h1,h2,h3,by rw [dg p h1]; exact h4,h5⟩
 · rw [dg p hp,hj]
   split
   · rw [join_at]
     have a := h.ge r hr p hp
     have b := h.ge f hf p hp
     have := mx_l ((H r).at p) ((H f).at p)
     exact ⟨by omega,mx_le a.2 b.2⟩
   · exact h.ge q hq p hp
 · rw [dg p hp] at h2
   exact h.all p hp n h1 h2
 · rw [hj] at hh ⊢
   split
   · rename_i e1
     rw [if_pos e1] at hh
     obtain ⟨p',h1,h2,h3,h4,h5⟩ := h.ev e he
     rw [h2] at hh
     rw [has_at h1,join_at] at hh
     rw [join_at]
     have ml := mx_l ((H r).at p) ((H f).at p)
     have mr := mx_r ((H r).at p) ((H f).at p)
     rcases (show e.n ≤ (H r).at p' ∨ e.n ≤ (H f).at p' by have := hh.2; unfold mxI at this; split at this <;> omega) with k | k
     · have := h.clo r hr e he (by rw [h2]; exact (has_at h1).2 ⟨hh.1,k⟩) p hp
       omega
     · have := h.clo f hf e he (by rw [h2]; exact (has_at h1).2 ⟨hh.1,k⟩) p hp
       omega
   · rename_i e1
     rw [if_neg e1] at hh
     exact h.clo q hq e he hh p hp
 · rw [dg p hp]
   exact h.own e he p hp
theorem Inv.edit (h : Inv T H) {r : Nat} (hr : r < 5) {x : Ed} (hx : ∀ (rr n : Int) (c : Clk) (hh : Int),Fine ⟨rr,n,c,hh,x.k,x.key,x.l,x.v⟩) : Inv (T ++ [mkEvt T H r x]) (setC H r ((H r).inc r)) := by
 have hj : ∀ q,(setC H r ((H r).inc r) q) = if q = r then (H r).inc r else H q := fun q => setC_at
 have dg : ∀ q,q < 5 → (setC H r ((H r).inc r) q).at q = if q = r then (H q).at q + 1 else (H q).at q := fun q hq => by
  rw [hj]
  split
  · rename_i e
    subst e
    rw [inc_at _ hr hr,if_pos rfl]
  · rfl
 have dle : ∀ q,q < 5 → (H q).at q ≤ (setC H r ((H r).inc r) q).at q := fun q hq => by rw [dg q hq]; split <;> omega
 have er : (mkEvt T H r x).r = (r : Int) := rfl
 have en : (mkEvt T H r x).n = (H r).at r + 1 := rfl
 have ec : (mkEvt T H r x).c = H r := rfl
 have eh : (mkEvt T H r x).h = Go.Proofs.YtkkpfjifkjbndaaGreat.hgt T (H r) := rfl
 have ef : Fine (mkEvt T H r x) := hx _ _ _ _
 generalize mkEvt T H r x = y at *
 have nb : ∀ b ∈ T,belowB y b = false := fun b hb => by
  unfold belowB
  rw [er,Bool.eq_false_iff]
  intro k
  rw [has_at hr] at k
  have := (h.own b hb r hr).2
  omega
 have ny : belowB y y = false := by
  unfold belowB
  rw [er,Bool.eq_false_iff]
  intro k
  rw [has_at hr,ec] at k
  omega
 refine ⟨fun e he => ?_,fun q hq p hp => ?_,fun p hp n h1 h2 => ?_,fun q hq e he hh p hp => ?_,fun e he p hp => ?_,?_,?_,fun a ha b hb hab => ?_,fun T1 e T2 e0 p hp n h1 h2 => ?_,fun e he => ?_⟩
 · rcases List.mem_append.1 he with he | he
   · obtain ⟨p,h1,h2,h3,h4,h5⟩ := h.ev e he
     exact ⟨p,h1,h2,h3,by have := dle p h1; omega,h5⟩
   · rw [List.mem_singleton.1 he]
     refine ⟨r,hr,er,by rw [en]; have := (h.ge r hr r hr).1; omega,by rw [en,dg r hr,if_pos rfl]; omega,by rw [ec,en]; omega⟩
 · have := dle p hp
   have a := h.ge q hq p hp
   rw [hj]
   split
   · rename_i e
     subst e
     rw [inc_at _ hr hp]
     rw [dg p hp] at *
     split <;> omega
   · omega
 · by_cases e : p = r
   · subst e
     rw [dg p hp,if_pos rfl] at h2
     by_cases k : n ≤ (H p).at p
     · obtain ⟨e,he,h3⟩ := h.all p hp n h1 k
       exact ⟨e,List.mem_append.2 (.inl he),h3⟩
     · exact ⟨y,List.mem_append.2 (.inr (List.mem_singleton.2 rfl)),er,by rw [en]; omega⟩
   · rw [dg p hp,if_neg e] at h2
     obtain ⟨e,he,h3⟩ := h.all p hp n h1 h2
     exact ⟨e,List.mem_append.2 (.inl he),h3⟩
 · rw [hj] at hh ⊢
   rcases List.mem_append.1 he with he | he
   · obtain ⟨p',k1,k2,k3,k4,k5⟩ := h.ev e he
     by_cases e1 : q = r
     · rw [if_pos e1] at hh ⊢
       rw [k2,has_at k1,inc_at _ hr k1] at hh
       rw [inc_at _ hr hp]
       have hk : hasB (H r) e.r e.n = true := by
        rw [k2]
        refine (has_at k1).2 ⟨k3,?_⟩
        by_cases e2 : p' = r
        · subst e2; omega
        · rw [if_neg e2] at hh; exact hh.2
       have := h.clo r hr e he hk p hp
       split <;> omega
     · rw [if_neg e1] at hh ⊢
       exact h.clo q hq e he hh p hp
   · rw [List.mem_singleton.1 he] at hh ⊢
     rw [er,has_at hr,en] at hh
     by_cases e1 : q = r
     · rw [if_pos e1,ec,inc_at _ hr hp]
       split <;> omega
     · rw [if_neg e1] at hh
       have := (h.ge q hq r hr).2
       omega
 · rcases List.mem_append.1 he with he | he
   · have := h.own e he p hp
     have := dle p hp
     omega
   · rw [List.mem_singleton.1 he,ec]
     have := h.ge r hr p hp
     have := dle p hp
     omega
 · refine List.pairwise_append.2 ⟨h.dis,List.pairwise_singleton _ _,fun a ha b hb => ?_⟩
   rw [List.mem_singleton.1 hb]
   rintro ⟨k1,k2⟩
   obtain ⟨p,h1,h2,h3,h4,h5⟩ := h.ev a ha
   rw [er,h2] at k1
   have : p = r := by omega
   subst this
   omega
 · refine List.pairwise_append.2 ⟨h.ord,List.pairwise_singleton _ _,fun a ha b hb => ?_⟩
   rw [List.mem_singleton.1 hb]
   exact nb a ha
 · rcases List.mem_append.1 ha with ha | ha
   · rcases List.mem_append.1 hb with hb | hb
     · exact h.hgt a ha b hb hab
     · rw [List.mem_singleton.1 hb] at hab ⊢
       rw [eh]
       unfold belowB at hab
       rw [ec] at hab
       exact hgt_lt ha hab
   · rw [List.mem_singleton.1 ha] at hab
     rcases List.mem_append.1 hb with hb | hb
     · rw [nb b hb] at hab; cases hab
     · rw [List.mem_singleton.1 hb,ny] at hab; cases hab
 · rcases List.append_eq_append_iff.1 e0 with ⟨us,e1,e2⟩ | ⟨bs,e1,e2⟩
   · cases us with
     | nil =>
      simp only [List.nil_append,List.cons.injEq] at e2
      rw [List.append_nil] at e1
      subst e1
      rw [← e2.1,ec] at h2
      have := (h.ge r hr p hp).2
      exact h.all p hp n h1 (by omega)
     | cons a us =>
      simp only [List.cons_append,List.cons.injEq] at e2
      exact absurd e2.2.symm (by simp)
   · cases bs with
     | nil =>
      simp only [List.nil_append,List.cons.injEq] at e2
      rw [List.append_nil] at e1
      subst e1
      rw [e2.1,ec] at h2
      have := (h.ge r hr p hp).2
      exact h.all p hp n h1 (by omega)
     | cons b bs =>
      simp only [List.cons_append,List.cons.injEq] at e2
      obtain ⟨rfl, -⟩ := e2
      exact h.pre T1 e bs e1 p hp n h1 h2
 · rcases List.mem_append.1 he with he | he
   · exact h.fine e he
   · rw [List.mem_singleton.1 he]
     exact ef
end
theorem fit_fine (x : Ed) (rr n : Int) (c : Clk) (hh : Int) : Fine ⟨rr,n,c,hh,(fitEd x).k,(fitEd x).key,(fitEd x).l,(fitEd x).v⟩ := by
 have h5 : 0 ≤ m5 x.k ∧ m5 x.k ≤ 4 := by
  unfold m5
  have := tmod5 x.k
  omega
 have hk : (ks3 (sumB x.key.data.toList)).size ≤ 3 := by unfold ks3; split; exact Nat.le_refl 3; split; exact Nat.le_refl 3; exact (show 2 ≤ 3 by omega)
 have hv : (vs4 (sumB x.v.data.toList)).size ≤ 12 := by
  unfold vs4
  split
  · exact (show 1 ≤ 12 by omega)
  · split
    · exact (show 3 ≤ 12 by omega)
    · split
      · exact (show 2 ≤ 12 by omega)
      · exact Nat.le_refl 12
 have hl := andI_1 x.l
 unfold fitEd
 split
 · exact ⟨⟨by simp only; omega,by simp only; omega⟩,hk,by simp only; omega,hv⟩
 · exact ⟨⟨by simp only; omega,by simp only; omega⟩,hk, .inl rfl,Nat.zero_le _⟩
theorem mod_five {x : Int} : (x % 5).toNat < 5 := by omega
theorem Inv.step {T : List Ev} {H : Nat → Clk} (h : Inv T H) (c : Ch0) : Inv (mkStep (T,H) c).1 (mkStep (T,H) c).2 := by
 unfold mkStep
 split
 · exact h.sync mod_five mod_five
 · exact h.edit mod_five (fit_fine _)
theorem inv_fold : ∀ (l : List Ch0) (s : Mk),Inv s.1 s.2 → Inv (l.foldl mkStep s).1 (l.foldl mkStep s).2
  | [],_,h => h
  | c :: l,s,h => by
   rw [List.foldl_cons]
   exact inv_fold l _ (Inv.step h c)
theorem inv_of (l : List Ch0) : Inv (mkS l).1 (mkS l).2 := inv_fold l ([],fun _ => clk0) Inv.nil
end Go.Proofs.YtkkpfjifkjbndaaGreat

/-
 Plain Lean: what was done with some contacts does not matter to the others.
-/
namespace Go.Proofs.YtkkpfjifkjbndaaGreat
open Go.RowKit
def onP (p : ByteArray → Bool) (l : List Ev) : List Ev := l.filter fun x => p x.key
theorem any_on {α : Type} {q f : α → Bool} {l : List α} (h : ∀ x ∈ l,f x = true → q x = true) : (l.filter q).any f = l.any f := by
 rw [List.any_filter]
 refine any_congr fun x hx => ?_
 cases hf : f x with
 | false => simp
 | true => simp [h x hx hf]
theorem sameK_key {a b : Ev} (h : sameK a b = true) : a.key = b.key := of_decide_eq_true h
theorem sameL_key {a b : Ev} (h : sameL a b = true) : a.key = b.key := by
 simp only [sameL,Bool.and_eq_true] at h
 exact sameK_key h.1
theorem sameV_key {a b : Ev} (h : sameV a b = true) : a.key = b.key := by
 simp only [sameV,Bool.and_eq_true] at h
 exact sameL_key h.1
section
variable {p : ByteArray → Bool} {l : List Ev} {e : Ev}
theorem above_on {k : Int} {same : Ev → Ev → Bool} (hs : ∀ a b,same a b = true → a.key = b.key) (he : p e.key = true) : aboveB k same (onP p l) e = aboveB k same l e :=
 any_on fun x _ h => by
  simp only [Bool.and_eq_true] at h
  rw [hs _ _ h.2.1]
  exact he
theorem under_on {k : Int} {same : Ev → Ev → Bool} (hs : ∀ a b,same a b = true → a.key = b.key) (he : p e.key = true) : underB k same (onP p l) e = underB k same l e :=
 any_on fun x _ h => by
  simp only [Bool.and_eq_true] at h
  rw [hs _ _ h.2.1]
  exact he
theorem lives_on (he : p e.key = true) : livesB (onP p l) e = livesB l e := by unfold livesB; rw [above_on (fun _ _ => sameK_key) he]
theorem living_on : livingB (onP p l) = onP p (livingB l) := by
 unfold livingB onP
 rw [List.filter_filter,List.filter_filter]
 refine List.filter_congr fun x _ => ?_
 cases h : p x.key with
 | false => simp
 | true =>
  have h2 : livesB (l.filter fun x => p x.key) x = livesB l x := lives_on h
  rw [h2,Bool.and_comm]
theorem count_on (he : p e.key = true) : countB (onP p l) (livingB (onP p l)) e = countB l (livingB l) e := by
 unfold countB
 rw [living_on,above_on (fun _ _ => sameV_key) he,under_on (fun _ _ => sameK_key) he]
theorem counting_on : countingB (onP p l) (livingB (onP p l)) = onP p (countingB l (livingB l)) := by
 have h : ∀ e,p e.key = true → countB (onP p l) (livingB (onP p l)) e = countB l (livingB l) e := fun e he => count_on he
 unfold countingB
 generalize countB (onP p l) (livingB (onP p l)) = f at h
 unfold onP
 rw [List.filter_filter,List.filter_filter]
 refine List.filter_congr fun x _ => ?_
 cases hp : p x.key with
 | false => simp
 | true => rw [h x hp,Bool.and_comm]
theorem later_on (he : p e.key = true) : laterB (onP p l) e = laterB l e := by
 unfold laterB
 split
 · exact above_on (fun _ _ => sameV_key) he
 · exact above_on (fun _ _ => sameL_key) he
theorem arrS (b : ByteArray) : (⟨(strL b).toArray⟩ : ByteArray) = b := by obtain ⟨a⟩ := b; simp [strL]
theorem filter_on {key : ByteArray} {ws : List Ev} {f : Ev → Bool} (hk : p key = true) (hf : ∀ e,f e = true → e.key = key) : (onP p ws).filter f = ws.filter f := by
 unfold onP
 rw [List.filter_filter]
 refine List.filter_congr fun x _ => ?_
 cases h : f x with
 | false => simp
 | true => rw [hf x h,hk]; rfl
theorem contact_on {key : ByteArray} {ws : List Ev} (hk : p key = true) : contactB key (onP p ws) = contactB key ws := by
 have h1 : ∀ n,setsB key n (onP p ws) = setsB key n ws := fun n => filter_on hk fun e h => by
  simp only [ofK,Bool.and_eq_true,decide_eq_true_eq] at h
  exact h.1.1
 have h2 : ∀ n,addsB key n (onP p ws) = addsB key n ws := fun n => filter_on hk fun e h => by
  simp only [ofK,Bool.and_eq_true,decide_eq_true_eq] at h
  exact h.1.1
 unfold contactB
 rw [h1,h1,h2,h2]
theorem len_two {α : Type} {q : α → Bool} : ∀ l : List α,(l.filter q).length + (l.filter fun x => !q x).length = l.length
  | [] => rfl
  | x :: l => by
   have := len_two (q := q) l
   rw [List.filter_cons,List.filter_cons]
   cases q x <;> simp <;> omega
theorem size_on : sizeB (onP p l) = ((livingB l).filter fun e => p e.key).length + (((countingB l (livingB l)).filter fun e => !laterB l e).filter fun e => p e.key).length := by
 unfold sizeB
 rw [counting_on,living_on]
 congr 2
 unfold onP
 rw [List.filter_filter,List.filter_filter]
 refine List.filter_congr fun x _ => ?_
 cases h : p x.key with
 | false => simp
 | true =>
  have h2 : laterB (l.filter fun x => p x.key) x = laterB l x := later_on h
  rw [h2,Bool.and_comm]
theorem size_two : sizeB l = sizeB (onP p l) + sizeB (onP (fun k => !p k) l) := by
 rw [size_on,size_on,sizeB]
 have h1 := len_two (q := fun e : Ev => p e.key) (livingB l)
 have h2 := len_two (q := fun e : Ev => p e.key) ((countingB l (livingB l)).filter fun e => !laterB l e)
 omega
end
end Go.Proofs.YtkkpfjifkjbndaaGreat

/-
 Plain Lean: the last one of stamps is the one that none is later than.
-/
namespace Go.Proofs.YtkkpfjifkjbndaaGreat
open Go.RowKit
theorem less_iff (a b : St) : lessB a b = true ↔ a.1 < b.1 ∨ (a.1 = b.1 ∧ a.2 < b.2) := by
 unfold lessB
 split
 · rename_i h
   simp only [decide_eq_true_eq]
   omega
 · rename_i h
   simp only [decide_eq_true_eq]
   omega
theorem top_max : ∀ (l : List St) (m : St),¬ lessB (topB m l) m = true ∧ ∀ x ∈ l,¬ lessB (topB m l) x = true
  | [],m => by
   refine ⟨fun h => ?_,fun x hx => absurd hx (by simp)⟩
   have := (less_iff m m).1 h
   omega
  | x :: l,m => by
   obtain ⟨h1,h2⟩ := top_max l (if lessB m x = true then x else m)
   show ¬ lessB (topB (if lessB m x = true then x else m) l) m = true ∧ ∀ y ∈ x :: l,¬ lessB (topB (if lessB m x = true then x else m) l) y = true
   generalize topB (if lessB m x = true then x else m) l = t at h1 h2
   have h3 : ¬ lessB t m = true ∧ ¬ lessB t x = true := by
    split at h1
    · rename_i hmx
      rw [less_iff] at hmx h1
      refine ⟨?_,by rw [less_iff]; exact h1⟩
      rw [less_iff]
      omega
    · rename_i hmx
      rw [less_iff] at hmx h1
      refine ⟨by rw [less_iff]; exact h1,?_⟩
      rw [less_iff]
      omega
   refine ⟨h3.1,fun y hy => ?_⟩
   rcases List.mem_cons.1 hy with rfl | hy
   · exact h3.2
   · exact h2 y hy
end Go.Proofs.YtkkpfjifkjbndaaGreat

/-
 Plain Lean: of events of which no two have one stamp the order does not matter; events in another order,in which what is below comes first.
-/
namespace Go.Proofs.YtkkpfjifkjbndaaGreat
open Go.RowKit
theorem getS {l : List Str} {i : Nat} (h : i < l.length) : l.getD i [] = l[i] := by rw [List.getD,List.getElem?_eq_getElem h]; rfl
theorem field_is {A : List Ev} (h : ¬ A.length = 0) : ∃ e ∈ A,fieldF A = e.v ∧ stampE e = topB ((A.map stampE).getD 0 default) (A.map stampE) := by
 have hlt := last_lt (l := A.map stampE) (by intro e; exact h (by rw [← List.length_map (f := stampE),e]; rfl))
 have hg := List.findIdx_getElem (p := fun s => decide (s = topB ((A.map stampE).getD 0 default) (A.map stampE))) (xs := A.map stampE) (w := hlt)
 have hlt' := hlt
 rw [List.length_map] at hlt
 refine ⟨A[lastN (A.map stampE)],List.getElem_mem hlt,?_,?_⟩
 · rw [fieldF,if_neg h,getS (by rw [List.length_map]; exact hlt),List.getElem_map,arrS]
 · have := of_decide_eq_true hg
   have e2 : (A.map stampE)[lastN (A.map stampE)]'hlt' = stampE (A[lastN (A.map stampE)]) := List.getElem_map ..
   exact e2.symm.trans this
def OneStamp (l : List Ev) : Prop := ∀ a ∈ l,∀ b ∈ l,stampE a = stampE b → a = b
theorem less_or {a b : St} (h : ¬ lessB a b = true) (k : ¬ lessB b a = true) : a = b := by
 rw [less_iff] at h k
 obtain ⟨a1,a2⟩ := a
 obtain ⟨b1,b2⟩ := b
 simp only at h k
 have : a1 = b1 := by omega
 have : a2 = b2 := by omega
 simp [*]
theorem field_top {A : List Ev} {e : Ev} (hd : OneStamp A) (he : e ∈ A) (hm : ∀ x ∈ A,¬ lessB (stampE e) (stampE x) = true) : fieldF A = e.v := by
 have h0 : ¬ A.length = 0 := by
  intro h
  rw [List.length_eq_zero_iff] at h
  rw [h] at he
  cases he
 obtain ⟨x,hx,e1,e2⟩ := field_is h0
 have ht := top_max (A.map stampE) ((A.map stampE).getD 0 default)
 rw [← e2] at ht
 have := less_or (hm x hx) (ht.2 (stampE e) (List.mem_map.2 ⟨e,he,rfl⟩))
 rw [e1,hd e he x hx this]
section
variable {l l' : List Ev}
end
theorem pair_in {α : Type} {R : α → α → Prop} {l : List α} (h : l.Pairwise fun a b => ¬ R a b) (hs : ∀ a b,R a b → R b a) {a b : α} (ha : a ∈ l) (hb : b ∈ l) (hr : R a b) : a = b := by
 obtain ⟨i,hi,rfl⟩ := List.getElem_of_mem ha
 obtain ⟨j,hj,rfl⟩ := List.getElem_of_mem hb
 rcases Nat.lt_trichotomy i j with k | k | k
 · exact absurd hr (List.pairwise_iff_getElem.1 h i j hi hj k)
 · subst k; rfl
 · exact absurd (hs _ _ hr) (List.pairwise_iff_getElem.1 h j i hj hi k)
theorem Inv.mark {T : List Ev} {H : Nat → Clk} (h : Inv T H) {a b : Ev} (ha : a ∈ T) (hb : b ∈ T) (hr : a.r = b.r) (hn : a.n = b.n) : a = b :=
 pair_in (R := fun a b => a.r = b.r ∧ a.n = b.n) h.dis (fun _ _ k => ⟨k.1.symm,k.2.symm⟩) ha hb ⟨hr,hn⟩
theorem Inv.stamp {T : List Ev} {H : Nat → Clk} (h : Inv T H) : OneStamp T := fun a ha b hb e => by
 obtain ⟨p,a1,a2,a3,a4,a5⟩ := h.ev a ha
 obtain ⟨q,b1,b2,b3,b4,b5⟩ := h.ev b hb
 have eh : a.h = b.h := congrArg Prod.fst e
 have er : a.r = b.r := congrArg Prod.snd e
 have epq : p = q := by rw [a2,b2] at er; omega
 subst epq
 rcases Int.lt_trichotomy a.n b.n with k | k | k
 · have := h.hgt a ha b hb (by unfold belowB; rw [a2]; exact (has_at a1).2 ⟨a3,by omega⟩)
   omega
 · exact h.mark ha hb er k
 · have := h.hgt b hb a ha (by unfold belowB; rw [b2]; exact (has_at a1).2 ⟨b3,by omega⟩)
   omega
structure Spr where
 (out left : List Ev) (hv : Clk)
def rdyP (left : List Ev) (h : Clk) (k : Nat) : Bool := (left.getD k default).c.le h
def rdyL (left : List Ev) (h : Clk) : List Nat := (List.range left.length).filter (rdyP left h)
def pickN (picks : List UInt8) (i : Nat) (rd : List Nat) : Nat := if i < picks.length then rd.getD ((picks.getD i 0).toNat % rd.length) 0 else rd.getD 0 0
def Clk.top (c : Clk) : Nat → Int → Clk
  | 0,n => ⟨mxI c.c0 n,c.c1,c.c2,c.c3,c.c4⟩
  | 1,n => ⟨c.c0,mxI c.c1 n,c.c2,c.c3,c.c4⟩
  | 2,n => ⟨c.c0,c.c1,mxI c.c2 n,c.c3,c.c4⟩
  | 3,n => ⟨c.c0,c.c1,c.c2,mxI c.c3 n,c.c4⟩
  | _,n => ⟨c.c0,c.c1,c.c2,c.c3,mxI c.c4 n⟩
theorem top_at (c : Clk) {r q : Nat} (n : Int) (hr : r < 5) (hq : q < 5) : (c.top r n).at q = if q = r then mxI (c.at q) n else c.at q := by
 obtain rfl | rfl | rfl | rfl | rfl : r = 0 ∨ r = 1 ∨ r = 2 ∨ r = 3 ∨ r = 4 := by omega
 all_goals (obtain rfl | rfl | rfl | rfl | rfl : q = 0 ∨ q = 1 ∨ q = 2 ∨ q = 3 ∨ q = 4 := by omega)
 all_goals rfl
def sprAt (s : Spr) (k : Nat) : Spr := ⟨s.out ++ [s.left.getD k default],s.left.take k ++ s.left.drop (k + 1),s.hv.top (s.left.getD k default).r.toNat (s.left.getD k default).n⟩
def sprN (picks : List UInt8) (W : List Ev) : Nat → Spr
  | 0 => ⟨[],W,clk0⟩
  | i + 1 => sprAt (sprN picks W i) (pickN picks i (rdyL (sprN picks W i).left (sprN picks W i).hv))
structure SprOk (W : List Ev) (s : Spr) : Prop where
 perm : (s.out ++ s.left).Perm W
 sub : s.left.Sublist W
 hv : ∀ e ∈ s.out,∀ r : Nat,r < 5 → e.r = (r : Int) → e.n ≤ s.hv.at r
 pos : ∀ r : Nat,r < 5 → 0 ≤ s.hv.at r
theorem rdy_mem {left : List Ev} {h : Clk} {k : Nat} : k ∈ rdyL left h ↔ k < left.length ∧ rdyP left h k = true := by
 unfold rdyL
 rw [List.mem_filter,List.mem_range]
theorem SprOk.rdy {W : List Ev} {H : Nat → Clk} (hI : Inv W H) {s : Spr} (h : SprOk W s) (hl : 0 < s.left.length) : 0 ∈ rdyL s.left s.hv := by
 obtain ⟨out,left,hv⟩ := s
 obtain ⟨h1,h2,h3,h4⟩ := h
 simp only at h1 h2 h3 h4 hl ⊢
 match left,hl with
 | f :: rest,_ =>
  refine rdy_mem.2 ⟨Nat.succ_pos _,?_⟩
  show f.c.le hv = true
  rw [le_at]
  intro r hr
  obtain ⟨r1,r2,eW,hf,hrest⟩ := List.cons_sublist_iff.1 h2
  obtain ⟨W1,W2,er1⟩ := List.append_of_mem hf
  subst er1
  have eW' : W = W1 ++ f :: (W2 ++ r2) := by rw [eW]; simp
  have hfW : f ∈ W := by rw [eW']; simp
  rcases Int.lt_or_le (f.c.at r) 1 with k | k
  · have := h4 r hr
    omega
  · obtain ⟨x,hx,x1,x2⟩ := hI.pre W1 f (W2 ++ r2) eW' r hr (f.c.at r) k (Int.le_refl _)
    have hxW : x ∈ W := by rw [eW']; exact List.mem_append.2 (.inl hx)
    have hd := hI.dis
    rw [eW'] at hd
    have hd' := (List.pairwise_append.1 hd).2.2 x hx
    have hne : x ∉ f :: (W2 ++ r2) := fun hm => hd' x hm ⟨rfl,rfl⟩
    have hxo : x ∈ out := by
     rcases List.mem_append.1 (h1.mem_iff.2 hxW) with k | k
     · exact k
     · refine absurd ?_ hne
       rcases List.mem_cons.1 k with rfl | k
       · exact List.mem_cons_self
       · exact List.mem_cons_of_mem _ (List.mem_append.2 (.inr (hrest.subset k)))
    have := h3 x hxo r hr x1
    omega
theorem perm_at {α : Type} {l : List α} {k : Nat} (h : k < l.length) : (l[k] :: l.eraseIdx k).Perm l := by
 rw [List.eraseIdx_eq_take_drop_succ]
 refine List.perm_middle.symm.trans ?_
 rw [← List.drop_eq_getElem_cons h,List.take_append_drop]
theorem SprOk.at {W : List Ev} {H : Nat → Clk} (hI : Inv W H) {s : Spr} (h : SprOk W s) {k : Nat} (hk : k < s.left.length) : SprOk W (sprAt s k) := by
 obtain ⟨out,left,hv⟩ := s
 obtain ⟨h1,h2,h3,h4⟩ := h
 simp only at h1 h2 h3 h4 hk
 have hg : left.getD k default = left[k] := by rw [List.getD,List.getElem?_eq_getElem hk]; rfl
 have he : left.take k ++ left.drop (k + 1) = left.eraseIdx k := (List.eraseIdx_eq_take_drop_succ ..).symm
 have hm : left[k] ∈ W := h2.subset (List.getElem_mem hk)
 obtain ⟨p,p1,p2,_⟩ := hI.ev _ hm
 have ep : left[k].r.toNat = p := by rw [p2]; omega
 unfold sprAt
 simp only [hg,he,ep]
 refine ⟨?_,(List.eraseIdx_sublist ..).trans h2,fun e hx r hr h5 => ?_,fun r hr => ?_⟩
 · have := (perm_at hk).append_left out
   refine (List.Perm.trans ?_ this).trans h1
   rw [List.append_assoc]
   exact .refl _
 · show e.n ≤ (hv.top p left[k].n).at r
   rw [top_at _ _ p1 hr]
   have hx : e ∈ out ++ [left[k]] := hx
   rcases List.mem_append.1 hx with hx | hx
   · have := h3 e hx r hr h5
     split
     · have := mx_l (hv.at r) left[k].n
       omega
     · exact this
   · rw [List.mem_singleton.1 hx] at h5 ⊢
     have : r = p := by rw [p2] at h5; omega
     rw [if_pos this]
     exact mx_r _ _
 · show 0 ≤ (hv.top p left[k].n).at r
   rw [top_at _ _ p1 hr]
   have := h4 r hr
   split
   · have := mx_l (hv.at r) left[k].n
     omega
   · exact this
theorem pick_lt {picks : List UInt8} {i : Nat} {left : List Ev} {h : Clk} (h0 : 0 ∈ rdyL left h) : pickN picks i (rdyL left h) < left.length := by
 have hl : 0 < (rdyL left h).length := List.length_pos_of_mem h0
 have hm : ∀ j,j < (rdyL left h).length → (rdyL left h).getD j 0 < left.length := fun j hj => by
  rw [List.getD,List.getElem?_eq_getElem hj]
  exact (rdy_mem.1 (List.getElem_mem hj)).1
 unfold pickN
 split
 · exact hm _ (Nat.mod_lt _ hl)
 · exact hm 0 hl
theorem sprN_ok {W : List Ev} {H : Nat → Clk} (hI : Inv W H) (picks : List UInt8) : ∀ i,i ≤ W.length → SprOk W (sprN picks W i) ∧ (sprN picks W i).left.length = W.length - i
  | 0,_ => ⟨⟨.refl _, .refl _,fun e he => (by cases he),fun r _ => (match r with | 0 => Int.le_refl _ | 1 => Int.le_refl _ | 2 => Int.le_refl _ | 3 => Int.le_refl _ | _ + 4 => Int.le_refl _)⟩,rfl⟩
  | i + 1,hi => by
   obtain ⟨h1,h2⟩ := sprN_ok hI picks i (by omega)
   have h0 := h1.rdy hI (by omega)
   have hk := pick_lt (picks := picks) (i := i) h0
   refine ⟨h1.at hI hk,?_⟩
   show ((sprN picks W i).left.take _ ++ (sprN picks W i).left.drop _).length = _
   rw [List.length_append,List.length_take,List.length_drop]
   omega
def sprL (picks : List UInt8) (W : List Ev) : List Ev := (sprN picks W W.length).out
theorem spr_perm {W : List Ev} {H : Nat → Clk} (hI : Inv W H) (picks : List UInt8) : W.Perm (sprL picks W) := by
 obtain ⟨h1,h2⟩ := sprN_ok hI picks W.length (Nat.le_refl _)
 have : (sprN picks W W.length).left = [] := List.length_eq_zero_iff.1 (by omega)
 have h3 := h1.perm
 rw [this,List.append_nil] at h3
 exact h3.symm
end Go.Proofs.YtkkpfjifkjbndaaGreat
