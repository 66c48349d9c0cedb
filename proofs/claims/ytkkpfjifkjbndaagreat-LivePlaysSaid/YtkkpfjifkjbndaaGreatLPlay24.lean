/-
  Contracts of the walk: Br3, Br4, Br5P, Br6.
-/
import Derived.Test.YtkkpfjifkjbndaaGreatLPlay23
import Derived.Test.YtkkpfjifkjbndaaGreatLPlay12
import Derived.Test.YtkkpfjifkjbndaaGreatLPlay10
/-
 The reference of layers 4 and 9: the place of the last stamp; a row of texts with one more.
-/
namespace Go.Proofs.YtkkpfjifkjbndaaGreat
open Go.RowKit
def lastR (l : List St) : Int := if l.length = 0 then -1 else (lastN l : Int)
theorem last_here {l : List St} {j : Nat} (hj : j < l.length) (hm : ∀ m,m < l.length → lessB (l.getD j default) (l.getD m default) = false) (he : ∀ i,i < j → ∃ k,k < l.length ∧ lessB (l.getD i default) (l.getD k default) = true) : lastR l = (j : Int) := by
 have hg : ∀ {i : Nat},i < l.length → l.getD i default ∈ l := fun h => by
  rw [List.getD,List.getElem?_eq_getElem h]
  exact List.getElem_mem _
 have ht := top_is (hg hj) (fun x hx => by
  obtain ⟨m,hm',rfl⟩ := List.getElem_of_mem hx
  have := hm m hm'
  rw [show l.getD m default = l[m] by rw [List.getD,List.getElem?_eq_getElem hm']; rfl] at this
  rw [this]
  simp)
 rw [lastR,if_neg (by omega)]
 congr 1
 unfold lastN
 rw [ht]
 refine (List.findIdx_eq hj).2 ⟨?_,fun i hi => ?_⟩
 · rw [List.getD,List.getElem?_eq_getElem hj]
   exact decide_eq_true rfl
 · refine decide_eq_false fun e => ?_
   obtain ⟨k,hk,hl⟩ := he i hi
   have := hm k hk
   rw [← e] at this
   rw [List.getD,List.getElem?_eq_getElem (show i < l.length by omega)] at hl
   rw [show l[i] = (some l[i]).getD default from rfl] at this
   rw [this] at hl
   cases hl
set_option maxHeartbeats 8000000 in
set_option maxRecDepth 100000 in
theorem lastR_spec (l : List St) (hl : l.length ≤ 1000000000) : ASpec Tryz.prog 42 [.sl 2 l.length true (stF l)] (.v (.int .i64 (lastR l))) [] := by
 have hret := fun {j : Nat} => last_here (l := l) (j := j)
 have hemp : l.length = 0 → lastR l = -1 := fun h => if_pos h
 generalize lastR l = R at hret hemp
 refine aspec_of lay_ok 8590001277 Tryz.func42 rfl rfl rfl ?_
 repeat' ((conv => whnf); first | refine Spl.yes (by first | assumption | omega) ?_ | refine Spl.no (by first | assumption | omega) ?_ | refine Wr.i64 (by omega) (by omega) ?_ | refine Still.mk rfl rfl ?_ | refine InB.mk (inB_mk (by omega) (by omega)) ?_ | refine Req.mk (by omega) ?_ | refine Req.mk ⟨by first | omega | (dsimp only; omega),by first | omega | (dsimp only; omega)⟩ ?_ | refine ARet.hdI ?_ | refine Spl.mk (fun _ => ?_) (fun _ => ?_) | refine InA.mk (inB_mk (by omega) (by omega)) ?_ | refine Wr.b64 ?_ | refine Wr.bu64 ?_ | refine Wr.bu32 ?_ | refine Wr.bu8 ?_ | refine Wr.u8 (by omega) (by omega) ?_ | refine Wr.u64 (by omega) (by omega) ?_ | refine Wr.u32 (by omega) (by omega) ?_ | refine Dv.pos (by omega) (by omega) ?_ | refine Rm.pos (by omega) (by omega) ?_ | refine ADraw.quiet follows_ok (by kernel_rfl) rfl ?_ | refine ADraw.sched (id := 8) lay_ok (awp_snd lay_ok _) [(0,none),(1,none),(2,none),(3,none),(4,none),(5,none),(6,none),(7,none),(8,some [7,3]),(9,none)] [(8,[7,3]),(9,[7,3])] follows_ok (by kernel_rfl) ?_ | refine BSpl.decY (by first | assumption | omega) ?_ | refine BSpl.decN (by first | assumption | omega) ?_ | refine BSpl.dec (fun _ => ?_) (fun _ => ?_) | refine BSpl.yes (by assumption) ?_ | refine BSpl.no (by assumption) ?_ | refine BSpl.mk (fun _ => ?_) (fun _ => ?_))
 conv => whnf
 refine ALoop.mk { j : Nat // j ≤ l.length ∧ ∀ i,i < j → ∃ k,k < l.length ∧ lessB (l.getD i default) (l.getD k default) = true } (fun j => ⟨[(0, .sl 2 l.length true (stF l)),(3, .v (.int .i64 (j.1 : Int)))],[],[],0⟩) (fun j => l.length - j.1) ⟨0,Nat.zero_le _,fun i h => absurd h (Nat.not_lt_zero i)⟩ _
  (LeR.mk' [] _ _ _ rfl ⟨AEq.refl _,AEq.int rfl,trivial⟩ trivial rfl) ?_
 rintro ⟨j,hj,hall⟩
 dsimp only
 by_cases hjl : j < l.length
 · repeat' ((conv => whnf); first | refine Spl.yes (by first | assumption | omega) ?_ | refine Spl.no (by first | assumption | omega) ?_ | refine Wr.i64 (by omega) (by omega) ?_ | refine Still.mk rfl rfl ?_ | refine InB.mk (inB_mk (by omega) (by omega)) ?_ | refine Req.mk (by omega) ?_ | refine Req.mk ⟨by first | omega | (dsimp only; omega),by first | omega | (dsimp only; omega)⟩ ?_ | refine ARet.hdI ?_ | refine Spl.mk (fun _ => ?_) (fun _ => ?_) | refine InA.mk (inB_mk (by omega) (by omega)) ?_ | refine Wr.b64 ?_ | refine Wr.bu64 ?_ | refine Wr.bu32 ?_ | refine Wr.bu8 ?_ | refine Wr.u8 (by omega) (by omega) ?_ | refine Wr.u64 (by omega) (by omega) ?_ | refine Wr.u32 (by omega) (by omega) ?_ | refine Dv.pos (by omega) (by omega) ?_ | refine Rm.pos (by omega) (by omega) ?_ | refine ADraw.quiet follows_ok (by kernel_rfl) rfl ?_ | refine ADraw.sched (id := 8) lay_ok (awp_snd lay_ok _) [(0,none),(1,none),(2,none),(3,none),(4,none),(5,none),(6,none),(7,none),(8,some [7,3]),(9,none)] [(8,[7,3]),(9,[7,3])] follows_ok (by kernel_rfl) ?_ | refine BSpl.decY (by first | assumption | omega) ?_ | refine BSpl.decN (by first | assumption | omega) ?_ | refine BSpl.dec (fun _ => ?_) (fun _ => ?_) | refine BSpl.yes (by assumption) ?_ | refine BSpl.no (by assumption) ?_ | refine BSpl.mk (fun _ => ?_) (fun _ => ?_))
   conv => whnf
   refine ALoop.mk { x : Nat × Bool // x.1 ≤ l.length ∧ (x.2 = true → ∀ m,m < x.1 → lessB (l.getD j default) (l.getD m default) = false) ∧ (x.2 = false → ∃ k,k < l.length ∧ lessB (l.getD j default) (l.getD k default) = true) }
    (fun x => ⟨[(0, .sl 2 l.length true (stF l)),(3, .v (.int .i64 (j : Int))),(4, .v (.bool x.1.2)),(5, .v (.int .i64 (x.1.1 : Int)))],[],[],0⟩) (fun x => l.length - x.1.1) ⟨(0,true),Nat.zero_le _,fun _ m h => absurd h (Nat.not_lt_zero m),fun h => by cases h⟩ _
    (LeR.mk' [] _ _ _ rfl ⟨AEq.refl _,AEq.refl _,AEq.refl _,AEq.int rfl,trivial⟩ trivial rfl) ?_
   rintro ⟨⟨k,b⟩,hk,hb1,hb2⟩
   dsimp only at hk hb1 hb2 ⊢
   by_cases hkl : k < l.length
   · have hls := lessR_spec (l.getD (j : Int).toNat default) (l.getD (k : Int).toNat default)
     have hq : lessB (l.getD j default) (l.getD k default) = lessB (l.getD (j : Int).toNat default) (l.getD (k : Int).toNat default) := rfl
     generalize lessB (l.getD (j : Int).toNat default) (l.getD (k : Int).toNat default) = q at hls hq
     have n1 : b = true → q = false → (∀ m,m < k + 1 → lessB (l.getD j default) (l.getD m default) = false) := fun h1 h2 m hm => by
      rcases Nat.lt_or_ge m k with h' | h'
      · exact hb1 h1 m h'
      · obtain rfl : m = k := by omega
        rw [hq,h2]
     have n2 : q = true → ∃ k,k < l.length ∧ lessB (l.getD j default) (l.getD k default) = true := fun h => ⟨k,hkl,by rw [hq,h]⟩
     clear hq hb1 hret hemp hall
     dsimp only [stC] at hls
     repeat' ((conv => whnf); first | refine Spl.yes (by first | assumption | omega) ?_ | refine Spl.no (by first | assumption | omega) ?_ | refine Wr.i64 (by omega) (by omega) ?_ | refine Still.mk rfl rfl ?_ | refine InB.mk (inB_mk (by omega) (by omega)) ?_ | refine Req.mk (by omega) ?_ | refine Req.mk ⟨by first | omega | (dsimp only; omega),by first | omega | (dsimp only; omega)⟩ ?_ | refine ACall.plain _ _ (hls) (SubL.cons (.eq _) (SubL.cons (.eq _) .nil)) rfl ?_ | refine ARet.hdI ?_ | refine Spl.mk (fun _ => ?_) (fun _ => ?_) | refine InA.mk (inB_mk (by omega) (by omega)) ?_ | refine Wr.b64 ?_ | refine Wr.bu64 ?_ | refine Wr.bu32 ?_ | refine Wr.bu8 ?_ | refine Wr.u8 (by omega) (by omega) ?_ | refine Wr.u64 (by omega) (by omega) ?_ | refine Wr.u32 (by omega) (by omega) ?_ | refine Dv.pos (by omega) (by omega) ?_ | refine Rm.pos (by omega) (by omega) ?_ | refine ADraw.quiet follows_ok (by kernel_rfl) rfl ?_ | refine ADraw.sched (id := 8) lay_ok (awp_snd lay_ok _) [(0,none),(1,none),(2,none),(3,none),(4,none),(5,none),(6,none),(7,none),(8,some [7,3]),(9,none)] [(8,[7,3]),(9,[7,3])] follows_ok (by kernel_rfl) ?_ | refine BSpl.decY (by first | assumption | omega) ?_ | refine BSpl.decN (by first | assumption | omega) ?_ | refine BSpl.dec (fun _ => ?_) (fun _ => ?_) | refine BSpl.yes (by assumption) ?_ | refine BSpl.no (by assumption) ?_ | refine BSpl.mk (fun _ => ?_) (fun _ => ?_))
     all_goals (conv => whnf)
     all_goals first
       | exact ⟨⟨(k + 1,true),hkl,fun _ => n1 (by assumption) (by assumption),fun h => by cases h⟩,_,LeR.mk' [] _ _ _ rfl ⟨AEq.refl _,AEq.refl _,AEq.refl _,AEq.int rfl,trivial⟩ trivial rfl,Nat.sub_succ_lt_self _ _ hkl⟩
       | exact ⟨⟨(k + 1,false),hkl,fun h => (by cases h),fun _ => by first | exact n2 (by assumption) | exact hb2 (by assumption)⟩,_,LeR.mk' [] _ _ _ rfl ⟨AEq.refl _,AEq.refl _,AEq.refl _,AEq.int rfl,trivial⟩ trivial rfl,Nat.sub_succ_lt_self _ _ hkl⟩
   · rcases b with _ | _
     · have hup : ∀ i,i < j + 1 → ∃ k,k < l.length ∧ lessB (l.getD i default) (l.getD k default) = true := fun i hi => by
        rcases Nat.lt_or_ge i j with h' | h'
        · exact hall i h'
        · obtain rfl : i = j := by omega
          exact hb2 rfl
       repeat' ((conv => whnf); first | refine Spl.yes (by first | assumption | omega) ?_ | refine Spl.no (by first | assumption | omega) ?_ | refine Wr.i64 (by omega) (by omega) ?_ | refine Still.mk rfl rfl ?_ | refine InB.mk (inB_mk (by omega) (by omega)) ?_ | refine Req.mk (by omega) ?_ | refine Req.mk ⟨by first | omega | (dsimp only; omega),by first | omega | (dsimp only; omega)⟩ ?_ | refine ARet.hdI ?_ | refine Spl.mk (fun _ => ?_) (fun _ => ?_) | refine InA.mk (inB_mk (by omega) (by omega)) ?_ | refine Wr.b64 ?_ | refine Wr.bu64 ?_ | refine Wr.bu32 ?_ | refine Wr.bu8 ?_ | refine Wr.u8 (by omega) (by omega) ?_ | refine Wr.u64 (by omega) (by omega) ?_ | refine Wr.u32 (by omega) (by omega) ?_ | refine Dv.pos (by omega) (by omega) ?_ | refine Rm.pos (by omega) (by omega) ?_ | refine ADraw.quiet follows_ok (by kernel_rfl) rfl ?_ | refine ADraw.sched (id := 8) lay_ok (awp_snd lay_ok _) [(0,none),(1,none),(2,none),(3,none),(4,none),(5,none),(6,none),(7,none),(8,some [7,3]),(9,none)] [(8,[7,3]),(9,[7,3])] follows_ok (by kernel_rfl) ?_ | refine BSpl.decY (by first | assumption | omega) ?_ | refine BSpl.decN (by first | assumption | omega) ?_ | refine BSpl.dec (fun _ => ?_) (fun _ => ?_) | refine BSpl.yes (by assumption) ?_ | refine BSpl.no (by assumption) ?_ | refine BSpl.mk (fun _ => ?_) (fun _ => ?_))
       conv => whnf
       exact ⟨⟨j + 1,hjl,hup⟩,_,LeR.mk' [] _ _ _ rfl ⟨AEq.refl _,AEq.int rfl,trivial⟩ trivial rfl,Nat.sub_succ_lt_self _ _ hjl⟩
     · rw [hret hjl (fun m hm => hb1 rfl m (by omega)) hall]
       repeat' ((conv => whnf); first | refine Spl.yes (by first | assumption | omega) ?_ | refine Spl.no (by first | assumption | omega) ?_ | refine Wr.i64 (by omega) (by omega) ?_ | refine Still.mk rfl rfl ?_ | refine InB.mk (inB_mk (by omega) (by omega)) ?_ | refine Req.mk (by omega) ?_ | refine Req.mk ⟨by first | omega | (dsimp only; omega),by first | omega | (dsimp only; omega)⟩ ?_ | refine ARet.hdI ?_ | refine Spl.mk (fun _ => ?_) (fun _ => ?_) | refine InA.mk (inB_mk (by omega) (by omega)) ?_ | refine Wr.b64 ?_ | refine Wr.bu64 ?_ | refine Wr.bu32 ?_ | refine Wr.bu8 ?_ | refine Wr.u8 (by omega) (by omega) ?_ | refine Wr.u64 (by omega) (by omega) ?_ | refine Wr.u32 (by omega) (by omega) ?_ | refine Dv.pos (by omega) (by omega) ?_ | refine Rm.pos (by omega) (by omega) ?_ | refine ADraw.quiet follows_ok (by kernel_rfl) rfl ?_ | refine ADraw.sched (id := 8) lay_ok (awp_snd lay_ok _) [(0,none),(1,none),(2,none),(3,none),(4,none),(5,none),(6,none),(7,none),(8,some [7,3]),(9,none)] [(8,[7,3]),(9,[7,3])] follows_ok (by kernel_rfl) ?_ | refine BSpl.decY (by first | assumption | omega) ?_ | refine BSpl.decN (by first | assumption | omega) ?_ | refine BSpl.dec (fun _ => ?_) (fun _ => ?_) | refine BSpl.yes (by assumption) ?_ | refine BSpl.no (by assumption) ?_ | refine BSpl.mk (fun _ => ?_) (fun _ => ?_))
       conv => whnf
       exact AEqI.mk (AEq.refl _)
 · have h0 : l.length = 0 := by
    rcases Nat.eq_zero_or_pos l.length with h | h
    · exact h
    · exfalso
      have hin : topB (l.getD 0 default) l ∈ l := by
       rcases top_mem l (l.getD 0 default) with h' | h'
       · rw [h']
         rw [List.getD,List.getElem?_eq_getElem h]
         exact List.getElem_mem _
       · exact h'
      obtain ⟨i,hi,e⟩ := List.getElem_of_mem hin
      obtain ⟨k,hk,hlt⟩ := hall i (by omega)
      refine (top_max l (l.getD 0 default)).2 (l.getD k default) ?_ ?_
      · rw [List.getD,List.getElem?_eq_getElem hk]
        exact List.getElem_mem _
      · rw [← e]
        rw [List.getD,List.getElem?_eq_getElem hi] at hlt
        exact hlt
   rw [hemp h0]
   repeat' ((conv => whnf); first | refine Spl.yes (by first | assumption | omega) ?_ | refine Spl.no (by first | assumption | omega) ?_ | refine Wr.i64 (by omega) (by omega) ?_ | refine Still.mk rfl rfl ?_ | refine InB.mk (inB_mk (by omega) (by omega)) ?_ | refine Req.mk (by omega) ?_ | refine Req.mk ⟨by first | omega | (dsimp only; omega),by first | omega | (dsimp only; omega)⟩ ?_ | refine ARet.hdI ?_ | refine Spl.mk (fun _ => ?_) (fun _ => ?_) | refine InA.mk (inB_mk (by omega) (by omega)) ?_ | refine Wr.b64 ?_ | refine Wr.bu64 ?_ | refine Wr.bu32 ?_ | refine Wr.bu8 ?_ | refine Wr.u8 (by omega) (by omega) ?_ | refine Wr.u64 (by omega) (by omega) ?_ | refine Wr.u32 (by omega) (by omega) ?_ | refine Dv.pos (by omega) (by omega) ?_ | refine Rm.pos (by omega) (by omega) ?_ | refine ADraw.quiet follows_ok (by kernel_rfl) rfl ?_ | refine ADraw.sched (id := 8) lay_ok (awp_snd lay_ok _) [(0,none),(1,none),(2,none),(3,none),(4,none),(5,none),(6,none),(7,none),(8,some [7,3]),(9,none)] [(8,[7,3]),(9,[7,3])] follows_ok (by kernel_rfl) ?_ | refine BSpl.decY (by first | assumption | omega) ?_ | refine BSpl.decN (by first | assumption | omega) ?_ | refine BSpl.dec (fun _ => ?_) (fun _ => ?_) | refine BSpl.yes (by assumption) ?_ | refine BSpl.no (by assumption) ?_ | refine BSpl.mk (fun _ => ?_) (fun _ => ?_))
   conv => whnf
   exact AEqI.mk (AEq.refl _)
end Go.Proofs.YtkkpfjifkjbndaaGreat

/-
 A row of texts with one more,in order,each once: kithref09.with.
-/
namespace Go.Proofs.YtkkpfjifkjbndaaGreat
open Go.RowKit
theorem less_eq : ∀ (x y : Str),Op.bytesLess x y = decide (x < y)
  | x,[] => by cases x <;> simp [Op.bytesLess]
  | [],_ :: _ => by simp [Op.bytesLess]
  | a :: x,b :: y => by
   rw [Op.bytesLess,less_eq x y]
   by_cases h1 : a < b <;> by_cases h2 : a = b <;> by_cases h3 : x < y <;> simp [List.cons_lt_cons_iff,h1,h2,h3]
theorem toL (b : ByteArray) : b.toList = strL b := ByteArray.toList_eq b
theorem toA (x : Str) : (ByteArray.mk x.toArray).toList = x := by rw [toL]; rfl
theorem arr_strL (b : ByteArray) : (ByteArray.mk (strL b).toArray) = b := by obtain ⟨a⟩ := b; simp [strL]
def IsS (F : Nat → List AV) (l : List Str) : Prop := ∀ i,i < l.length → F i = strF l i
theorem IsS.refl (l : List Str) : IsS (strF l) l := fun _ _ => rfl
theorem IsS.nil (F : Nat → List AV) : IsS F [] := fun i h => absurd h (by simp)
theorem IsS.app {F G : Nat → List AV} {l l' : List Str} {n : Nat} (h : IsS F l) (h' : IsS G l') (hn : n = l.length) : IsS (appF n F G) (l ++ l') := by
 intro i hi
 subst hn
 rw [List.length_append] at hi
 unfold appF
 cases hb : Nat.ble l.length i with
 | true =>
  have := Nat.le_of_ble_eq_true hb
  simp only [cond_true]
  rw [h' (i - l.length) (by omega)]
  unfold strF
  rw [List.getD,List.getD,List.getElem?_append_right this]
 | false =>
  have : i < l.length := Nat.lt_of_not_le fun h => by rw [Nat.ble_eq_true_of_le h] at hb; cases hb
  simp only [cond_false]
  rw [h i this]
  unfold strF
  rw [List.getD,List.getD,List.getElem?_append_left this]
theorem IsS.take {F : Nat → List AV} {l : List Str} (h : IsS F l) (k : Nat) : IsS F (l.take k) := by
 intro i hi
 rw [List.length_take] at hi
 rw [h i (by omega)]
 unfold strF
 rw [List.getD,List.getD,List.getElem?_take_of_lt (by omega)]
theorem IsS.drop {F : Nat → List AV} {l : List Str} (h : IsS F l) (k : Nat) : IsS (fun i => F (k + i)) (l.drop k) := by
 intro i hi
 rw [List.length_drop] at hi
 show F (k + i) = _
 rw [h (k + i) (by omega)]
 unfold strF
 rw [List.getD,List.getD,List.getElem?_drop]
theorem IsS.one (s : ByteArray) : IsS (chunk 1 [.v (.string s)]) [strL s] := by
 intro i hi
 obtain rfl : i = 0 := by simpa using hi
 show [AV.v (.string s)] = [AV.v (encStr (strL s))]
 rw [enc_strL]
theorem AEq.isS {n : Nat} {sc : Bool} {F : Nat → List AV} {l t : List Str} (h : IsS F l) (hn : n = l.length) (ht : l = t) : AEq (.sl 1 n sc F) (.sl 1 t.length sc (strF t)) := by
 subst ht
 exact AEq.sl hn fun i hi => h i (by omega)
def withL (l : List Str) (s : Str) : List Str :=
 if l.getD (l.findIdx fun x => !decide (x < s)) [] = s ∧ (l.findIdx fun x => !decide (x < s)) < l.length then l else l.take (l.findIdx fun x => !decide (x < s)) ++ s :: l.drop (l.findIdx fun x => !decide (x < s))
theorem find_at {l : List Str} {s : Str} {k : Nat} (hk : k ≤ l.length) (hlt : ∀ i,i < k → l.getD i [] < s) (he : k = l.length ∨ ¬ l.getD k [] < s) : (l.findIdx fun x => !decide (x < s)) = k := by
 have hg : ∀ i,i < l.length → l.getD i [] = l[i]! := fun i h => by rw [List.getD,List.getElem?_eq_getElem h,List.getElem!_eq_getElem?_getD,List.getElem?_eq_getElem h]; rfl
 by_cases h : k = l.length
 · subst h
   rw [List.findIdx_eq_length]
   intro x hx
   obtain ⟨i,hi,rfl⟩ := List.getElem_of_mem hx
   have := hlt i hi
   rw [List.getD,List.getElem?_eq_getElem hi] at this
   simpa using this
 · have hkl : k < l.length := by omega
   refine (List.findIdx_eq hkl).2 ⟨?_,fun i hi => ?_⟩
   · have := he.resolve_left h
     rw [List.getD,List.getElem?_eq_getElem hkl] at this
     simpa using this
   · have := hlt i hi
     rw [List.getD,List.getElem?_eq_getElem (show i < l.length by omega)] at this
     simpa using this
set_option maxHeartbeats 8000000 in
set_option maxRecDepth 100000 in
theorem with_spec (l : List Str) (s : ByteArray) (hl : l.length ≤ 1000000000) :
  ASpec Tryz.prog 40 [.sl 1 l.length true (strF l), .v (.string s)] (.sl 1 (withL l (strL s)).length true (strF (withL l (strL s)))) [] := by
 have hW : ∀ k,k ≤ l.length → (∀ i,i < k → l.getD i [] < strL s) → (k = l.length ∨ ¬ l.getD k [] < strL s) → withL l (strL s) = if l.getD k [] = strL s ∧ k < l.length then l else l.take k ++ strL s :: l.drop k := fun k h1 h2 h3 => by
  rw [withL,find_at h1 h2 h3]
 generalize withL l (strL s) = R at hW
 refine aspec_of lay_ok 4295229555 Tryz.func40 rfl rfl rfl ?_
 repeat' ((conv => whnf); first | refine Spl.yes (by first | assumption | omega) ?_ | refine Spl.no (by first | assumption | omega) ?_ | refine Wr.i64 (by omega) (by omega) ?_ | refine Still.mk rfl rfl ?_ | refine InB.mk (inB_mk (by omega) (by omega)) ?_ | refine Req.mk (by omega) ?_ | refine Req.mk ⟨by first | omega | (dsimp only; omega),by first | omega | (dsimp only; omega)⟩ ?_ | refine ARet.hdI ?_ | refine Spl.mk (fun _ => ?_) (fun _ => ?_) | refine InA.mk (inB_mk (by omega) (by omega)) ?_ | refine Wr.b64 ?_ | refine Wr.bu64 ?_ | refine Wr.bu32 ?_ | refine Wr.bu8 ?_ | refine Wr.u8 (by omega) (by omega) ?_ | refine Wr.u64 (by omega) (by omega) ?_ | refine Wr.u32 (by omega) (by omega) ?_ | refine Dv.pos (by omega) (by omega) ?_ | refine Rm.pos (by omega) (by omega) ?_ | refine ADraw.quiet follows_ok (by kernel_rfl) rfl ?_ | refine BSpl.decY (by first | assumption | omega) ?_ | refine BSpl.decN (by first | assumption | omega) ?_ | refine BSpl.dec (fun _ => ?_) (fun _ => ?_) | refine BSpl.yes (by assumption) ?_ | refine BSpl.no (by assumption) ?_ | refine BSpl.mk (fun _ => ?_) (fun _ => ?_))
 conv => whnf
 refine ALoop.mk { k : Nat // k ≤ l.length ∧ ∀ i,i < k → l.getD i [] < strL s } (fun k => ⟨[(0, .sl 1 l.length true (strF l)),(1, .v (.string s)),(5, .v (.int .i64 (k.1 : Int)))],[],[],0⟩) (fun k => l.length - k.1) ⟨0,Nat.zero_le _,fun i h => absurd h (Nat.not_lt_zero i)⟩ _
  (LeR.mk' [] _ _ _ rfl ⟨AEq.refl _,AEq.refl _,AEq.int rfl,trivial⟩ trivial rfl) ?_
 rintro ⟨k,hk,hall⟩
 dsimp only
 have fin : (k = l.length ∨ ¬ l.getD k [] < strL s) → ¬ (l.getD k [] = strL s ∧ k < l.length) → R = l.take k ++ ([strL s] ++ l.drop k) := fun h1 h2 => by rw [hW k hk hall h1,if_neg h2]; rfl
 by_cases hkl : k < l.length
 · have hlss : Op.bytesLess (ByteArray.mk (l.getD (k : Int).toNat []).toArray).toList s.toList = decide (l.getD (k : Int).toNat [] < strL s) := by rw [toA,toL,less_eq]
   by_cases hlt : l.getD (k : Int).toNat [] < strL s
   · rw [decide_eq_true hlt] at hlss
     have hup : ∀ i,i < k + 1 → l.getD i [] < strL s := fun i hi => by
      rcases Nat.lt_or_ge i k with h' | h'
      · exact hall i h'
      · obtain rfl : i = k := by omega
        exact hlt
     repeat' ((conv => whnf); first | refine Spl.yes (by first | assumption | omega) ?_ | refine Spl.no (by first | assumption | omega) ?_ | refine Wr.i64 (by omega) (by omega) ?_ | refine Still.mk rfl rfl ?_ | refine InB.mk (inB_mk (by omega) (by omega)) ?_ | refine Req.mk (by omega) ?_ | refine Req.mk ⟨by first | omega | (dsimp only; omega),by first | omega | (dsimp only; omega)⟩ ?_ | refine Spl.yes hlss ?_ | refine ARet.hdI ?_ | refine Spl.mk (fun _ => ?_) (fun _ => ?_) | refine InA.mk (inB_mk (by omega) (by omega)) ?_ | refine Wr.b64 ?_ | refine Wr.bu64 ?_ | refine Wr.bu32 ?_ | refine Wr.bu8 ?_ | refine Wr.u8 (by omega) (by omega) ?_ | refine Wr.u64 (by omega) (by omega) ?_ | refine Wr.u32 (by omega) (by omega) ?_ | refine Dv.pos (by omega) (by omega) ?_ | refine Rm.pos (by omega) (by omega) ?_ | refine ADraw.quiet follows_ok (by kernel_rfl) rfl ?_ | refine BSpl.decY (by first | assumption | omega) ?_ | refine BSpl.decN (by first | assumption | omega) ?_ | refine BSpl.dec (fun _ => ?_) (fun _ => ?_) | refine BSpl.yes (by assumption) ?_ | refine BSpl.no (by assumption) ?_ | refine BSpl.mk (fun _ => ?_) (fun _ => ?_))
     conv => whnf
     exact ⟨⟨k + 1,hkl,hup⟩,_,LeR.mk' [] _ _ _ rfl ⟨AEq.refl _,AEq.refl _,AEq.int rfl,trivial⟩ trivial rfl,Nat.sub_succ_lt_self _ _ hkl⟩
   · rw [decide_eq_false hlt] at hlss
     have hlss : ¬ Op.bytesLess (ByteArray.mk (l.getD (k : Int).toNat []).toArray).toList s.toList = true := by rw [hlss]; simp
     by_cases heq : (⟨(l.getD (k : Int).toNat []).toArray⟩ : ByteArray) = s
     · have hR : R = l := by
        have h0 : l.getD k [] = strL s := by
         rw [← heq]
         rfl
        rw [hW k hk hall (.inr hlt),if_pos ⟨h0,hkl⟩]
       rw [hR]
       repeat' ((conv => whnf); first | refine Spl.yes (by first | assumption | omega) ?_ | refine Spl.no (by first | assumption | omega) ?_ | refine Wr.i64 (by omega) (by omega) ?_ | refine Still.mk rfl rfl ?_ | refine InB.mk (inB_mk (by omega) (by omega)) ?_ | refine Req.mk (by omega) ?_ | refine Req.mk ⟨by first | omega | (dsimp only; omega),by first | omega | (dsimp only; omega)⟩ ?_ | refine Spl.no hlss ?_ | refine ARet.hdI ?_ | refine Spl.mk (fun _ => ?_) (fun _ => ?_) | refine InA.mk (inB_mk (by omega) (by omega)) ?_ | refine Wr.b64 ?_ | refine Wr.bu64 ?_ | refine Wr.bu32 ?_ | refine Wr.bu8 ?_ | refine Wr.u8 (by omega) (by omega) ?_ | refine Wr.u64 (by omega) (by omega) ?_ | refine Wr.u32 (by omega) (by omega) ?_ | refine Dv.pos (by omega) (by omega) ?_ | refine Rm.pos (by omega) (by omega) ?_ | refine ADraw.quiet follows_ok (by kernel_rfl) rfl ?_ | refine BSpl.decY (by first | assumption | omega) ?_ | refine BSpl.decN (by first | assumption | omega) ?_ | refine BSpl.dec (fun _ => ?_) (fun _ => ?_) | refine BSpl.yes (by assumption) ?_ | refine BSpl.no (by assumption) ?_ | refine BSpl.mk (fun _ => ?_) (fun _ => ?_))
       all_goals (conv => whnf)
       all_goals exact AEqI.mk (AEq.refl _)
     · have hR := fin (.inr hlt) fun h => heq (by
        show (⟨(l.getD k []).toArray⟩ : ByteArray) = s
        rw [h.1,arr_strL])
       rw [hR]
       repeat' ((conv => whnf); first | refine Spl.yes (by first | assumption | omega) ?_ | refine Spl.no (by first | assumption | omega) ?_ | refine Wr.i64 (by omega) (by omega) ?_ | refine Still.mk rfl rfl ?_ | refine InB.mk (inB_mk (by omega) (by omega)) ?_ | refine Req.mk (by omega) ?_ | refine Req.mk ⟨by first | omega | (dsimp only; omega),by first | omega | (dsimp only; omega)⟩ ?_ | refine Spl.no hlss ?_ | refine ARet.hdI ?_ | refine Spl.mk (fun _ => ?_) (fun _ => ?_) | refine InA.mk (inB_mk (by omega) (by omega)) ?_ | refine Wr.b64 ?_ | refine Wr.bu64 ?_ | refine Wr.bu32 ?_ | refine Wr.bu8 ?_ | refine Wr.u8 (by omega) (by omega) ?_ | refine Wr.u64 (by omega) (by omega) ?_ | refine Wr.u32 (by omega) (by omega) ?_ | refine Dv.pos (by omega) (by omega) ?_ | refine Rm.pos (by omega) (by omega) ?_ | refine ADraw.quiet follows_ok (by kernel_rfl) rfl ?_ | refine BSpl.decY (by first | assumption | omega) ?_ | refine BSpl.decN (by first | assumption | omega) ?_ | refine BSpl.dec (fun _ => ?_) (fun _ => ?_) | refine BSpl.yes (by assumption) ?_ | refine BSpl.no (by assumption) ?_ | refine BSpl.mk (fun _ => ?_) (fun _ => ?_))
       all_goals (conv => whnf)
       refine AEqI.mk (AEq.isS (((((IsS.nil _).app ((IsS.refl l).take k) rfl).app (IsS.one s) ?_).app ((IsS.nil _).app ((IsS.refl l).drop k) rfl) ?_)) ?_ ?_)
       all_goals simp only [List.nil_append,List.append_assoc,List.length_append,List.length_take,List.length_drop,List.length_cons,List.length_nil,Int.toNat_natCast]
       all_goals omega
 · have hR := fin (.inl (by omega)) fun h => hkl h.2
   rw [hR]
   repeat' ((conv => whnf); first | refine Spl.yes (by first | assumption | omega) ?_ | refine Spl.no (by first | assumption | omega) ?_ | refine Wr.i64 (by omega) (by omega) ?_ | refine Still.mk rfl rfl ?_ | refine InB.mk (inB_mk (by omega) (by omega)) ?_ | refine Req.mk (by omega) ?_ | refine Req.mk ⟨by first | omega | (dsimp only; omega),by first | omega | (dsimp only; omega)⟩ ?_ | refine ARet.hdI ?_ | refine Spl.mk (fun _ => ?_) (fun _ => ?_) | refine InA.mk (inB_mk (by omega) (by omega)) ?_ | refine Wr.b64 ?_ | refine Wr.bu64 ?_ | refine Wr.bu32 ?_ | refine Wr.bu8 ?_ | refine Wr.u8 (by omega) (by omega) ?_ | refine Wr.u64 (by omega) (by omega) ?_ | refine Wr.u32 (by omega) (by omega) ?_ | refine Dv.pos (by omega) (by omega) ?_ | refine Rm.pos (by omega) (by omega) ?_ | refine ADraw.quiet follows_ok (by kernel_rfl) rfl ?_ | refine BSpl.decY (by first | assumption | omega) ?_ | refine BSpl.decN (by first | assumption | omega) ?_ | refine BSpl.dec (fun _ => ?_) (fun _ => ?_) | refine BSpl.yes (by assumption) ?_ | refine BSpl.no (by assumption) ?_ | refine BSpl.mk (fun _ => ?_) (fun _ => ?_))
   all_goals (conv => whnf)
   refine AEqI.mk (AEq.isS (((((IsS.nil _).app ((IsS.refl l).take k) rfl).app (IsS.one s) ?_).app ((IsS.nil _).app ((IsS.refl l).drop k) rfl) ?_)) ?_ ?_)
   all_goals simp only [List.nil_append,List.append_assoc,List.length_append,List.length_take,List.length_drop,List.length_cons,List.length_nil,Int.toNat_natCast]
   all_goals omega
end Go.Proofs.YtkkpfjifkjbndaaGreat

/-
 The reference of layer 9: what a past comes to: kithref09.Of.
-/
namespace Go.Proofs.YtkkpfjifkjbndaaGreat
open Go.RowKit
theorem OEq.boxC {t : TypeId} {cs ds : List AV} (hl : cs.length = ds.length) (h : ∀ (i : Nat) (x y : AV),cs[i]? = some x → ds[i]? = some y → ∀ (X : CX) (u : Value),C0 X x u → C0 X y u) : OEq (.box t cs) (.box t ds) := by
 rintro X id ⟨b,us,h1,h2,h3⟩
 exact ⟨b,us,h1,h2,by rw [← hl]; exact h3.1,fun i y u hy hu => by
  have hi : i < cs.length := by rw [hl]; exact (List.getElem?_eq_some_iff.1 hy).1
  exact h i _ y (List.getElem?_eq_getElem hi) hy X u (h3.2 i _ u (List.getElem?_eq_getElem hi) hu)⟩
inductive CImp : List AV → List AV → Prop where
  | nil : CImp [] []
  | same {x : AV} {xs ys : List AV} (h : CImp xs ys) : CImp (x :: xs) (x :: ys)
  | nilS {s : Nat} {sc : Bool} {f : Nat → List AV} {xs ys : List AV} (hs : 0 < s) (h : CImp xs ys) : CImp (.v (.slice none 0 0) :: xs) (.sl s 0 sc f :: ys)
theorem CImp.box {t : TypeId} {cs ds : List AV} (h : CImp cs ds) : OEq (.box t cs) (.box t ds) := by
 refine OEq.boxC ?_ ?_
 · induction h with
   | nil => rfl
   | same _ ih => simp [ih]
   | nilS _ _ ih => simp [ih]
 · induction h with
   | nil => intro i x y hx; cases hx
   | same _ ih =>
    intro i x y hx hy X u hu
    cases i with
    | zero => cases hx; cases hy; exact hu
    | succ i => exact ih i x y hx hy X u hu
   | nilS hs _ ih =>
    intro i x y hx hy X u hu
    cases i with
    | zero =>
     cases hx; cases hy
     exact C1.nilS (X := X) hs hu
    | succ i => exact ih i x y hx hy X u hu
def withAll (l : List Str) : List Str := l.foldl withL []
theorem withL_len (l : List Str) (s : Str) : (withL l s).length ≤ l.length + 1 := by
 unfold withL
 split
 · omega
 · rw [List.length_append,List.length_cons,List.length_take,List.length_drop]
   omega
theorem withAll_snoc (l : List Str) (s : Str) : withAll (l ++ [s]) = withL (withAll l) s := by rw [withAll,List.foldl_append]; rfl
theorem foldl_len : ∀ (l : List Str) (a : List Str),(l.foldl withL a).length ≤ a.length + l.length
  | [],a => Nat.le_refl _
  | x :: l,a => by
   have := foldl_len l (withL a x)
   have := withL_len a x
   rw [List.foldl_cons,List.length_cons]
   omega
theorem withAll_len (l : List Str) : (withAll l).length ≤ l.length := by
 have := foldl_len l []
 simpa [withAll] using this
def inP (l : List Ev) (key : ByteArray) (n : Int) (e : Ev) : Bool := countB l (livingB l) e && ofK key n e
def setsR (l : List Ev) (key : ByteArray) (n : Int) (w : List Ev) : List Ev := w.filter fun e => inP l key n e && decide (e.k = 3)
def addsR (l : List Ev) (key : ByteArray) (n : Int) (w : List Ev) : List Ev := w.filter fun e => inP l key n e && !decide (e.k = 3)
def valsR (l : List Ev) (key : ByteArray) (n : Int) (w : List Ev) : List Str := withAll ((addsR l key n w).map fun e => strL e.v)
def hasR (A : List Ev) : Bool := decide (0 ≤ lastR (A.map stampE))
def contactR (l : List Ev) (key : ByteArray) : Cont := ⟨key,hasF (setsR l key 0 l),hasF (setsR l key 1 l),fieldF (setsR l key 0 l),fieldF (setsR l key 1 l),valsR l key 0 l,valsR l key 1 l⟩
def keysR (l w : List Ev) : List Str := withAll ((w.filter (livesB l)).map fun e => strL e.key)
def ofR (l : List Ev) : List Cont := (keysR l l).map fun k => contactR l ⟨k.toArray⟩
end Go.Proofs.YtkkpfjifkjbndaaGreat

/-
 Plain Lean: the reference of layer 9 comes to what the program comes to; and how much there is to keep,by the reference.
-/
namespace Go.Proofs.YtkkpfjifkjbndaaGreat
open Go.RowKit
theorem with_props {l : List Str} {s : Str} (h : l.Pairwise (· < ·)) : (withL l s).Pairwise (· < ·) ∧ ∀ x,x ∈ withL l s ↔ x ∈ l ∨ x = s := by
 obtain ⟨k,hk⟩ : ∃ k,k = l.findIdx fun x => !decide (x < s) := ⟨_,rfl⟩
 have hkl : k ≤ l.length := by rw [hk]; exact List.findIdx_le_length
 have hlt : ∀ x ∈ l.take k,x < s := fun x hx => by
  obtain ⟨i,hi,rfl⟩ := List.getElem_of_mem hx
  rw [List.length_take] at hi
  rw [List.getElem_take]
  have := List.not_of_lt_findIdx (p := fun x => !decide (x < s)) (xs := l) (i := i) (by rw [← hk]; omega)
  simpa using this
 have hge : ∀ x ∈ l.drop k,¬ x < s := fun x hx => by
  obtain ⟨i,hi,rfl⟩ := List.getElem_of_mem hx
  rw [List.length_drop] at hi
  rw [List.getElem_drop]
  have hk' : k < l.length := by omega
  have h0 := List.findIdx_getElem (p := fun x => !decide (x < s)) (xs := l) (w := by rw [← hk]; exact hk')
  simp only [← hk] at h0
  have h0 : ¬ l[k] < s := by simpa using h0
  rcases Nat.eq_zero_or_pos i with rfl | hi0
  · exact h0
  · intro hlt2
    exact h0 (str_lt_trans (List.pairwise_iff_getElem.1 h k (k + i) hk' (by omega) (by omega)) hlt2)
 unfold withL
 rw [← hk]
 split
 · rename_i h1
   refine ⟨h,fun x => ⟨.inl,fun hx => ?_⟩⟩
   rcases hx with hx | rfl
   · exact hx
   · have h2 := h1.1
     rw [List.getD,List.getElem?_eq_getElem h1.2] at h2
     rw [← h2]
     exact List.getElem_mem _
 · rename_i h1
   have hne : ∀ x ∈ l.drop k,s < x := fun x hx => by
    refine Classical.byContradiction fun hn => ?_
    have hxs : x = s := by
     refine Classical.byContradiction fun hne => ?_
     rcases List.le_total x s with h | h
     · exact hge x hx (str_lt_of_le h hne)
     · exact hn (str_lt_of_le h fun e => hne e.symm)
    subst hxs
    obtain ⟨i,hi,e⟩ := List.getElem_of_mem hx
    rw [List.length_drop] at hi
    rw [List.getElem_drop] at e
    have hk' : k < l.length := by omega
    rcases Nat.eq_zero_or_pos i with rfl | hi0
    · refine h1 ⟨?_,hk'⟩
      rw [List.getD,List.getElem?_eq_getElem hk']
      exact e
    · have h2 := List.pairwise_iff_getElem.1 h k (k + i) hk' (by omega) (by omega)
      rw [e] at h2
      refine hge l[k] ?_ h2
      rw [show l.drop k = l[k] :: l.drop (k + 1) from List.drop_eq_getElem_cons hk']
      exact List.mem_cons_self
   refine ⟨?_,fun x => ?_⟩
   · refine List.pairwise_append.2 ⟨h.sublist (List.take_sublist k l),List.pairwise_cons.2 ⟨hne,h.sublist (List.drop_sublist k l)⟩,fun x hx y hy => ?_⟩
     rcases List.mem_cons.1 hy with rfl | hy
     · exact hlt x hx
     · exact str_lt_trans (hlt x hx) (hne y hy)
   · rw [List.mem_append,List.mem_cons]
     conv => rhs; rw [← List.take_append_drop k l,List.mem_append]
     constructor
     · rintro (h | h | h)
       · exact .inl (.inl h)
       · exact .inr h
       · exact .inl (.inr h)
     · rintro ((h | h) | h)
       · exact .inl h
       · exact .inr (.inr h)
       · exact .inr (.inl h)
theorem foldl_props : ∀ (l a : List Str),a.Pairwise (· < ·) → (l.foldl withL a).Pairwise (· < ·) ∧ ∀ x,x ∈ l.foldl withL a ↔ x ∈ a ∨ x ∈ l
  | [],a,h => ⟨h,fun x => by simp⟩
  | y :: l,a,h => by
   obtain ⟨h1,h2⟩ := with_props (s := y) h
   obtain ⟨h3,h4⟩ := foldl_props l (withL a y) h1
   refine ⟨h3,fun x => ?_⟩
   rw [List.foldl_cons,h4,h2,List.mem_cons]
   constructor
   · rintro ((h | h) | h)
     · exact .inl h
     · exact .inr (.inl h)
     · exact .inr (.inr h)
   · rintro (h | h | h)
     · exact .inl (.inl h)
     · exact .inl (.inr h)
     · exact .inr h
theorem withAll_uniq (l : List Str) : withAll l = uniq l := by
 obtain ⟨h1,h2⟩ := foldl_props l [] List.Pairwise.nil
 refine rising_eq h1 (uniq_props l).1 fun x => ?_
 rw [(uniq_props l).2]
 have := h2 x
 simpa [withAll] using this
theorem setsR_eq (l : List Ev) (key : ByteArray) (n : Int) : setsR l key n l = setsB key n (countingB l (livingB l)) := by
 unfold setsR setsB countingB
 rw [List.filter_filter]
 refine List.filter_congr fun x _ => ?_
 unfold inP
 cases countB l (livingB l) x <;> cases ofK key n x <;> cases decide (x.k = 3) <;> rfl
theorem addsR_eq (l : List Ev) (key : ByteArray) (n : Int) : addsR l key n l = addsB key n (countingB l (livingB l)) := by
 unfold addsR addsB countingB
 rw [List.filter_filter]
 refine List.filter_congr fun x _ => ?_
 unfold inP
 cases countB l (livingB l) x <;> cases ofK key n x <;> cases decide (x.k = 3) <;> rfl
theorem ofR_eq (l : List Ev) : ofR l = ofB l := by
 have h1 : keysR l l = keysB l := withAll_uniq _
 have h2 : ∀ key,contactR l key = contactB key (countingB l (livingB l)) := fun key => by
  have hv : ∀ n,valsR l key n l = valsF (addsB key n (countingB l (livingB l))) := fun n => by rw [valsR,addsR_eq,withAll_uniq]; rfl
  unfold contactR contactB
  rw [setsR_eq,setsR_eq,hv,hv]
 unfold ofR ofB
 rw [h1]
 exact List.map_congr_left fun k _ => h2 _
def keptP (l : List Ev) (e : Ev) : Bool := livesB l e || (countB l (livingB l) e && !laterB l e)
def sizeR (l w : List Ev) : Nat := (w.filter (keptP l)).length
theorem filter_two {p q r : Ev → Bool} (hd : ∀ e,p e = true → q e = false) : ∀ l : List Ev,(l.filter fun e => p e || (q e && r e)).length = (l.filter p).length + ((l.filter q).filter r).length
  | [] => rfl
  | x :: l => by
   have ih := filter_two (p := p) (q := q) (r := r) hd l
   rw [List.filter_cons,List.filter_cons,List.filter_cons]
   cases hp : p x with
   | true => simp [hd x hp,ih]; omega
   | false =>
    cases hq : q x with
    | false => simp [ih]
    | true =>
     simp only [Bool.false_or,Bool.true_and,if_true,Bool.false_eq_true,if_false]
     rw [List.filter_cons]
     cases r x <;> simp [ih] <;> omega
theorem sizeR_eq (l : List Ev) : sizeR l l = sizeB l := by
 have hd : ∀ e,livesB l e = true → countB l (livingB l) e = false := fun e he => by
  have he : e.k = 1 := by
   simp only [livesB,Bool.and_eq_true,decide_eq_true_eq] at he
   exact he.1
  simp [countB,he]
 exact filter_two (r := fun e => !laterB l e) hd l
set_option maxHeartbeats 8000000 in
set_option maxRecDepth 100000 in
theorem sizeR_spec (l : List Ev) (hl : l.length ≤ 1000000000) :
  ASpec Tryz.prog 20 [.sl 12 l.length true (evF l)] (.v (.int .i64 (sizeR l l : Int))) [] := by
 refine aspec_of lay_ok 274877909245 Tryz.func20 rfl rfl rfl ?_
 repeat' ((conv => whnf); first | refine Spl.yes (by first | assumption | omega) ?_ | refine Spl.no (by first | assumption | omega) ?_ | refine Wr.i64 (by omega) (by omega) ?_ | refine Still.mk rfl rfl ?_ | refine InB.mk (inB_mk (by omega) (by omega)) ?_ | refine Req.mk (by omega) ?_ | refine Req.mk ⟨by first | omega | (dsimp only; omega),by first | omega | (dsimp only; omega)⟩ ?_ | refine ARet.hdI ?_ | refine Spl.mk (fun _ => ?_) (fun _ => ?_) | refine InA.mk (inB_mk (by omega) (by omega)) ?_ | refine Wr.b64 ?_ | refine Wr.bu64 ?_ | refine Wr.bu32 ?_ | refine Wr.bu8 ?_ | refine Wr.u8 (by omega) (by omega) ?_ | refine Wr.u64 (by omega) (by omega) ?_ | refine Wr.u32 (by omega) (by omega) ?_ | refine Dv.pos (by omega) (by omega) ?_ | refine Rm.pos (by omega) (by omega) ?_ | refine ADraw.quiet follows_ok (by kernel_rfl) rfl ?_ | refine BSpl.decY (by first | assumption | omega) ?_ | refine BSpl.decN (by first | assumption | omega) ?_ | refine BSpl.dec (fun _ => ?_) (fun _ => ?_) | refine BSpl.yes (by assumption) ?_ | refine BSpl.no (by assumption) ?_ | refine BSpl.mk (fun _ => ?_) (fun _ => ?_))
 conv => whnf
 refine ALoop.mk { j : Nat // j ≤ l.length } (fun j => ⟨[(0, .sl 12 l.length true (evF l)),(3, .v (.int .i64 (sizeR l (l.take j.1) : Int))),(4, .v (.int .i64 (j.1 : Int)))],[],[],0⟩) (fun j => l.length - j.1) ⟨0,Nat.zero_le _⟩ _
  (LeR.mk' [] _ _ _ rfl ⟨AEq.refl _,AEq.int rfl,AEq.int rfl,trivial⟩ trivial rfl) ?_
 rintro ⟨j,hj⟩
 dsimp only
 have hkl : sizeR l (l.take j) ≤ j := by
  have := List.length_filter_le (keptP l) (l.take j)
  rw [List.length_take] at this
  unfold sizeR
  omega
 by_cases hjl : j < l.length
 · have hft : sizeR l (l.take (j + 1)) = sizeR l (l.take j) + (if keptP l (l.getD (j : Int).toNat default) = true then 1 else 0) := filter_takeN hjl
   have hv := livesR_spec l (l.getD (j : Int).toNat default) hl
   have hc := countsR_spec l (l.getD (j : Int).toNat default) hl
   have ha := aboveR_spec l (l.getD (j : Int).toNat default) (l.getD (j : Int).toNat default).k true (decide ((l.getD (j : Int).toNat default).k = 4)) hl
   have hla : abvB l (l.getD (j : Int).toNat default) (l.getD (j : Int).toNat default).k true (decide ((l.getD (j : Int).toNat default).k = 4)) = laterB l (l.getD (j : Int).toNat default) := by
    unfold laterB
    split
    · rename_i h
      rw [decide_eq_true h,abv_V]
    · rename_i h
      rw [decide_eq_false h,abv_L]
   rw [hla] at ha
   have hkp : keptP l (l.getD (j : Int).toNat default) = (livesB l (l.getD (j : Int).toNat default) || (countB l (livingB l) (l.getD (j : Int).toNat default) && !laterB l (l.getD (j : Int).toNat default))) := rfl
   rw [hkp] at hft
   generalize livesB l (l.getD (j : Int).toNat default) = q1 at *
   generalize countB l (livingB l) (l.getD (j : Int).toNat default) = q2 at *
   generalize laterB l (l.getD (j : Int).toNat default) = q3 at *
   clear hkp hla
   have t1 : q1 = true → ((sizeR l (l.take j) : Nat) : Int) + 1 = ((sizeR l (l.take (j + 1)) : Nat) : Int) := fun h => by rw [hft,h]; rfl
   have t2 : q2 = true → q3 = false → ((sizeR l (l.take j) : Nat) : Int) + 1 = ((sizeR l (l.take (j + 1)) : Nat) : Int) := fun h h' => by rw [hft,h,h']; simp
   have t3 : q1 = false → q2 = false → ((sizeR l (l.take j) : Nat) : Int) = ((sizeR l (l.take (j + 1)) : Nat) : Int) := fun h h' => by rw [hft,h,h']; rfl
   have t4 : q1 = false → q3 = true → ((sizeR l (l.take j) : Nat) : Int) = ((sizeR l (l.take (j + 1)) : Nat) : Int) := fun h h' => by rw [hft,h,h']; simp
   clear hft
   by_cases h4 : (l.getD (j : Int).toNat default).k = 4
   · rw [decide_eq_true h4] at ha
     dsimp only [Ev.av,Ev.cs] at hv hc ha ⊢
     repeat' ((conv => whnf); first | refine Spl.yes (by first | assumption | omega) ?_ | refine Spl.no (by first | assumption | omega) ?_ | refine Wr.i64 (by omega) (by omega) ?_ | refine Still.mk rfl rfl ?_ | refine InB.mk (inB_mk (by omega) (by omega)) ?_ | refine Req.mk (by omega) ?_ | refine Req.mk ⟨by first | omega | (dsimp only; omega),by first | omega | (dsimp only; omega)⟩ ?_ | refine ACall.plain _ _ (hv) (SubL.cons (.eq _) (SubL.cons (.eq _) .nil)) rfl ?_ | refine ACall.plain _ _ (hc) (SubL.cons (.eq _) (SubL.cons (.eq _) .nil)) rfl ?_ | refine ACall.plain _ _ (ha) (SubL.cons (.eq _) (SubL.cons (.eq _) (SubL.cons (.eq _) (SubL.cons (.eq _) (SubL.cons (.eq _) .nil))))) rfl ?_ | refine ARet.hdI ?_ | refine Spl.mk (fun _ => ?_) (fun _ => ?_) | refine InA.mk (inB_mk (by omega) (by omega)) ?_ | refine Wr.b64 ?_ | refine Wr.bu64 ?_ | refine Wr.bu32 ?_ | refine Wr.bu8 ?_ | refine Wr.u8 (by omega) (by omega) ?_ | refine Wr.u64 (by omega) (by omega) ?_ | refine Wr.u32 (by omega) (by omega) ?_ | refine Dv.pos (by omega) (by omega) ?_ | refine Rm.pos (by omega) (by omega) ?_ | refine ADraw.quiet follows_ok (by kernel_rfl) rfl ?_ | refine BSpl.decY (by first | assumption | omega) ?_ | refine BSpl.decN (by first | assumption | omega) ?_ | refine BSpl.dec (fun _ => ?_) (fun _ => ?_) | refine BSpl.yes (by assumption) ?_ | refine BSpl.no (by assumption) ?_ | refine BSpl.mk (fun _ => ?_) (fun _ => ?_))
     all_goals (conv => whnf)
     all_goals exact ⟨⟨j + 1,hjl⟩,_,LeR.mk' [] _ _ _ rfl ⟨AEq.refl _,AEq.int (by first | exact t1 (by assumption) | exact t2 (by assumption) (by assumption) | exact t3 (by assumption) (by assumption) | exact t4 (by assumption) (by assumption)),AEq.int rfl,trivial⟩ trivial rfl,Nat.sub_succ_lt_self _ _ hjl⟩
   · rw [decide_eq_false h4] at ha
     dsimp only [Ev.av,Ev.cs] at hv hc ha ⊢
     repeat' ((conv => whnf); first | refine Spl.yes (by first | assumption | omega) ?_ | refine Spl.no (by first | assumption | omega) ?_ | refine Wr.i64 (by omega) (by omega) ?_ | refine Still.mk rfl rfl ?_ | refine InB.mk (inB_mk (by omega) (by omega)) ?_ | refine Req.mk (by omega) ?_ | refine Req.mk ⟨by first | omega | (dsimp only; omega),by first | omega | (dsimp only; omega)⟩ ?_ | refine ACall.plain _ _ (hv) (SubL.cons (.eq _) (SubL.cons (.eq _) .nil)) rfl ?_ | refine ACall.plain _ _ (hc) (SubL.cons (.eq _) (SubL.cons (.eq _) .nil)) rfl ?_ | refine ACall.plain _ _ (ha) (SubL.cons (.eq _) (SubL.cons (.eq _) (SubL.cons (.eq _) (SubL.cons (.eq _) (SubL.cons (.eq _) .nil))))) rfl ?_ | refine ARet.hdI ?_ | refine Spl.mk (fun _ => ?_) (fun _ => ?_) | refine InA.mk (inB_mk (by omega) (by omega)) ?_ | refine Wr.b64 ?_ | refine Wr.bu64 ?_ | refine Wr.bu32 ?_ | refine Wr.bu8 ?_ | refine Wr.u8 (by omega) (by omega) ?_ | refine Wr.u64 (by omega) (by omega) ?_ | refine Wr.u32 (by omega) (by omega) ?_ | refine Dv.pos (by omega) (by omega) ?_ | refine Rm.pos (by omega) (by omega) ?_ | refine ADraw.quiet follows_ok (by kernel_rfl) rfl ?_ | refine BSpl.decY (by first | assumption | omega) ?_ | refine BSpl.decN (by first | assumption | omega) ?_ | refine BSpl.dec (fun _ => ?_) (fun _ => ?_) | refine BSpl.yes (by assumption) ?_ | refine BSpl.no (by assumption) ?_ | refine BSpl.mk (fun _ => ?_) (fun _ => ?_))
     all_goals (conv => whnf)
     all_goals exact ⟨⟨j + 1,hjl⟩,_,LeR.mk' [] _ _ _ rfl ⟨AEq.refl _,AEq.int (by first | exact t1 (by assumption) | exact t2 (by assumption) (by assumption) | exact t3 (by assumption) (by assumption) | exact t4 (by assumption) (by assumption)),AEq.int rfl,trivial⟩ trivial rfl,Nat.sub_succ_lt_self _ _ hjl⟩
 · rw [List.take_of_length_le (show l.length ≤ j by omega)]
   repeat' ((conv => whnf); first | refine Spl.yes (by first | assumption | omega) ?_ | refine Spl.no (by first | assumption | omega) ?_ | refine Wr.i64 (by omega) (by omega) ?_ | refine Still.mk rfl rfl ?_ | refine InB.mk (inB_mk (by omega) (by omega)) ?_ | refine Req.mk (by omega) ?_ | refine Req.mk ⟨by first | omega | (dsimp only; omega),by first | omega | (dsimp only; omega)⟩ ?_ | refine ARet.hdI ?_ | refine Spl.mk (fun _ => ?_) (fun _ => ?_) | refine InA.mk (inB_mk (by omega) (by omega)) ?_ | refine Wr.b64 ?_ | refine Wr.bu64 ?_ | refine Wr.bu32 ?_ | refine Wr.bu8 ?_ | refine Wr.u8 (by omega) (by omega) ?_ | refine Wr.u64 (by omega) (by omega) ?_ | refine Wr.u32 (by omega) (by omega) ?_ | refine Dv.pos (by omega) (by omega) ?_ | refine Rm.pos (by omega) (by omega) ?_ | refine ADraw.quiet follows_ok (by kernel_rfl) rfl ?_ | refine BSpl.decY (by first | assumption | omega) ?_ | refine BSpl.decN (by first | assumption | omega) ?_ | refine BSpl.dec (fun _ => ?_) (fun _ => ?_) | refine BSpl.yes (by assumption) ?_ | refine BSpl.no (by assumption) ?_ | refine BSpl.mk (fun _ => ?_) (fun _ => ?_))
   conv => whnf
   exact AEqI.mk (AEq.refl _)
end Go.Proofs.YtkkpfjifkjbndaaGreat
