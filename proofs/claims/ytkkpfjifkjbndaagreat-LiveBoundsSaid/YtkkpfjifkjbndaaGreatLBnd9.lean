/-
  Contracts of the walk: BkF, BkG, BkU, H3.
-/
import Derived.Test.YtkkpfjifkjbndaaGreatLBnd6
import Derived.Test.YtkkpfjifkjbndaaGreatLBnd8
import Derived.Lib.RowBridge
/-
 The contact of a key.
-/
namespace Go.Proofs.YtkkpfjifkjbndaaGreat
open Go.RowKit
def ofK (key : ByteArray) (n : Int) (e : Ev) : Bool := decide (e.key = key) && decide (e.l = n)
def setsB (key : ByteArray) (n : Int) (ws : List Ev) : List Ev := ws.filter fun e => ofK key n e && decide (e.k = 3)
def addsB (key : ByteArray) (n : Int) (ws : List Ev) : List Ev := ws.filter fun e => ofK key n e && !decide (e.k = 3)
def strL (b : ByteArray) : List UInt8 := b.data.toList
def stampE (e : Ev) : St := (e.h,e.r)
theorem enc_strL (b : ByteArray) : encStr (strL b) = .string b := by
 obtain ⟨a⟩ := b
 simp [strL]
theorem str_app1 {l : List (List UInt8)} {x : List UInt8} {g : Nat → List AV} {n : Nat} (hn : n = l.length) (hg : g 0 = [.v (encStr x)]) : ∀ i,i < n + 1 → appF n (strF l) g i = strF (l ++ [x]) i :=
 els_app1 (c := fun x => [.v (encStr x)]) hn hg
structure Cont where
 (key : ByteArray) (h0 h1 : Bool) (f0 f1 : ByteArray) (s0 s1 : List (List UInt8))
def Cont.cs (c : Cont) : List AV := [.v (.string c.key), .v (.bool c.h0), .v (.bool c.h1), .v (.string c.f0), .v (.string c.f1), .sl 1 c.s0.length true (strF c.s0), .sl 1 c.s1.length true (strF c.s1)]
def hasF (A : List Ev) : Bool := !decide (A.length = 0)
def fieldF (A : List Ev) : ByteArray := if A.length = 0 then ⟨#[]⟩ else ⟨((A.map fun e => strL e.v).getD (lastN (A.map stampE)) []).toArray⟩
def valsF (B : List Ev) : List (List UInt8) := Lib.compact (sortL (B.map fun e => strL e.v))
def contactB (key : ByteArray) (ws : List Ev) : Cont := ⟨key,hasF (setsB key 0 ws),hasF (setsB key 1 ws),fieldF (setsB key 0 ws),fieldF (setsB key 1 ws),valsF (addsB key 0 ws),valsF (addsB key 1 ws)⟩
set_option maxHeartbeats 8000000 in
set_option maxRecDepth 100000 in
theorem contact_spec (key : ByteArray) (ws : List Ev) (hl : ws.length ≤ 1000000000) :
  ASpec Tryz.prog 69 [.v (.string key), .sl 12 ws.length true (evF ws)] (.agg (contactB key ws).cs) [] := by
 dsimp only [contactB,Cont.cs]
 refine aspec_of lay_ok 144115226732579827 Tryz.func69 rfl rfl rfl ?_
 repeat' ((conv => whnf); first | refine Spl.yes (by first | assumption | omega) ?_ | refine Spl.no (by first | assumption | omega) ?_ | refine Wr.i64 (by omega) (by omega) ?_ | refine Still.mk rfl rfl ?_ | refine InB.mk (inB_mk (by omega) (by omega)) ?_ | refine Req.mk (by omega) ?_ | refine Req.mk ⟨by first | omega | (dsimp only; omega),by first | omega | (dsimp only; omega)⟩ ?_ | refine ARet.hdI ?_ | refine Spl.mk (fun _ => ?_) (fun _ => ?_) | refine InA.mk (inB_mk (by omega) (by omega)) ?_ | refine Wr.b64 ?_ | refine Wr.bu64 ?_ | refine Wr.bu32 ?_ | refine Wr.bu8 ?_ | refine Wr.u8 (by omega) (by omega) ?_ | refine Wr.u64 (by omega) (by omega) ?_ | refine Wr.u32 (by omega) (by omega) ?_ | refine Dv.pos (by omega) (by omega) ?_ | refine Rm.pos (by omega) (by omega) ?_ | refine ADraw.quiet follows_ok (by kernel_rfl) rfl ?_ | refine BSpl.decY (by first | assumption | omega) ?_ | refine BSpl.decN (by first | assumption | omega) ?_ | refine BSpl.dec (fun _ => ?_) (fun _ => ?_) | refine BSpl.yes (by assumption) ?_ | refine BSpl.no (by assumption) ?_ | refine BSpl.mk (fun _ => ?_) (fun _ => ?_))
 conv => whnf
 refine ALoop.unr 14 3 rfl ?_
 repeat' ((conv => whnf); first | refine Spl.yes (by first | assumption | omega) ?_ | refine Spl.no (by first | assumption | omega) ?_ | refine Wr.i64 (by omega) (by omega) ?_ | refine Still.mk rfl rfl ?_ | refine InB.mk (inB_mk (by omega) (by omega)) ?_ | refine Req.mk (by omega) ?_ | refine Req.mk ⟨by first | omega | (dsimp only; omega),by first | omega | (dsimp only; omega)⟩ ?_ | refine ARet.hdI ?_ | refine Spl.mk (fun _ => ?_) (fun _ => ?_) | refine InA.mk (inB_mk (by omega) (by omega)) ?_ | refine Wr.b64 ?_ | refine Wr.bu64 ?_ | refine Wr.bu32 ?_ | refine Wr.bu8 ?_ | refine Wr.u8 (by omega) (by omega) ?_ | refine Wr.u64 (by omega) (by omega) ?_ | refine Wr.u32 (by omega) (by omega) ?_ | refine Dv.pos (by omega) (by omega) ?_ | refine Rm.pos (by omega) (by omega) ?_ | refine ADraw.quiet follows_ok (by kernel_rfl) rfl ?_ | refine BSpl.decY (by first | assumption | omega) ?_ | refine BSpl.decN (by first | assumption | omega) ?_ | refine BSpl.dec (fun _ => ?_) (fun _ => ?_) | refine BSpl.yes (by assumption) ?_ | refine BSpl.no (by assumption) ?_ | refine BSpl.mk (fun _ => ?_) (fun _ => ?_))
 conv => whnf
 refine ALoop.nil 7 90 100 2 (stF []) rfl (by omega) ?_
 refine ALoop.nil 8 91 9 1 (strF []) rfl (by omega) ?_
 refine ALoop.nil 9 92 9 1 (strF []) rfl (by omega) ?_
 conv => whnf
 refine ALoop.mk { j : Nat // j ≤ ws.length } (fun j => ⟨[(0, .v (.string key)),(1, .sl 12 ws.length true (evF ws)),(4, .box 0 0),(5, .box 1 0),(6, .v (.int .i64 0)),(14, .v (.int .i64 0)),(7, .own 90),(8, .own 91),(9, .own 92),(17, .sl 12 ws.length true (evF ws)),(18, .v (.int .i64 (ws.length : Int))),(19, .v (.int .i64 (j.1 : Int)))],
   [(0,_),(1,_),(90, .row 100 2 ((setsB key 0 (ws.take j.1)).map stampE).length true (stF ((setsB key 0 (ws.take j.1)).map stampE))),
    (91, .row 9 1 ((setsB key 0 (ws.take j.1)).map fun e => strL e.v).length true (strF ((setsB key 0 (ws.take j.1)).map fun e => strL e.v))),
    (92, .row 9 1 ((addsB key 0 (ws.take j.1)).map fun e => strL e.v).length true (strF ((addsB key 0 (ws.take j.1)).map fun e => strL e.v)))],[],93⟩) (fun j => ws.length - j.1) ⟨0,Nat.zero_le _⟩ _
  (LeR.mk' [] _ _ _ rfl ⟨AEq.refl _,AEq.refl _,AEq.refl _,AEq.refl _,AEq.refl _,AEq.refl _,AEq.refl _,AEq.refl _,AEq.refl _,AEq.refl _,AEq.refl _,AEq.int rfl,trivial⟩ ⟨⟨_,rfl,OEq.refl _⟩,⟨_,rfl,OEq.refl _⟩,⟨_,rfl,OEq.refl _⟩,⟨_,rfl,OEq.refl _⟩,⟨_,rfl,OEq.refl _⟩,trivial⟩ rfl) ?_
 rintro ⟨j,hj⟩
 dsimp only
 by_cases hjl : j < ws.length
 · have hA : (setsB key 0 (ws.take j)).length ≤ j := by
    have := List.length_filter_le (fun e => ofK key 0 e && decide (e.k = 3)) (ws.take j)
    rw [List.length_take] at this
    unfold setsB
    omega
   have hB : (addsB key 0 (ws.take j)).length ≤ j := by
    have := List.length_filter_le (fun e => ofK key 0 e && !decide (e.k = 3)) (ws.take j)
    rw [List.length_take] at this
    unfold addsB
    omega
   have sA : setsB key 0 (ws.take (j + 1)) = setsB key 0 (ws.take j) ++ (if (ofK key 0 (ws.getD (j : Int).toNat default) && decide ((ws.getD (j : Int).toNat default).k = 3)) = true then [ws.getD (j : Int).toNat default] else []) := filter_take hjl
   have sB : addsB key 0 (ws.take (j + 1)) = addsB key 0 (ws.take j) ++ (if (ofK key 0 (ws.getD (j : Int).toNat default) && !decide ((ws.getD (j : Int).toNat default).k = 3)) = true then [ws.getD (j : Int).toNat default] else []) := filter_take hjl
   generalize setsB key 0 (ws.take j) = A at hA sA ⊢
   generalize addsB key 0 (ws.take j) = B at hB sB ⊢
   have lA : (A.map stampE).length = A.length := List.length_map ..
   have lA2 : (A.map fun e => strL e.v).length = A.length := List.length_map ..
   have lB : (B.map fun e => strL e.v).length = B.length := List.length_map ..
   have eqS {X Y : List St} (h : X = Y) : OEq (.row 100 2 X.length true (stF X)) (.row 100 2 Y.length true (stF Y)) := by rw [h]; exact OEq.refl _
   have eqL {X Y : List (List UInt8)} (h : X = Y) : OEq (.row 9 1 X.length true (strF X)) (.row 9 1 Y.length true (strF Y)) := by rw [h]; exact OEq.refl _
   have mea : ws.length - (j + 1) < ws.length - j := by omega
   repeat' ((conv => whnf); first | refine Spl.yes (by first | assumption | omega) ?_ | refine Spl.no (by first | assumption | omega) ?_ | refine Wr.i64 (by omega) (by omega) ?_ | refine Still.mk rfl rfl ?_ | refine InB.mk (inB_mk (by omega) (by omega)) ?_ | refine Req.mk (by omega) ?_ | refine Req.mk ⟨by first | omega | (dsimp only; omega),by first | omega | (dsimp only; omega)⟩ ?_ | refine ARet.hdI ?_ | refine Spl.mk (fun _ => ?_) (fun _ => ?_) | refine InA.mk (inB_mk (by omega) (by omega)) ?_ | refine Wr.b64 ?_ | refine Wr.bu64 ?_ | refine Wr.bu32 ?_ | refine Wr.bu8 ?_ | refine Wr.u8 (by omega) (by omega) ?_ | refine Wr.u64 (by omega) (by omega) ?_ | refine Wr.u32 (by omega) (by omega) ?_ | refine Dv.pos (by omega) (by omega) ?_ | refine Rm.pos (by omega) (by omega) ?_ | refine ADraw.quiet follows_ok (by kernel_rfl) rfl ?_ | refine BSpl.decY (by first | assumption | omega) ?_ | refine BSpl.decN (by first | assumption | omega) ?_ | refine BSpl.dec (fun _ => ?_) (fun _ => ?_) | refine BSpl.yes (by assumption) ?_ | refine BSpl.no (by assumption) ?_ | refine BSpl.mk (fun _ => ?_) (fun _ => ?_))
   all_goals (conv => whnf)
   · have kA : setsB key 0 (ws.take (j + 1)) = A ++ [ws.getD (j : Int).toNat default] := by rw [sA,if_pos (by simp only [ofK]; rw [decide_eq_true (by assumption),decide_eq_true (by assumption),decide_eq_true (by assumption)]; rfl)]
     have kB : addsB key 0 (ws.take (j + 1)) = B := by rw [sB,if_neg (by rw [decide_eq_true (show (ws.getD (j : Int).toNat default).k = 3 by assumption)]; simp),List.append_nil]
     refine ⟨⟨j + 1,hjl⟩,_,LeR.mk' [(95,90),(97,91)] _ _ _ rfl ⟨AEq.refl _,AEq.refl _,AEq.refl _,AEq.refl _,AEq.refl _,AEq.refl _,AEq.refl _,AEq.refl _,AEq.refl _,AEq.refl _,AEq.refl _,AEq.int rfl,trivial⟩ ⟨⟨_,rfl,OEq.refl _⟩,⟨_,rfl,OEq.refl _⟩,⟨_,rfl,OEq.row ?_ (fun m hm => ?_)⟩,⟨_,rfl,OEq.row ?_ (fun m hm => ?_)⟩,⟨_,rfl,eqL (by rw [kB])⟩,trivial⟩ rfl,mea⟩
     · show _ = ((setsB key 0 (ws.take (j + 1))).map stampE).length
       rw [kA,List.map_append,List.length_append]
       rfl
     · show _ = stF ((setsB key 0 (ws.take (j + 1))).map stampE) m
       rw [kA,List.map_append]
       exact els_app1 (c := stC) (x := stampE (ws.getD (j : Int).toNat default)) rfl rfl m hm
     · show _ = ((setsB key 0 (ws.take (j + 1))).map fun e => strL e.v).length
       rw [kA,List.map_append,List.length_append]
       rfl
     · show _ = strF ((setsB key 0 (ws.take (j + 1))).map fun e => strL e.v) m
       rw [kA,List.map_append]
       exact str_app1 (x := strL (ws.getD (j : Int).toNat default).v) rfl (by rw [enc_strL]; rfl) m hm
   · have kA : setsB key 0 (ws.take (j + 1)) = A := by rw [sA,if_neg (by rw [decide_eq_false (show ¬ (ws.getD (j : Int).toNat default).k = 3 by assumption)]; simp),List.append_nil]
     have kB : addsB key 0 (ws.take (j + 1)) = B ++ [ws.getD (j : Int).toNat default] := by rw [sB,if_pos (by simp only [ofK]; rw [decide_eq_true (by assumption),decide_eq_true (by assumption),decide_eq_false (by assumption)]; rfl)]
     refine ⟨⟨j + 1,hjl⟩,_,LeR.mk' [(95,92)] _ _ _ rfl ⟨AEq.refl _,AEq.refl _,AEq.refl _,AEq.refl _,AEq.refl _,AEq.refl _,AEq.refl _,AEq.refl _,AEq.refl _,AEq.refl _,AEq.refl _,AEq.int rfl,trivial⟩ ⟨⟨_,rfl,OEq.refl _⟩,⟨_,rfl,OEq.refl _⟩,⟨_,rfl,eqS (by rw [kA])⟩,⟨_,rfl,eqL (by rw [kA])⟩,⟨_,rfl,OEq.row ?_ (fun m hm => ?_)⟩,trivial⟩ rfl,mea⟩
     · show _ = ((addsB key 0 (ws.take (j + 1))).map fun e => strL e.v).length
       rw [kB,List.map_append,List.length_append]
       rfl
     · show _ = strF ((addsB key 0 (ws.take (j + 1))).map fun e => strL e.v) m
       rw [kB,List.map_append]
       exact str_app1 (x := strL (ws.getD (j : Int).toNat default).v) rfl (by rw [enc_strL]; rfl) m hm
   all_goals
    have hof : ofK key 0 (ws.getD (j : Int).toNat default) = false := by
     unfold ofK
     first
       | (rw [decide_eq_false (show ¬ (ws.getD (j : Int).toNat default).key = key by assumption)]; rfl)
       | (rw [decide_eq_false (show ¬ (ws.getD (j : Int).toNat default).l = 0 by assumption)]; simp)
    have kA : setsB key 0 (ws.take (j + 1)) = A := by rw [sA,hof]; simp
    have kB : addsB key 0 (ws.take (j + 1)) = B := by rw [sB,hof]; simp
    exact ⟨⟨j + 1,hjl⟩,_,LeR.mk' [] _ _ _ rfl ⟨AEq.refl _,AEq.refl _,AEq.refl _,AEq.refl _,AEq.refl _,AEq.refl _,AEq.refl _,AEq.refl _,AEq.refl _,AEq.refl _,AEq.refl _,AEq.int rfl,trivial⟩ ⟨⟨_,rfl,OEq.refl _⟩,⟨_,rfl,OEq.refl _⟩,⟨_,rfl,eqS (by rw [kA])⟩,⟨_,rfl,eqL (by rw [kA])⟩,⟨_,rfl,eqL (by rw [kB])⟩,trivial⟩ rfl,mea⟩
 · rw [List.take_of_length_le (show ws.length ≤ j by omega)]
   have hA : (setsB key 0 ws).length ≤ ws.length := List.length_filter_le ..
   have hB : (addsB key 0 ws).length ≤ ws.length := List.length_filter_le ..
   generalize setsB key 0 ws = A at hA ⊢
   generalize addsB key 0 ws = B at hB ⊢
   have lA : (A.map stampE).length = A.length := List.length_map ..
   have lA2 : (A.map fun e => strL e.v).length = A.length := List.length_map ..
   have lB : (B.map fun e => strL e.v).length = B.length := List.length_map ..
   have hso := sort_mspec (B.map fun e => strL e.v) (by omega)
   have hsl : (sortL (B.map fun e => strL e.v)).length = (B.map fun e => strL e.v).length := List.length_mergeSort ..
   have hco := compact_mspec (sortL (B.map fun e => strL e.v)) (by omega)
   rw [hsl] at hco
   by_cases hz : A.length = 0
   · repeat' ((conv => whnf); first | refine Spl.yes (by first | assumption | omega) ?_ | refine Spl.no (by first | assumption | omega) ?_ | refine Wr.i64 (by omega) (by omega) ?_ | refine Still.mk rfl rfl ?_ | refine InB.mk (inB_mk (by omega) (by omega)) ?_ | refine Req.mk (by omega) ?_ | refine Req.mk ⟨by first | omega | (dsimp only; omega),by first | omega | (dsimp only; omega)⟩ ?_ | refine ACall.chgR 1 [(0,_)] (hso) rfl ⟨rfl,trivial⟩ rfl rfl ?_ | refine ACall.chgR 1 [(0,_)] (hco) rfl ⟨rfl,trivial⟩ rfl rfl ?_ | refine ARet.hdI ?_ | refine Spl.mk (fun _ => ?_) (fun _ => ?_) | refine InA.mk (inB_mk (by omega) (by omega)) ?_ | refine Wr.b64 ?_ | refine Wr.bu64 ?_ | refine Wr.bu32 ?_ | refine Wr.bu8 ?_ | refine Wr.u8 (by omega) (by omega) ?_ | refine Wr.u64 (by omega) (by omega) ?_ | refine Wr.u32 (by omega) (by omega) ?_ | refine Dv.pos (by omega) (by omega) ?_ | refine Rm.pos (by omega) (by omega) ?_ | refine ADraw.quiet follows_ok (by kernel_rfl) rfl ?_ | refine BSpl.decY (by first | assumption | omega) ?_ | refine BSpl.decN (by first | assumption | omega) ?_ | refine BSpl.dec (fun _ => ?_) (fun _ => ?_) | refine BSpl.yes (by assumption) ?_ | refine BSpl.no (by assumption) ?_ | refine BSpl.mk (fun _ => ?_) (fun _ => ?_))
     conv => whnf
     refine ALoop.nil 7 190 100 2 (stF []) rfl (by omega) ?_
     refine ALoop.nil 8 191 9 1 (strF []) rfl (by omega) ?_
     refine ALoop.nil 9 192 9 1 (strF []) rfl (by omega) ?_
     conv => whnf
     refine ALoop.mk { j : Nat // j ≤ ws.length } (fun j => ⟨[(0, .v (.string key)),(1, .sl 12 ws.length true (evF ws)),(4, .box 0 0),(5, .box 1 0),(6, .v (.int .i64 1)),(14, .v (.int .i64 1)),(7, .own 190),(8, .own 191),(9, .own 192),(17, .sl 12 ws.length true (evF ws)),(18, .v (.int .i64 (ws.length : Int))),(19, .v (.int .i64 (j.1 : Int)))],
       [(0,_),(1,_),(94,_),(190, .row 100 2 ((setsB key 1 (ws.take j.1)).map stampE).length true (stF ((setsB key 1 (ws.take j.1)).map stampE))),
        (191, .row 9 1 ((setsB key 1 (ws.take j.1)).map fun e => strL e.v).length true (strF ((setsB key 1 (ws.take j.1)).map fun e => strL e.v))),
        (192, .row 9 1 ((addsB key 1 (ws.take j.1)).map fun e => strL e.v).length true (strF ((addsB key 1 (ws.take j.1)).map fun e => strL e.v)))],[],193⟩) (fun j => ws.length - j.1) ⟨0,Nat.zero_le _⟩ _
      (LeR.mk' [] _ _ _ rfl ⟨AEq.refl _,AEq.refl _,AEq.refl _,AEq.refl _,AEq.refl _,AEq.refl _,AEq.refl _,AEq.refl _,AEq.refl _,AEq.refl _,AEq.refl _,AEq.int rfl,trivial⟩ ⟨⟨_,rfl,OEq.refl _⟩,⟨_,rfl,OEq.refl _⟩,⟨_,rfl,OEq.refl _⟩,⟨_,rfl,OEq.refl _⟩,⟨_,rfl,OEq.refl _⟩,⟨_,rfl,OEq.refl _⟩,trivial⟩ rfl) ?_
     rintro ⟨j,hj⟩
     dsimp only
     by_cases hjl : j < ws.length
     · have hA : (setsB key 1 (ws.take j)).length ≤ j := by
        have := List.length_filter_le (fun e => ofK key 1 e && decide (e.k = 3)) (ws.take j)
        rw [List.length_take] at this
        unfold setsB
        omega
       have hB : (addsB key 1 (ws.take j)).length ≤ j := by
        have := List.length_filter_le (fun e => ofK key 1 e && !decide (e.k = 3)) (ws.take j)
        rw [List.length_take] at this
        unfold addsB
        omega
       have sA : setsB key 1 (ws.take (j + 1)) = setsB key 1 (ws.take j) ++ (if (ofK key 1 (ws.getD (j : Int).toNat default) && decide ((ws.getD (j : Int).toNat default).k = 3)) = true then [ws.getD (j : Int).toNat default] else []) := filter_take hjl
       have sB : addsB key 1 (ws.take (j + 1)) = addsB key 1 (ws.take j) ++ (if (ofK key 1 (ws.getD (j : Int).toNat default) && !decide ((ws.getD (j : Int).toNat default).k = 3)) = true then [ws.getD (j : Int).toNat default] else []) := filter_take hjl
       generalize setsB key 1 (ws.take j) = A at hA sA ⊢
       generalize addsB key 1 (ws.take j) = B at hB sB ⊢
       have lA : (A.map stampE).length = A.length := List.length_map ..
       have lA2 : (A.map fun e => strL e.v).length = A.length := List.length_map ..
       have lB : (B.map fun e => strL e.v).length = B.length := List.length_map ..
       have eqS {X Y : List St} (h : X = Y) : OEq (.row 100 2 X.length true (stF X)) (.row 100 2 Y.length true (stF Y)) := by rw [h]; exact OEq.refl _
       have eqL {X Y : List (List UInt8)} (h : X = Y) : OEq (.row 9 1 X.length true (strF X)) (.row 9 1 Y.length true (strF Y)) := by rw [h]; exact OEq.refl _
       have mea : ws.length - (j + 1) < ws.length - j := by omega
       repeat' ((conv => whnf); first | refine Spl.yes (by first | assumption | omega) ?_ | refine Spl.no (by first | assumption | omega) ?_ | refine Wr.i64 (by omega) (by omega) ?_ | refine Still.mk rfl rfl ?_ | refine InB.mk (inB_mk (by omega) (by omega)) ?_ | refine Req.mk (by omega) ?_ | refine Req.mk ⟨by first | omega | (dsimp only; omega),by first | omega | (dsimp only; omega)⟩ ?_ | refine ARet.hdI ?_ | refine Spl.mk (fun _ => ?_) (fun _ => ?_) | refine InA.mk (inB_mk (by omega) (by omega)) ?_ | refine Wr.b64 ?_ | refine Wr.bu64 ?_ | refine Wr.bu32 ?_ | refine Wr.bu8 ?_ | refine Wr.u8 (by omega) (by omega) ?_ | refine Wr.u64 (by omega) (by omega) ?_ | refine Wr.u32 (by omega) (by omega) ?_ | refine Dv.pos (by omega) (by omega) ?_ | refine Rm.pos (by omega) (by omega) ?_ | refine ADraw.quiet follows_ok (by kernel_rfl) rfl ?_ | refine BSpl.decY (by first | assumption | omega) ?_ | refine BSpl.decN (by first | assumption | omega) ?_ | refine BSpl.dec (fun _ => ?_) (fun _ => ?_) | refine BSpl.yes (by assumption) ?_ | refine BSpl.no (by assumption) ?_ | refine BSpl.mk (fun _ => ?_) (fun _ => ?_))
       all_goals (conv => whnf)
       · have kA : setsB key 1 (ws.take (j + 1)) = A ++ [ws.getD (j : Int).toNat default] := by rw [sA,if_pos (by simp only [ofK]; rw [decide_eq_true (by assumption),decide_eq_true (by assumption),decide_eq_true (by assumption)]; rfl)]
         have kB : addsB key 1 (ws.take (j + 1)) = B := by rw [sB,if_neg (by rw [decide_eq_true (show (ws.getD (j : Int).toNat default).k = 3 by assumption)]; simp),List.append_nil]
         refine ⟨⟨j + 1,hjl⟩,_,LeR.mk' [(195,190),(197,191)] _ _ _ rfl ⟨AEq.refl _,AEq.refl _,AEq.refl _,AEq.refl _,AEq.refl _,AEq.refl _,AEq.refl _,AEq.refl _,AEq.refl _,AEq.refl _,AEq.refl _,AEq.int rfl,trivial⟩ ⟨⟨_,rfl,OEq.refl _⟩,⟨_,rfl,OEq.refl _⟩,⟨_,rfl,OEq.refl _⟩,⟨_,rfl,OEq.row ?_ (fun m hm => ?_)⟩,⟨_,rfl,OEq.row ?_ (fun m hm => ?_)⟩,⟨_,rfl,eqL (by rw [kB])⟩,trivial⟩ rfl,mea⟩
         · show _ = ((setsB key 1 (ws.take (j + 1))).map stampE).length
           rw [kA,List.map_append,List.length_append]
           rfl
         · show _ = stF ((setsB key 1 (ws.take (j + 1))).map stampE) m
           rw [kA,List.map_append]
           exact els_app1 (c := stC) (x := stampE (ws.getD (j : Int).toNat default)) rfl rfl m hm
         · show _ = ((setsB key 1 (ws.take (j + 1))).map fun e => strL e.v).length
           rw [kA,List.map_append,List.length_append]
           rfl
         · show _ = strF ((setsB key 1 (ws.take (j + 1))).map fun e => strL e.v) m
           rw [kA,List.map_append]
           exact str_app1 (x := strL (ws.getD (j : Int).toNat default).v) rfl (by rw [enc_strL]; rfl) m hm
       · have kA : setsB key 1 (ws.take (j + 1)) = A := by rw [sA,if_neg (by rw [decide_eq_false (show ¬ (ws.getD (j : Int).toNat default).k = 3 by assumption)]; simp),List.append_nil]
         have kB : addsB key 1 (ws.take (j + 1)) = B ++ [ws.getD (j : Int).toNat default] := by rw [sB,if_pos (by simp only [ofK]; rw [decide_eq_true (by assumption),decide_eq_true (by assumption),decide_eq_false (by assumption)]; rfl)]
         refine ⟨⟨j + 1,hjl⟩,_,LeR.mk' [(195,192)] _ _ _ rfl ⟨AEq.refl _,AEq.refl _,AEq.refl _,AEq.refl _,AEq.refl _,AEq.refl _,AEq.refl _,AEq.refl _,AEq.refl _,AEq.refl _,AEq.refl _,AEq.int rfl,trivial⟩ ⟨⟨_,rfl,OEq.refl _⟩,⟨_,rfl,OEq.refl _⟩,⟨_,rfl,OEq.refl _⟩,⟨_,rfl,eqS (by rw [kA])⟩,⟨_,rfl,eqL (by rw [kA])⟩,⟨_,rfl,OEq.row ?_ (fun m hm => ?_)⟩,trivial⟩ rfl,mea⟩
         · show _ = ((addsB key 1 (ws.take (j + 1))).map fun e => strL e.v).length
           rw [kB,List.map_append,List.length_append]
           rfl
         · show _ = strF ((addsB key 1 (ws.take (j + 1))).map fun e => strL e.v) m
           rw [kB,List.map_append]
           exact str_app1 (x := strL (ws.getD (j : Int).toNat default).v) rfl (by rw [enc_strL]; rfl) m hm
       all_goals
        have hof : ofK key 1 (ws.getD (j : Int).toNat default) = false := by
         unfold ofK
         first
           | (rw [decide_eq_false (show ¬ (ws.getD (j : Int).toNat default).key = key by assumption)]; rfl)
           | (rw [decide_eq_false (show ¬ (ws.getD (j : Int).toNat default).l = 1 by assumption)]; simp)
        have kA : setsB key 1 (ws.take (j + 1)) = A := by rw [sA,hof]; simp
        have kB : addsB key 1 (ws.take (j + 1)) = B := by rw [sB,hof]; simp
        exact ⟨⟨j + 1,hjl⟩,_,LeR.mk' [] _ _ _ rfl ⟨AEq.refl _,AEq.refl _,AEq.refl _,AEq.refl _,AEq.refl _,AEq.refl _,AEq.refl _,AEq.refl _,AEq.refl _,AEq.refl _,AEq.refl _,AEq.int rfl,trivial⟩ ⟨⟨_,rfl,OEq.refl _⟩,⟨_,rfl,OEq.refl _⟩,⟨_,rfl,OEq.refl _⟩,⟨_,rfl,eqS (by rw [kA])⟩,⟨_,rfl,eqL (by rw [kA])⟩,⟨_,rfl,eqL (by rw [kB])⟩,trivial⟩ rfl,mea⟩
     · rw [List.take_of_length_le (show ws.length ≤ j by omega)]
       have hA1 : (setsB key 1 ws).length ≤ ws.length := List.length_filter_le ..
       have hB1 : (addsB key 1 ws).length ≤ ws.length := List.length_filter_le ..
       generalize setsB key 1 ws = A1 at hA1 ⊢
       generalize addsB key 1 ws = B1 at hB1 ⊢
       have lA1 : (A1.map stampE).length = A1.length := List.length_map ..
       have lA21 : (A1.map fun e => strL e.v).length = A1.length := List.length_map ..
       have lB1 : (B1.map fun e => strL e.v).length = B1.length := List.length_map ..
       have hso1 := sort_mspec (B1.map fun e => strL e.v) (by omega)
       have hsl1 : (sortL (B1.map fun e => strL e.v)).length = (B1.map fun e => strL e.v).length := List.length_mergeSort ..
       have hco1 := compact_mspec (sortL (B1.map fun e => strL e.v)) (by omega)
       rw [hsl1] at hco1
       by_cases hz1 : A1.length = 0
       · repeat' ((conv => whnf); first | refine Spl.yes (by first | assumption | omega) ?_ | refine Spl.no (by first | assumption | omega) ?_ | refine Wr.i64 (by omega) (by omega) ?_ | refine Still.mk rfl rfl ?_ | refine InB.mk (inB_mk (by omega) (by omega)) ?_ | refine Req.mk (by omega) ?_ | refine Req.mk ⟨by first | omega | (dsimp only; omega),by first | omega | (dsimp only; omega)⟩ ?_ | refine ACall.chgR 1 [(0,_)] (hso1) rfl ⟨rfl,trivial⟩ rfl rfl ?_ | refine ACall.chgR 1 [(0,_)] (hco1) rfl ⟨rfl,trivial⟩ rfl rfl ?_ | refine ARet.hdI ?_ | refine Spl.mk (fun _ => ?_) (fun _ => ?_) | refine InA.mk (inB_mk (by omega) (by omega)) ?_ | refine Wr.b64 ?_ | refine Wr.bu64 ?_ | refine Wr.bu32 ?_ | refine Wr.bu8 ?_ | refine Wr.u8 (by omega) (by omega) ?_ | refine Wr.u64 (by omega) (by omega) ?_ | refine Wr.u32 (by omega) (by omega) ?_ | refine Dv.pos (by omega) (by omega) ?_ | refine Rm.pos (by omega) (by omega) ?_ | refine ADraw.quiet follows_ok (by kernel_rfl) rfl ?_ | refine BSpl.decY (by first | assumption | omega) ?_ | refine BSpl.decN (by first | assumption | omega) ?_ | refine BSpl.dec (fun _ => ?_) (fun _ => ?_) | refine BSpl.yes (by assumption) ?_ | refine BSpl.no (by assumption) ?_ | refine BSpl.mk (fun _ => ?_) (fun _ => ?_))
         conv => whnf
         simp only [hasF,fieldF,valsF,if_pos hz,decide_eq_true hz,Bool.not_true,if_pos hz1,decide_eq_true hz1,Bool.not_true]
         exact AEqI.mk (AEq.refl _)
       · have hla1 := last_spec (A1.map stampE) (fun h => hz1 (by rw [← lA1,h]; rfl)) (by omega)
         have hlt1 := last_lt (l := A1.map stampE) (fun h => hz1 (by rw [← lA1,h]; rfl))
         repeat' ((conv => whnf); first | refine Spl.yes (by first | assumption | omega) ?_ | refine Spl.no (by first | assumption | omega) ?_ | refine Wr.i64 (by omega) (by omega) ?_ | refine Still.mk rfl rfl ?_ | refine InB.mk (inB_mk (by omega) (by omega)) ?_ | refine Req.mk (by omega) ?_ | refine Req.mk ⟨by first | omega | (dsimp only; omega),by first | omega | (dsimp only; omega)⟩ ?_ | refine ACall.chgR 1 [(0,_)] (hso1) rfl ⟨rfl,trivial⟩ rfl rfl ?_ | refine ACall.chgR 1 [(0,_)] (hco1) rfl ⟨rfl,trivial⟩ rfl rfl ?_ | refine ACall.plain _ _ (hla1) (SubL.cons (.eq _) .nil) rfl ?_ | refine ARet.hdI ?_ | refine Spl.mk (fun _ => ?_) (fun _ => ?_) | refine InA.mk (inB_mk (by omega) (by omega)) ?_ | refine Wr.b64 ?_ | refine Wr.bu64 ?_ | refine Wr.bu32 ?_ | refine Wr.bu8 ?_ | refine Wr.u8 (by omega) (by omega) ?_ | refine Wr.u64 (by omega) (by omega) ?_ | refine Wr.u32 (by omega) (by omega) ?_ | refine Dv.pos (by omega) (by omega) ?_ | refine Rm.pos (by omega) (by omega) ?_ | refine ADraw.quiet follows_ok (by kernel_rfl) rfl ?_ | refine BSpl.decY (by first | assumption | omega) ?_ | refine BSpl.decN (by first | assumption | omega) ?_ | refine BSpl.dec (fun _ => ?_) (fun _ => ?_) | refine BSpl.yes (by assumption) ?_ | refine BSpl.no (by assumption) ?_ | refine BSpl.mk (fun _ => ?_) (fun _ => ?_))
         rotate_left
         · exact absurd (show Nat.ble _ _ = false by assumption) (by rw [Bool.not_eq_false,Nat.ble_eq]; omega)
         conv => whnf
         simp only [hasF,fieldF,valsF,if_pos hz,decide_eq_true hz,Bool.not_true,if_neg hz1,decide_eq_false hz1,Bool.not_false]
         exact AEqI.mk (AEq.refl _)
   · have hla := last_spec (A.map stampE) (fun h => hz (by rw [← lA,h]; rfl)) (by omega)
     have hlt := last_lt (l := A.map stampE) (fun h => hz (by rw [← lA,h]; rfl))
     repeat' ((conv => whnf); first | refine Spl.yes (by first | assumption | omega) ?_ | refine Spl.no (by first | assumption | omega) ?_ | refine Wr.i64 (by omega) (by omega) ?_ | refine Still.mk rfl rfl ?_ | refine InB.mk (inB_mk (by omega) (by omega)) ?_ | refine Req.mk (by omega) ?_ | refine Req.mk ⟨by first | omega | (dsimp only; omega),by first | omega | (dsimp only; omega)⟩ ?_ | refine ACall.chgR 1 [(0,_)] (hso) rfl ⟨rfl,trivial⟩ rfl rfl ?_ | refine ACall.chgR 1 [(0,_)] (hco) rfl ⟨rfl,trivial⟩ rfl rfl ?_ | refine ACall.plain _ _ (hla) (SubL.cons (.eq _) .nil) rfl ?_ | refine ARet.hdI ?_ | refine Spl.mk (fun _ => ?_) (fun _ => ?_) | refine InA.mk (inB_mk (by omega) (by omega)) ?_ | refine Wr.b64 ?_ | refine Wr.bu64 ?_ | refine Wr.bu32 ?_ | refine Wr.bu8 ?_ | refine Wr.u8 (by omega) (by omega) ?_ | refine Wr.u64 (by omega) (by omega) ?_ | refine Wr.u32 (by omega) (by omega) ?_ | refine Dv.pos (by omega) (by omega) ?_ | refine Rm.pos (by omega) (by omega) ?_ | refine ADraw.quiet follows_ok (by kernel_rfl) rfl ?_ | refine BSpl.decY (by first | assumption | omega) ?_ | refine BSpl.decN (by first | assumption | omega) ?_ | refine BSpl.dec (fun _ => ?_) (fun _ => ?_) | refine BSpl.yes (by assumption) ?_ | refine BSpl.no (by assumption) ?_ | refine BSpl.mk (fun _ => ?_) (fun _ => ?_))
     rotate_left
     · exact absurd (show Nat.ble _ _ = false by assumption) (by rw [Bool.not_eq_false,Nat.ble_eq]; omega)
     conv => whnf
     refine ALoop.nil 7 190 100 2 (stF []) rfl (by omega) ?_
     refine ALoop.nil 8 191 9 1 (strF []) rfl (by omega) ?_
     refine ALoop.nil 9 192 9 1 (strF []) rfl (by omega) ?_
     conv => whnf
     refine ALoop.mk { j : Nat // j ≤ ws.length } (fun j => ⟨[(0, .v (.string key)),(1, .sl 12 ws.length true (evF ws)),(4, .box 0 0),(5, .box 1 0),(6, .v (.int .i64 1)),(14, .v (.int .i64 1)),(7, .own 190),(8, .own 191),(9, .own 192),(17, .sl 12 ws.length true (evF ws)),(18, .v (.int .i64 (ws.length : Int))),(19, .v (.int .i64 (j.1 : Int)))],
       [(0,_),(1,_),(94,_),(190, .row 100 2 ((setsB key 1 (ws.take j.1)).map stampE).length true (stF ((setsB key 1 (ws.take j.1)).map stampE))),
        (191, .row 9 1 ((setsB key 1 (ws.take j.1)).map fun e => strL e.v).length true (strF ((setsB key 1 (ws.take j.1)).map fun e => strL e.v))),
        (192, .row 9 1 ((addsB key 1 (ws.take j.1)).map fun e => strL e.v).length true (strF ((addsB key 1 (ws.take j.1)).map fun e => strL e.v)))],[],193⟩) (fun j => ws.length - j.1) ⟨0,Nat.zero_le _⟩ _
      (LeR.mk' [] _ _ _ rfl ⟨AEq.refl _,AEq.refl _,AEq.refl _,AEq.refl _,AEq.refl _,AEq.refl _,AEq.refl _,AEq.refl _,AEq.refl _,AEq.refl _,AEq.refl _,AEq.int rfl,trivial⟩ ⟨⟨_,rfl,OEq.refl _⟩,⟨_,rfl,OEq.refl _⟩,⟨_,rfl,OEq.refl _⟩,⟨_,rfl,OEq.refl _⟩,⟨_,rfl,OEq.refl _⟩,⟨_,rfl,OEq.refl _⟩,trivial⟩ rfl) ?_
     rintro ⟨j,hj⟩
     dsimp only
     by_cases hjl : j < ws.length
     · have hA : (setsB key 1 (ws.take j)).length ≤ j := by
        have := List.length_filter_le (fun e => ofK key 1 e && decide (e.k = 3)) (ws.take j)
        rw [List.length_take] at this
        unfold setsB
        omega
       have hB : (addsB key 1 (ws.take j)).length ≤ j := by
        have := List.length_filter_le (fun e => ofK key 1 e && !decide (e.k = 3)) (ws.take j)
        rw [List.length_take] at this
        unfold addsB
        omega
       have sA : setsB key 1 (ws.take (j + 1)) = setsB key 1 (ws.take j) ++ (if (ofK key 1 (ws.getD (j : Int).toNat default) && decide ((ws.getD (j : Int).toNat default).k = 3)) = true then [ws.getD (j : Int).toNat default] else []) := filter_take hjl
       have sB : addsB key 1 (ws.take (j + 1)) = addsB key 1 (ws.take j) ++ (if (ofK key 1 (ws.getD (j : Int).toNat default) && !decide ((ws.getD (j : Int).toNat default).k = 3)) = true then [ws.getD (j : Int).toNat default] else []) := filter_take hjl
       generalize setsB key 1 (ws.take j) = A at hA sA ⊢
       generalize addsB key 1 (ws.take j) = B at hB sB ⊢
       have lA : (A.map stampE).length = A.length := List.length_map ..
       have lA2 : (A.map fun e => strL e.v).length = A.length := List.length_map ..
       have lB : (B.map fun e => strL e.v).length = B.length := List.length_map ..
       have eqS {X Y : List St} (h : X = Y) : OEq (.row 100 2 X.length true (stF X)) (.row 100 2 Y.length true (stF Y)) := by rw [h]; exact OEq.refl _
       have eqL {X Y : List (List UInt8)} (h : X = Y) : OEq (.row 9 1 X.length true (strF X)) (.row 9 1 Y.length true (strF Y)) := by rw [h]; exact OEq.refl _
       have mea : ws.length - (j + 1) < ws.length - j := by omega
       repeat' ((conv => whnf); first | refine Spl.yes (by first | assumption | omega) ?_ | refine Spl.no (by first | assumption | omega) ?_ | refine Wr.i64 (by omega) (by omega) ?_ | refine Still.mk rfl rfl ?_ | refine InB.mk (inB_mk (by omega) (by omega)) ?_ | refine Req.mk (by omega) ?_ | refine Req.mk ⟨by first | omega | (dsimp only; omega),by first | omega | (dsimp only; omega)⟩ ?_ | refine ARet.hdI ?_ | refine Spl.mk (fun _ => ?_) (fun _ => ?_) | refine InA.mk (inB_mk (by omega) (by omega)) ?_ | refine Wr.b64 ?_ | refine Wr.bu64 ?_ | refine Wr.bu32 ?_ | refine Wr.bu8 ?_ | refine Wr.u8 (by omega) (by omega) ?_ | refine Wr.u64 (by omega) (by omega) ?_ | refine Wr.u32 (by omega) (by omega) ?_ | refine Dv.pos (by omega) (by omega) ?_ | refine Rm.pos (by omega) (by omega) ?_ | refine ADraw.quiet follows_ok (by kernel_rfl) rfl ?_ | refine BSpl.decY (by first | assumption | omega) ?_ | refine BSpl.decN (by first | assumption | omega) ?_ | refine BSpl.dec (fun _ => ?_) (fun _ => ?_) | refine BSpl.yes (by assumption) ?_ | refine BSpl.no (by assumption) ?_ | refine BSpl.mk (fun _ => ?_) (fun _ => ?_))
       all_goals (conv => whnf)
       · have kA : setsB key 1 (ws.take (j + 1)) = A ++ [ws.getD (j : Int).toNat default] := by rw [sA,if_pos (by simp only [ofK]; rw [decide_eq_true (by assumption),decide_eq_true (by assumption),decide_eq_true (by assumption)]; rfl)]
         have kB : addsB key 1 (ws.take (j + 1)) = B := by rw [sB,if_neg (by rw [decide_eq_true (show (ws.getD (j : Int).toNat default).k = 3 by assumption)]; simp),List.append_nil]
         refine ⟨⟨j + 1,hjl⟩,_,LeR.mk' [(195,190),(197,191)] _ _ _ rfl ⟨AEq.refl _,AEq.refl _,AEq.refl _,AEq.refl _,AEq.refl _,AEq.refl _,AEq.refl _,AEq.refl _,AEq.refl _,AEq.refl _,AEq.refl _,AEq.int rfl,trivial⟩ ⟨⟨_,rfl,OEq.refl _⟩,⟨_,rfl,OEq.refl _⟩,⟨_,rfl,OEq.refl _⟩,⟨_,rfl,OEq.row ?_ (fun m hm => ?_)⟩,⟨_,rfl,OEq.row ?_ (fun m hm => ?_)⟩,⟨_,rfl,eqL (by rw [kB])⟩,trivial⟩ rfl,mea⟩
         · show _ = ((setsB key 1 (ws.take (j + 1))).map stampE).length
           rw [kA,List.map_append,List.length_append]
           rfl
         · show _ = stF ((setsB key 1 (ws.take (j + 1))).map stampE) m
           rw [kA,List.map_append]
           exact els_app1 (c := stC) (x := stampE (ws.getD (j : Int).toNat default)) rfl rfl m hm
         · show _ = ((setsB key 1 (ws.take (j + 1))).map fun e => strL e.v).length
           rw [kA,List.map_append,List.length_append]
           rfl
         · show _ = strF ((setsB key 1 (ws.take (j + 1))).map fun e => strL e.v) m
           rw [kA,List.map_append]
           exact str_app1 (x := strL (ws.getD (j : Int).toNat default).v) rfl (by rw [enc_strL]; rfl) m hm
       · have kA : setsB key 1 (ws.take (j + 1)) = A := by rw [sA,if_neg (by rw [decide_eq_false (show ¬ (ws.getD (j : Int).toNat default).k = 3 by assumption)]; simp),List.append_nil]
         have kB : addsB key 1 (ws.take (j + 1)) = B ++ [ws.getD (j : Int).toNat default] := by rw [sB,if_pos (by simp only [ofK]; rw [decide_eq_true (by assumption),decide_eq_true (by assumption),decide_eq_false (by assumption)]; rfl)]
         refine ⟨⟨j + 1,hjl⟩,_,LeR.mk' [(195,192)] _ _ _ rfl ⟨AEq.refl _,AEq.refl _,AEq.refl _,AEq.refl _,AEq.refl _,AEq.refl _,AEq.refl _,AEq.refl _,AEq.refl _,AEq.refl _,AEq.refl _,AEq.int rfl,trivial⟩ ⟨⟨_,rfl,OEq.refl _⟩,⟨_,rfl,OEq.refl _⟩,⟨_,rfl,OEq.refl _⟩,⟨_,rfl,eqS (by rw [kA])⟩,⟨_,rfl,eqL (by rw [kA])⟩,⟨_,rfl,OEq.row ?_ (fun m hm => ?_)⟩,trivial⟩ rfl,mea⟩
         · show _ = ((addsB key 1 (ws.take (j + 1))).map fun e => strL e.v).length
           rw [kB,List.map_append,List.length_append]
           rfl
         · show _ = strF ((addsB key 1 (ws.take (j + 1))).map fun e => strL e.v) m
           rw [kB,List.map_append]
           exact str_app1 (x := strL (ws.getD (j : Int).toNat default).v) rfl (by rw [enc_strL]; rfl) m hm
       all_goals
        have hof : ofK key 1 (ws.getD (j : Int).toNat default) = false := by
         unfold ofK
         first
           | (rw [decide_eq_false (show ¬ (ws.getD (j : Int).toNat default).key = key by assumption)]; rfl)
           | (rw [decide_eq_false (show ¬ (ws.getD (j : Int).toNat default).l = 1 by assumption)]; simp)
        have kA : setsB key 1 (ws.take (j + 1)) = A := by rw [sA,hof]; simp
        have kB : addsB key 1 (ws.take (j + 1)) = B := by rw [sB,hof]; simp
        exact ⟨⟨j + 1,hjl⟩,_,LeR.mk' [] _ _ _ rfl ⟨AEq.refl _,AEq.refl _,AEq.refl _,AEq.refl _,AEq.refl _,AEq.refl _,AEq.refl _,AEq.refl _,AEq.refl _,AEq.refl _,AEq.refl _,AEq.int rfl,trivial⟩ ⟨⟨_,rfl,OEq.refl _⟩,⟨_,rfl,OEq.refl _⟩,⟨_,rfl,OEq.refl _⟩,⟨_,rfl,eqS (by rw [kA])⟩,⟨_,rfl,eqL (by rw [kA])⟩,⟨_,rfl,eqL (by rw [kB])⟩,trivial⟩ rfl,mea⟩
     · rw [List.take_of_length_le (show ws.length ≤ j by omega)]
       have hA1 : (setsB key 1 ws).length ≤ ws.length := List.length_filter_le ..
       have hB1 : (addsB key 1 ws).length ≤ ws.length := List.length_filter_le ..
       generalize setsB key 1 ws = A1 at hA1 ⊢
       generalize addsB key 1 ws = B1 at hB1 ⊢
       have lA1 : (A1.map stampE).length = A1.length := List.length_map ..
       have lA21 : (A1.map fun e => strL e.v).length = A1.length := List.length_map ..
       have lB1 : (B1.map fun e => strL e.v).length = B1.length := List.length_map ..
       have hso1 := sort_mspec (B1.map fun e => strL e.v) (by omega)
       have hsl1 : (sortL (B1.map fun e => strL e.v)).length = (B1.map fun e => strL e.v).length := List.length_mergeSort ..
       have hco1 := compact_mspec (sortL (B1.map fun e => strL e.v)) (by omega)
       rw [hsl1] at hco1
       by_cases hz1 : A1.length = 0
       · repeat' ((conv => whnf); first | refine Spl.yes (by first | assumption | omega) ?_ | refine Spl.no (by first | assumption | omega) ?_ | refine Wr.i64 (by omega) (by omega) ?_ | refine Still.mk rfl rfl ?_ | refine InB.mk (inB_mk (by omega) (by omega)) ?_ | refine Req.mk (by omega) ?_ | refine Req.mk ⟨by first | omega | (dsimp only; omega),by first | omega | (dsimp only; omega)⟩ ?_ | refine ACall.chgR 1 [(0,_)] (hso1) rfl ⟨rfl,trivial⟩ rfl rfl ?_ | refine ACall.chgR 1 [(0,_)] (hco1) rfl ⟨rfl,trivial⟩ rfl rfl ?_ | refine ARet.hdI ?_ | refine Spl.mk (fun _ => ?_) (fun _ => ?_) | refine InA.mk (inB_mk (by omega) (by omega)) ?_ | refine Wr.b64 ?_ | refine Wr.bu64 ?_ | refine Wr.bu32 ?_ | refine Wr.bu8 ?_ | refine Wr.u8 (by omega) (by omega) ?_ | refine Wr.u64 (by omega) (by omega) ?_ | refine Wr.u32 (by omega) (by omega) ?_ | refine Dv.pos (by omega) (by omega) ?_ | refine Rm.pos (by omega) (by omega) ?_ | refine ADraw.quiet follows_ok (by kernel_rfl) rfl ?_ | refine BSpl.decY (by first | assumption | omega) ?_ | refine BSpl.decN (by first | assumption | omega) ?_ | refine BSpl.dec (fun _ => ?_) (fun _ => ?_) | refine BSpl.yes (by assumption) ?_ | refine BSpl.no (by assumption) ?_ | refine BSpl.mk (fun _ => ?_) (fun _ => ?_))
         conv => whnf
         simp only [hasF,fieldF,valsF,if_neg hz,decide_eq_false hz,Bool.not_false,if_pos hz1,decide_eq_true hz1,Bool.not_true]
         exact AEqI.mk (AEq.refl _)
       · have hla1 := last_spec (A1.map stampE) (fun h => hz1 (by rw [← lA1,h]; rfl)) (by omega)
         have hlt1 := last_lt (l := A1.map stampE) (fun h => hz1 (by rw [← lA1,h]; rfl))
         repeat' ((conv => whnf); first | refine Spl.yes (by first | assumption | omega) ?_ | refine Spl.no (by first | assumption | omega) ?_ | refine Wr.i64 (by omega) (by omega) ?_ | refine Still.mk rfl rfl ?_ | refine InB.mk (inB_mk (by omega) (by omega)) ?_ | refine Req.mk (by omega) ?_ | refine Req.mk ⟨by first | omega | (dsimp only; omega),by first | omega | (dsimp only; omega)⟩ ?_ | refine ACall.chgR 1 [(0,_)] (hso1) rfl ⟨rfl,trivial⟩ rfl rfl ?_ | refine ACall.chgR 1 [(0,_)] (hco1) rfl ⟨rfl,trivial⟩ rfl rfl ?_ | refine ACall.plain _ _ (hla1) (SubL.cons (.eq _) .nil) rfl ?_ | refine ARet.hdI ?_ | refine Spl.mk (fun _ => ?_) (fun _ => ?_) | refine InA.mk (inB_mk (by omega) (by omega)) ?_ | refine Wr.b64 ?_ | refine Wr.bu64 ?_ | refine Wr.bu32 ?_ | refine Wr.bu8 ?_ | refine Wr.u8 (by omega) (by omega) ?_ | refine Wr.u64 (by omega) (by omega) ?_ | refine Wr.u32 (by omega) (by omega) ?_ | refine Dv.pos (by omega) (by omega) ?_ | refine Rm.pos (by omega) (by omega) ?_ | refine ADraw.quiet follows_ok (by kernel_rfl) rfl ?_ | refine BSpl.decY (by first | assumption | omega) ?_ | refine BSpl.decN (by first | assumption | omega) ?_ | refine BSpl.dec (fun _ => ?_) (fun _ => ?_) | refine BSpl.yes (by assumption) ?_ | refine BSpl.no (by assumption) ?_ | refine BSpl.mk (fun _ => ?_) (fun _ => ?_))
         rotate_left
         · exact absurd (show Nat.ble _ _ = false by assumption) (by rw [Bool.not_eq_false,Nat.ble_eq]; omega)
         conv => whnf
         simp only [hasF,fieldF,valsF,if_neg hz,decide_eq_false hz,Bool.not_false,if_neg hz1,decide_eq_false hz1,Bool.not_false]
         exact AEqI.mk (AEq.refl _)
end Go.Proofs.YtkkpfjifkjbndaaGreat

/-
 What a past comes to: book.Of.
-/
namespace Go.Proofs.YtkkpfjifkjbndaaGreat
open Go.RowKit
instance : Inhabited Cont := ⟨⟨⟨#[]⟩,false,false,⟨#[]⟩,⟨#[]⟩,[],[]⟩⟩
abbrev coF (l : List Cont) : Nat → List AV := elsF Cont.cs l
def keysB (l : List Ev) : List (List UInt8) := Lib.compact (sortL ((livingB l).map fun e => strL e.key))
def ofB (l : List Ev) : List Cont := (keysB l).map fun k => contactB ⟨k.toArray⟩ (countingB l (livingB l))
theorem OEq.rowF {e : TypeId} {s n n' : Nat} {sc : Bool} {f f' : Nat → List AV} (hn : n = n') (hf : ∀ i,i < n → f i = f' i) : OEq (.row e s n sc f) (.row e s n' false f') := by
 subst hn
 rintro X id ⟨us,hown,hs,hfl,_,ha⟩
 rw [flat_congr hf] at ha
 exact ⟨us,hown,hs,fun i hi => by rw [← hf i hi]; exact hfl i hi,(fun h => by cases h),ha⟩
end Go.Proofs.YtkkpfjifkjbndaaGreat

/-
 Plain Lean: rows of strings sorted,each once.
-/
namespace Go.Proofs.YtkkpfjifkjbndaaGreat
open Go.Lib
abbrev Str := List UInt8
theorem str_le_of_lt {a b : Str} (h : a < b) : a ≤ b := List.le_of_lt h
theorem str_lt_irrefl (a : Str) : ¬ a < a := List.lt_irrefl a
theorem str_lt_of_le {a b : Str} (h : a ≤ b) (hn : a ≠ b) : a < b := by
 rcases List.le_iff_lt_or_eq.1 h with h | h
 · exact h
 · exact absurd h hn
theorem str_lt_of_le_lt {a b c : Str} (h : a ≤ b) (k : b < c) : a < c := List.lt_of_le_of_lt h k
theorem str_lt_trans {a b c : Str} (h : a < b) (k : b < c) : a < c := List.lt_of_le_of_lt (str_le_of_lt h) k
def uniq (l : List Str) : List Str := Lib.compact (l.mergeSort fun x y => decide (x ≤ y))
theorem compactUpTo_props (d : Array Str) (hs : ∀ i j,i ≤ j → j < d.size → d[i]! ≤ d[j]!) : ∀ m,m ≤ d.size → (compactUpTo d m).Pairwise (· < ·) ∧ (∀ x ∈ compactUpTo d m,∃ j,j < m ∧ x = d[j]!) ∧ ∀ j,j < m → d[j]! ∈ compactUpTo d m
  | 0,_ => by
   refine ⟨?_,fun x hx => ?_,fun j hj => absurd hj (Nat.not_lt_zero j)⟩
   · show (compactUpTo d 0).Pairwise _
     exact List.Pairwise.nil
   · exact absurd hx (by show x ∉ ([] : List Str); simp)
  | m + 1,hm => by
   obtain ⟨h1,h2,h3⟩ := compactUpTo_props d hs m (by omega)
   rw [compactUpTo_succ]
   by_cases hk : keeps d m = true
   · rw [if_pos hk]
     refine ⟨?_,fun x hx => ?_,fun j hj => ?_⟩
     · refine List.pairwise_append.2 ⟨h1,List.pairwise_singleton _ _,fun x hx y hy => ?_⟩
       rw [List.mem_singleton.1 hy]
       obtain ⟨j,hj,rfl⟩ := h2 x hx
       have hne : m = 0 ∨ d[m]! ≠ d[m - 1]! := of_decide_eq_true hk
       have hne : d[m]! ≠ d[m - 1]! := by
        rcases hne with h | h
        · omega
        · exact h
       exact str_lt_of_le_lt (hs j (m - 1) (by omega) (by omega)) (str_lt_of_le (hs (m - 1) m (by omega) (by omega)) fun e => hne e.symm)
     · rcases List.mem_append.1 hx with hx | hx
       · obtain ⟨j,hj,e⟩ := h2 x hx
         exact ⟨j,by omega,e⟩
       · exact ⟨m,by omega,List.mem_singleton.1 hx⟩
     · rcases Nat.lt_or_ge j m with h | h
       · exact List.mem_append.2 (.inl (h3 j h))
       · obtain rfl : j = m := by omega
         exact List.mem_append.2 (.inr (List.mem_singleton.2 rfl))
   · rw [if_neg hk,List.append_nil]
     refine ⟨h1,fun x hx => ?_,fun j hj => ?_⟩
     · obtain ⟨j,hj,e⟩ := h2 x hx
       exact ⟨j,by omega,e⟩
     · rcases Nat.lt_or_ge j m with h | h
       · exact h3 j h
       · obtain rfl : j = m := by omega
         have hk : ¬ (j = 0 ∨ d[j]! ≠ d[j - 1]!) := fun h => hk (decide_eq_true h)
         have e : d[j]! = d[j - 1]! := Classical.byContradiction fun h => hk (.inr h)
         rw [e]
         exact h3 (j - 1) (by have : j ≠ 0 := fun h => hk (.inl h); omega)
theorem sort_pairwise (l : List Str) : (l.mergeSort fun x y => decide (x ≤ y)).Pairwise (· ≤ ·) := by
 have tr : ∀ a b c : Str,decide (a ≤ b) = true → decide (b ≤ c) = true → decide (a ≤ c) = true := fun a b c h1 h2 => by simp only [decide_eq_true_eq] at *; exact List.le_trans h1 h2
 have to : ∀ a b : Str,(decide (a ≤ b) || decide (b ≤ a)) = true := fun a b => by simp only [Bool.or_eq_true,decide_eq_true_eq]; exact List.le_total a b
 exact (List.pairwise_mergeSort tr to l).imp fun h => of_decide_eq_true h
theorem str_le_refl (a : Str) : a ≤ a := List.le_refl a
theorem uniq_props (l : List Str) : (uniq l).Pairwise (· < ·) ∧ ∀ x,x ∈ uniq l ↔ x ∈ l := by
 have hp := sort_pairwise l
 have hm : ∀ x,x ∈ (l.mergeSort fun x y => decide (x ≤ y)) ↔ x ∈ l := fun x => List.mem_mergeSort
 unfold uniq
 generalize (l.mergeSort fun x y => decide (x ≤ y)) = s at hp hm
 have hg : ∀ i (h : i < s.length),s.toArray[i]! = s[i] := fun i h => by simp [h]
 obtain ⟨h1,h2,h3⟩ := compactUpTo_props s.toArray (fun i j hij hj => by
  have hj : j < s.length := hj
  rw [hg j hj,hg i (by omega)]
  rcases Nat.lt_or_ge i j with h | h
  · exact List.pairwise_iff_getElem.1 hp i j (by omega) hj h
  · obtain rfl : i = j := by omega
    exact str_le_refl _) s.length (Nat.le_refl _)
 refine ⟨h1,fun x => ?_⟩
 rw [← hm]
 constructor
 · intro hx
   obtain ⟨j,hj,rfl⟩ := h2 x hx
   rw [hg j hj]
   exact List.getElem_mem _
 · intro hx
   obtain ⟨j,hj,rfl⟩ := List.getElem_of_mem hx
   have := h3 j hj
   rw [hg j hj] at this
   exact this
theorem rising_eq : ∀ {a b : List Str},a.Pairwise (· < ·) → b.Pairwise (· < ·) → (∀ x,x ∈ a ↔ x ∈ b) → a = b
  | [],[],_,_,_ => rfl
  | [],y :: _,_,_,h => absurd ((h y).2 List.mem_cons_self) (by simp)
  | x :: _,[],_,_,h => absurd ((h x).1 List.mem_cons_self) (by simp)
  | x :: a,y :: b,ha,hb,h => by
   obtain ⟨ha1,ha2⟩ := List.pairwise_cons.1 ha
   obtain ⟨hb1,hb2⟩ := List.pairwise_cons.1 hb
   have e : x = y := by
    rcases List.mem_cons.1 ((h x).1 List.mem_cons_self) with e | hx
    · exact e
    · rcases List.mem_cons.1 ((h y).2 List.mem_cons_self) with e | hy
      · exact e.symm
      · exact absurd (str_lt_trans (hb1 x hx) (ha1 y hy)) (str_lt_irrefl _)
   subst e
   rw [rising_eq ha2 hb2 fun z => ⟨fun hz => ?_,fun hz => ?_⟩]
   · rcases List.mem_cons.1 ((h z).1 (List.mem_cons_of_mem _ hz)) with e | h'
     · exact absurd (e ▸ ha1 z hz) (str_lt_irrefl _)
     · exact h'
   · rcases List.mem_cons.1 ((h z).2 (List.mem_cons_of_mem _ hz)) with e | h'
     · exact absurd (e ▸ hb1 z hz) (str_lt_irrefl _)
     · exact h'
theorem uniq_of_mem {a b : List Str} (h : ∀ x,x ∈ a ↔ x ∈ b) : uniq a = uniq b :=
 rising_eq (uniq_props a).1 (uniq_props b).1 fun x => by rw [(uniq_props a).2,(uniq_props b).2,h]
theorem any_congr {α : Type} {p q : α → Bool} : ∀ {l : List α},(∀ x ∈ l,p x = q x) → l.any p = l.any q
  | [],_ => rfl
  | x :: l,h => by rw [List.any_cons,List.any_cons,h x List.mem_cons_self,any_congr fun y hy => h y (List.mem_cons_of_mem _ hy)]
end Go.Proofs.YtkkpfjifkjbndaaGreat

/-
 The reference's clocks: kithref03.Has.
-/
namespace Go.Proofs.YtkkpfjifkjbndaaGreat
open Go.RowKit
theorem has3_spec (c : Clk) (r n : Int) : ASpec Tryz.prog 50 [c.av, .v (.int .i64 r), .v (.int .i64 n)] (.v (.bool (hasB c r n))) [] := by
 obtain ⟨c0,c1,c2,c3,c4⟩ := c
 dsimp only [Clk.av]
 by_cases hr : r = 0 ∨ r = 1 ∨ r = 2 ∨ r = 3 ∨ r = 4
 · rcases hr with rfl | rfl | rfl | rfl | rfl
   all_goals
    refine aspec_of lay_ok 79 Tryz.func50 rfl rfl rfl ?_
    repeat' ((conv => whnf); first | refine Spl.yes (by first | assumption | omega) ?_ | refine Spl.no (by first | assumption | omega) ?_ | refine Wr.i64 (by omega) (by omega) ?_ | refine Still.mk rfl rfl ?_ | refine InB.mk (inB_mk (by omega) (by omega)) ?_ | refine Req.mk (by omega) ?_ | refine Req.mk ⟨by first | omega | (dsimp only; omega),by first | omega | (dsimp only; omega)⟩ ?_ | refine ARet.hdI ?_ | refine Spl.mk (fun _ => ?_) (fun _ => ?_) | refine InA.mk (inB_mk (by omega) (by omega)) ?_ | refine Wr.b64 ?_ | refine Wr.bu64 ?_ | refine Wr.bu32 ?_ | refine Wr.bu8 ?_ | refine Wr.u8 (by omega) (by omega) ?_ | refine Wr.u64 (by omega) (by omega) ?_ | refine Wr.u32 (by omega) (by omega) ?_ | refine Dv.pos (by omega) (by omega) ?_ | refine Rm.pos (by omega) (by omega) ?_ | refine ADraw.quiet follows_ok (by kernel_rfl) rfl ?_ | refine BSpl.decY (by first | assumption | omega) ?_ | refine BSpl.decN (by first | assumption | omega) ?_ | refine BSpl.dec (fun _ => ?_) (fun _ => ?_) | refine BSpl.yes (by assumption) ?_ | refine BSpl.no (by assumption) ?_ | refine BSpl.mk (fun _ => ?_) (fun _ => ?_))
    all_goals (conv => whnf)
    all_goals (refine AEqI.mk (AEq.of ?_))
    all_goals simp [hasB,Clk.get, *]
 · have h : ¬ (0 ≤ r ∧ r < 5) := by omega
   refine aspec_of lay_ok 79 Tryz.func50 rfl rfl rfl ?_
   repeat' ((conv => whnf); first | refine Spl.yes (by first | assumption | omega) ?_ | refine Spl.no (by first | assumption | omega) ?_ | refine Wr.i64 (by omega) (by omega) ?_ | refine Still.mk rfl rfl ?_ | refine InB.mk (inB_mk (by omega) (by omega)) ?_ | refine Req.mk (by omega) ?_ | refine Req.mk ⟨by first | omega | (dsimp only; omega),by first | omega | (dsimp only; omega)⟩ ?_ | refine ARet.hdI ?_ | refine Spl.mk (fun _ => ?_) (fun _ => ?_) | refine InA.mk (inB_mk (by omega) (by omega)) ?_ | refine Wr.b64 ?_ | refine Wr.bu64 ?_ | refine Wr.bu32 ?_ | refine Wr.bu8 ?_ | refine Wr.u8 (by omega) (by omega) ?_ | refine Wr.u64 (by omega) (by omega) ?_ | refine Wr.u32 (by omega) (by omega) ?_ | refine Dv.pos (by omega) (by omega) ?_ | refine Rm.pos (by omega) (by omega) ?_ | refine ADraw.quiet follows_ok (by kernel_rfl) rfl ?_ | refine BSpl.decY (by first | assumption | omega) ?_ | refine BSpl.decN (by first | assumption | omega) ?_ | refine BSpl.dec (fun _ => ?_) (fun _ => ?_) | refine BSpl.yes (by assumption) ?_ | refine BSpl.no (by assumption) ?_ | refine BSpl.mk (fun _ => ?_) (fun _ => ?_))
   all_goals (conv => whnf)
   all_goals (refine AEqI.mk (AEq.of ?_))
   all_goals (simp [hasB]; try omega)
end Go.Proofs.YtkkpfjifkjbndaaGreat
