/-
  Contracts of the walk: LxD.
-/
import Derived.Test.YtkkpfjifkjbndaaGreatLBnd22
import Derived.Test.YtkkpfjifkjbndaaGreatLBnd23
/-
 LiveBounds: the walk.
-/
namespace Go.Proofs.YtkkpfjifkjbndaaGreat
open Go.RowKit
theorem lives_cut {X : List Ev} (hl : X.length ≤ 100000) (i : Nat) (n : Nat) (hn : n = (X.take i).length) : ASpec Tryz.prog 14 [.sl 12 n true (evF X)] (.v (.int .i64 ((livingB (X.take i)).length : Int))) [] := by
 subst hn
 refine (lives_spec (X.take i) (by rw [List.length_take]; omega)).args (.of (fun x u hu => ?_) .nil)
 have hF : ∀ k,k < (X.take i).length → evF X k = evF (X.take i) k := fun k hk => by
  rw [List.length_take] at hk
  show Ev.cs _ = Ev.cs _
  rw [List.getD,List.getD,List.getElem?_take_of_lt (by omega)]
 have hu : PC x.w x.keep (.sl 12 (X.take i).length true (evF X)) u := hu
 show PC x.w x.keep (.sl 12 (X.take i).length true (evF (X.take i))) u
 cases hu with
 | sl _ _ _ _ A c us hs hn hc hl' hf hsc hq hr => exact .sl 12 _ true _ A c us hs hn hc hl' (fun i hi => by rw [← hF i hi]; exact hf i hi) (by rw [← flat_congr hF]; exact hsc) (by rw [← flat_congr hF]; exact hq) hr
theorem rep_of {W X : List Ev} {H : Nat → Clk} (hI : Inv W H) (hX : W.Perm X) : Rep X := by
 have hm : ∀ e ∈ X,e ∈ W := fun e he => hX.mem_iff.2 he
 refine ⟨fun e he => ?_,?_,fun e he => (hI.fine e (hm e he)).l⟩
 · obtain ⟨r,h1,h2,h3,_,h5⟩ := hI.ev e (hm e he)
   exact ⟨r,h1,h2,h3,h5⟩
 · exact hX.pairwise hI.dis fun {a b} h hb => h ⟨hb.1.symm,hb.2.symm⟩
theorem rep_take {X : List Ev} (h : Rep X) (i : Nat) : Rep (X.take i) :=
 ⟨fun e he => h.ev e (List.mem_of_mem_take he),h.dis.sublist (List.take_sublist _ _),fun e he => h.lab e (List.mem_of_mem_take he)⟩
theorem sum_take {l : List Cont} {k : Nat} (h : k < l.length) : ((l.take (k + 1)).map thingsC).sum = ((l.take k).map thingsC).sum + thingsC (l.getD k default) := by
 rw [List.take_add_one,List.map_append,List.sum_append,List.getD,List.getElem?_eq_getElem h]
 simp
theorem sum_take_le {l : List Cont} (k : Nat) : ((l.take k).map thingsC).sum ≤ (l.map thingsC).sum := by
 have : (l.map thingsC).sum = ((l.take k).map thingsC).sum + ((l.drop k).map thingsC).sum := by rw [← List.sum_append,← List.map_append,List.take_append_drop]
 omega
set_option maxHeartbeats 16000000 in
set_option maxRecDepth 100000 in
theorem bounds_true (l : List Ch0) (picks : List UInt8) (hr : ∀ c ∈ l,c.rng) (hp : picks.length ≤ 140737488355328) :
  ASpec Tryz.prog 3 [.sl 7 l.length true (chF l), .sl 1 picks.length true (bytesF picks)] (.v (.bool true)) [] := by
 have hsh := shown_spec
 have hst := short_spec l
 have hlt : (l.take 40).length ≤ 40 := by rw [List.length_take]; omega
 have hmk := make_spec (l.take 40) (by omega) (rng_of hr 40)
 have hX := row_spread l picks
 have hW := mk_len l
 have hI := inv_of (l.take 40)
 have hI : Inv (makeL (l.take 40)) (mkS (l.take 40)).2 := hI
 generalize makeL (l.take 40) = W at hmk hW hI hX
 have hsp := spread_spec hI picks (by omega) hp
 have hre := rep_of hI (spr_perm hI picks)
 generalize sprL picks W = X at hsp hX hre
 have hlen := hX.len
 have h0 := new_b
 have hax := fun i hi => hX.apply (i := i) hi
 have hlv := fun i => lives_cut (X := X) (by omega) (i + 1)
 have hli := fun i (hi : i < X.length) => list_b (hX.pst (i + 1)) (i + 1) (by rw [List.length_take]; omega) (by omega)
 have hsz := fun i => size_b (X.take (i + 1)) (i + 1) (by rw [List.length_take]; omega)
 have hbd := fun i => all_bnd (hX.pst (i + 1)) (rep_take hre (i + 1))
 have hszl : ∀ i,sizeB (X.take (i + 1)) ≤ 50 := fun i => by have := size_len (X.take (i + 1)); rw [List.length_take] at this; omega
 generalize bookO = B at *
 clear hX hI hr hre hst
 have hst := short_spec l
 dsimp only [Ev.av] at hax
 refine aspec_of lay_ok 5070603006556419596969905766387 Tryz.func3 rfl rfl rfl ?_
 repeat' ((conv => whnf); first | refine Spl.yes (by first | assumption | omega) ?_ | refine Spl.no (by first | assumption | omega) ?_ | refine Wr.i64 (by omega) (by omega) ?_ | refine Still.mk rfl rfl ?_ | refine InB.mk (inB_mk (by omega) (by omega)) ?_ | refine Req.mk (by omega) ?_ | refine Req.mk ⟨by first | omega | (dsimp only; omega),by first | omega | (dsimp only; omega)⟩ ?_ | refine ACall.plain _ _ (hsh) .nil rfl ?_ | refine ACall.plain _ _ (hst) (SubL.cons (.eq _) .nil) rfl ?_ | refine ACall.plain _ _ (hmk) (SubL.cons (.eq _) .nil) rfl ?_ | refine ACall.plain _ _ (hsp) (SubL.cons (.eq _) (SubL.cons (.eq _) .nil)) rfl ?_ | refine ACall.chgR 0 [] h0 rfl trivial rfl rfl ?_ | refine Spl.mk (fun _ => ?_) (fun _ => ?_) | refine InA.mk (inB_mk (by omega) (by omega)) ?_ | refine Wr.b64 ?_ | refine Wr.bu64 ?_ | refine Wr.bu32 ?_ | refine Wr.bu8 ?_ | refine Wr.u8 (by omega) (by omega) ?_ | refine Wr.u64 (by omega) (by omega) ?_ | refine Wr.u32 (by omega) (by omega) ?_ | refine Dv.pos (by omega) (by omega) ?_ | refine Rm.pos (by omega) (by omega) ?_ | refine ADraw.quiet follows_ok (by kernel_rfl) rfl ?_ | refine BSpl.decY (by first | assumption | omega) ?_ | refine BSpl.decN (by first | assumption | omega) ?_ | refine BSpl.dec (fun _ => ?_) (fun _ => ?_) | refine BSpl.yes (by assumption) ?_ | refine BSpl.no (by assumption) ?_ | refine BSpl.mk (fun _ => ?_) (fun _ => ?_))
 conv => whnf
 refine ALoop.mk { i : Nat // i ≤ X.length } (fun i => ⟨[(6, .sl 12 X.length true (evF X)),(7, .box 0 0),(8, .v (.int .i64 (i.1 : Int)))],[(0, .obs (B (X.take i.1) i.1))],[],1⟩) (fun i => X.length - i.1) ⟨0,Nat.zero_le _⟩ _
  (LeR.mk' [] _ _ _ rfl ⟨AEq.refl _,AEq.refl _,AEq.int rfl,trivial⟩ ⟨⟨_,rfl,OEq.refl _⟩,trivial⟩ rfl) ?_
 rintro ⟨i,hi⟩
 dsimp only
 by_cases hil : i < X.length
 · have ax := hax i hil
   have lv := hlv i
   have li := hli i hil
   have sz := hsz i
   obtain ⟨b1,b2,b3⟩ := hbd i
   have b4 := hszl i
   clear hax hlv hli hsz hbd hszl
   have hnn : (((i : Int) + 1).toNat) = (X.take (i + 1)).length := by rw [List.length_take]; omega
   generalize (livingB (X.take (i + 1))).length = C at *
   generalize sizeB (X.take (i + 1)) = z at *
   generalize ofB (X.take (i + 1)) = O at *
   repeat' ((conv => whnf); first | refine Spl.yes (by first | assumption | omega) ?_ | refine Spl.no (by first | assumption | omega) ?_ | refine Wr.i64 (by omega) (by omega) ?_ | refine Still.mk rfl rfl ?_ | refine InB.mk (inB_mk (by omega) (by omega)) ?_ | refine Req.mk (by omega) ?_ | refine Req.mk ⟨by first | omega | (dsimp only; omega),by first | omega | (dsimp only; omega)⟩ ?_ | refine ACall.chgR 1 [(0,_)] (ax) rfl ⟨rfl,trivial⟩ rfl rfl ?_ | refine ACall.plain _ _ (lv _ hnn) (SubL.cons (.eq _) .nil) rfl ?_ | refine ACall.chgR 3 [(0,_)] li rfl ⟨rfl,trivial⟩ rfl rfl ?_ | refine Spl.mk (fun _ => ?_) (fun _ => ?_) | refine InA.mk (inB_mk (by omega) (by omega)) ?_ | refine Wr.b64 ?_ | refine Wr.bu64 ?_ | refine Wr.bu32 ?_ | refine Wr.bu8 ?_ | refine Wr.u8 (by omega) (by omega) ?_ | refine Wr.u64 (by omega) (by omega) ?_ | refine Wr.u32 (by omega) (by omega) ?_ | refine Dv.pos (by omega) (by omega) ?_ | refine Rm.pos (by omega) (by omega) ?_ | refine ADraw.quiet follows_ok (by kernel_rfl) rfl ?_ | refine BSpl.decY (by first | assumption | omega) ?_ | refine BSpl.decN (by first | assumption | omega) ?_ | refine BSpl.dec (fun _ => ?_) (fun _ => ?_) | refine BSpl.yes (by assumption) ?_ | refine BSpl.no (by assumption) ?_ | refine BSpl.mk (fun _ => ?_) (fun _ => ?_))
   conv => whnf
   have hT := sum_take_le (l := O)
   refine ALoop.mk { k : Nat // k ≤ O.length } (fun k => ⟨[(6, .sl 12 X.length true (evF X)),(7, .box 0 0),(8, .v (.int .i64 (i : Int))),(9, .v (.int .i64 (C : Int))),(10, .own 1),(11, .v (.int .i64 (((O.take k.1).map thingsC).sum : Int))),(12, .v (.int .i64 (k.1 : Int)))],
     [(0, .obs (B (X.take (i + 1)) (i + 1))),(1, .row 45 7 O.length false (coF O))],[],3⟩) (fun k => O.length - k.1) ⟨0,Nat.zero_le _⟩ _
    (LeR.mk' [(0,0),(2,1)] _ _ _ rfl ⟨AEq.refl _,AEq.refl _,AEq.refl _,AEq.refl _,AEq.refl _,AEq.int rfl,AEq.int rfl,trivial⟩ ⟨⟨_,rfl,OEq.refl _⟩,⟨_,rfl,OEq.refl _⟩,trivial⟩ rfl) ?_
   rintro ⟨k,hk⟩
   dsimp only
   by_cases hkl : k < O.length
   · have hsn := sum_take hkl
     have h1 := hT (k + 1)
     have h2 := hT k
     have hth : thingsC (O.getD k default) = (O.getD (k : Int).toNat default).s0.length + (O.getD (k : Int).toNat default).s1.length + (if (O.getD (k : Int).toNat default).h0 = true then 1 else 0) + (if (O.getD (k : Int).toNat default).h1 = true then 1 else 0) := rfl
     rw [hsn,hth] at h1
     rw [hth] at hsn
     clear hT hth
     generalize ((O.take k).map thingsC).sum = T at *
     repeat' ((conv => whnf); first | refine Spl.yes (by first | assumption | omega) ?_ | refine Spl.no (by first | assumption | omega) ?_ | refine Wr.i64 (by omega) (by omega) ?_ | refine Still.mk rfl rfl ?_ | refine InB.mk (inB_mk (by omega) (by omega)) ?_ | refine Req.mk (by omega) ?_ | refine Req.mk ⟨by first | omega | (dsimp only; omega),by first | omega | (dsimp only; omega)⟩ ?_ | refine Spl.mk (fun _ => ?_) (fun _ => ?_) | refine InA.mk (inB_mk (by omega) (by omega)) ?_ | refine Wr.b64 ?_ | refine Wr.bu64 ?_ | refine Wr.bu32 ?_ | refine Wr.bu8 ?_ | refine Wr.u8 (by omega) (by omega) ?_ | refine Wr.u64 (by omega) (by omega) ?_ | refine Wr.u32 (by omega) (by omega) ?_ | refine Dv.pos (by omega) (by omega) ?_ | refine Rm.pos (by omega) (by omega) ?_ | refine ADraw.quiet follows_ok (by kernel_rfl) rfl ?_ | refine BSpl.decY (by first | assumption | omega) ?_ | refine BSpl.decN (by first | assumption | omega) ?_ | refine BSpl.dec (fun _ => ?_) (fun _ => ?_) | refine BSpl.yes (by assumption) ?_ | refine BSpl.no (by assumption) ?_ | refine BSpl.mk (fun _ => ?_) (fun _ => ?_))
     all_goals (conv => whnf)
     all_goals first
       | exact absurd (show Nat.ble _ _ = false by assumption) (by rw [Bool.not_eq_false,Nat.ble_eq]; omega)
       | refine ALoop.rounds 3 ?_
     have eq : ∀ a b : Bool,(O.getD (k : Int).toNat default).h0 = a → (O.getD (k : Int).toNat default).h1 = b → ((((O.take (k + 1)).map thingsC).sum : Nat) : Int) = (T : Int) + ((O.getD (k : Int).toNat default).s0.length : Int) + ((O.getD (k : Int).toNat default).s1.length : Int) + (if a = true then 1 else 0) + (if b = true then 1 else 0) := fun a b ha hb => by
      rw [hsn,ha,hb]
      cases a <;> cases b <;> simp <;> omega
     repeat' ((conv => whnf); first | refine Spl.yes (by first | assumption | omega) ?_ | refine Spl.no (by first | assumption | omega) ?_ | refine Wr.i64 (by omega) (by omega) ?_ | refine Still.mk rfl rfl ?_ | refine InB.mk (inB_mk (by omega) (by omega)) ?_ | refine Req.mk (by omega) ?_ | refine Req.mk ⟨by first | omega | (dsimp only; omega),by first | omega | (dsimp only; omega)⟩ ?_ | refine Spl.mk (fun _ => ?_) (fun _ => ?_) | refine InA.mk (inB_mk (by omega) (by omega)) ?_ | refine Wr.b64 ?_ | refine Wr.bu64 ?_ | refine Wr.bu32 ?_ | refine Wr.bu8 ?_ | refine Wr.u8 (by omega) (by omega) ?_ | refine Wr.u64 (by omega) (by omega) ?_ | refine Wr.u32 (by omega) (by omega) ?_ | refine Dv.pos (by omega) (by omega) ?_ | refine Rm.pos (by omega) (by omega) ?_ | refine ADraw.quiet follows_ok (by kernel_rfl) rfl ?_ | refine BSpl.decY (by first | assumption | omega) ?_ | refine BSpl.decN (by first | assumption | omega) ?_ | refine BSpl.dec (fun _ => ?_) (fun _ => ?_) | refine BSpl.yes (by assumption) ?_ | refine BSpl.no (by assumption) ?_ | refine BSpl.mk (fun _ => ?_) (fun _ => ?_))
     all_goals (conv => whnf)
     all_goals exact ⟨⟨k + 1,hkl⟩,_,LeR.mk' [] _ _ _ rfl ⟨AEq.refl _,AEq.refl _,AEq.refl _,AEq.refl _,AEq.refl _,AEq.int (by have := eq _ _ (by assumption) (by assumption); simp only [↓reduceIte,Bool.false_eq_true] at this; dsimp only; omega),AEq.int rfl,trivial⟩ ⟨⟨_,rfl,OEq.refl _⟩,⟨_,rfl,OEq.refl _⟩,trivial⟩ rfl,by show O.length - (k + 1) < O.length - k; omega⟩
   · have hkn : k = O.length := by omega
     subst hkn
     rw [List.take_length]
     generalize (O.map thingsC).sum = T at *
     repeat' ((conv => whnf); first | refine Spl.yes (by first | assumption | omega) ?_ | refine Spl.no (by first | assumption | omega) ?_ | refine Wr.i64 (by omega) (by omega) ?_ | refine Still.mk rfl rfl ?_ | refine InB.mk (inB_mk (by omega) (by omega)) ?_ | refine Req.mk (by omega) ?_ | refine Req.mk ⟨by first | omega | (dsimp only; omega),by first | omega | (dsimp only; omega)⟩ ?_ | refine ACall.chgR 1 [(0,_)] (sz) rfl ⟨rfl,trivial⟩ rfl rfl ?_ | refine ARet.hdI ?_ | refine Spl.mk (fun _ => ?_) (fun _ => ?_) | refine InA.mk (inB_mk (by omega) (by omega)) ?_ | refine Wr.b64 ?_ | refine Wr.bu64 ?_ | refine Wr.bu32 ?_ | refine Wr.bu8 ?_ | refine Wr.u8 (by omega) (by omega) ?_ | refine Wr.u64 (by omega) (by omega) ?_ | refine Wr.u32 (by omega) (by omega) ?_ | refine Dv.pos (by omega) (by omega) ?_ | refine Rm.pos (by omega) (by omega) ?_ | refine ADraw.quiet follows_ok (by kernel_rfl) rfl ?_ | refine BSpl.decY (by first | assumption | omega) ?_ | refine BSpl.decN (by first | assumption | omega) ?_ | refine BSpl.dec (fun _ => ?_) (fun _ => ?_) | refine BSpl.yes (by assumption) ?_ | refine BSpl.no (by assumption) ?_ | refine BSpl.mk (fun _ => ?_) (fun _ => ?_))
     all_goals (conv => whnf)
     all_goals try exact ⟨⟨i + 1,hil⟩,_,LeR.mk' [] _ _ _ rfl ⟨AEq.refl _,AEq.refl _,AEq.int rfl,trivial⟩ ⟨⟨_,rfl,OEq.refl _⟩,trivial⟩ rfl,by show X.length - (i + 1) < X.length - i; omega⟩
 · repeat' ((conv => whnf); first | refine Spl.yes (by first | assumption | omega) ?_ | refine Spl.no (by first | assumption | omega) ?_ | refine Wr.i64 (by omega) (by omega) ?_ | refine Still.mk rfl rfl ?_ | refine InB.mk (inB_mk (by omega) (by omega)) ?_ | refine Req.mk (by omega) ?_ | refine Req.mk ⟨by first | omega | (dsimp only; omega),by first | omega | (dsimp only; omega)⟩ ?_ | refine ARet.hdI ?_ | refine Spl.mk (fun _ => ?_) (fun _ => ?_) | refine InA.mk (inB_mk (by omega) (by omega)) ?_ | refine Wr.b64 ?_ | refine Wr.bu64 ?_ | refine Wr.bu32 ?_ | refine Wr.bu8 ?_ | refine Wr.u8 (by omega) (by omega) ?_ | refine Wr.u64 (by omega) (by omega) ?_ | refine Wr.u32 (by omega) (by omega) ?_ | refine Dv.pos (by omega) (by omega) ?_ | refine Rm.pos (by omega) (by omega) ?_ | refine ADraw.quiet follows_ok (by kernel_rfl) rfl ?_ | refine BSpl.decY (by first | assumption | omega) ?_ | refine BSpl.decN (by first | assumption | omega) ?_ | refine BSpl.dec (fun _ => ?_) (fun _ => ?_) | refine BSpl.yes (by assumption) ?_ | refine BSpl.no (by assumption) ?_ | refine BSpl.mk (fun _ => ?_) (fun _ => ?_))
   conv => whnf
   exact AEqI.mk (AEq.refl _)
end Go.Proofs.YtkkpfjifkjbndaaGreat
