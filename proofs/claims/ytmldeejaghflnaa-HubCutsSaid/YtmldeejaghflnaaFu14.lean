/-
  Contracts of the walk: RcW, HbI, HbL, HbS, HbO.
-/
import Derived.Test.YtmldeejaghflnaaFu13
import Derived.Test.YtmldeejaghflnaaFu8
import Derived.Test.YtmldeejaghflnaaFu9
/-
 What record.first and record.All tell of any bytes.
-/
namespace Go.Proofs.Ytmldeejaghflnaa
open Go.RowKit
theorem readR_len (b : List UInt8) : (readR b).1.ev.length ≤ 4096 := by
 have hl (t : List UInt8) (l : List Ev) (h : listF t = some l) : l.length ≤ 4096 := by
  unfold listF at h
  split at h
  · cases h
  · split at h
    · cases h
    · rename_i m k _ hm
      cases h0 : evsAt (t.drop k) m with
      | none => rw [h0] at h; cases h
      | some p =>
        obtain ⟨l0,r0⟩ := p
        rw [h0] at h
        simp only [Option.map_some,Option.some.injEq] at h
        subst h
        have := (evsAt_len h0).1
        omega
 have hr (k r u : Int) (t : List UInt8) : (rdRl k r u t).1.ev.length ≤ 4096 := by
  unfold rdRl
  split
  · simp
  · rename_i l h
    exact hl t l h
 unfold readR
 split
 · simp [rc0]
 · unfold rdR
   split
   · exact hr ..
   · split
     · unfold rdRn
       split <;> simp
     · split
       · split
         · simp
         · exact hr ..
       · split <;> simp
def firstR : Option (Rc × Nat) → AV
  | none => .tup [rc0.av, .v (.int .i64 0), .v (.bool false)]
  | some (x,n) => .tup [x.av, .v (.int .i64 (n : Int)), .v (.bool true)]
theorem nilRc (b c : AV) (f : Nat → List AV) {a1 a2 a3 a4 a5 a6 a7 a8 : AV} : AEq (.tup [.agg [a1,a2,a3,a4,a5,a6,a7,a8, .v (.slice none 0 0)],b,c]) (.tup [.agg [a1,a2,a3,a4,a5,a6,a7,a8, .sl 12 0 true f],b,c]) :=
 AEq.tup (.of (fun _ _ h => C1.nilEv h) (.same (.same .nil)))
set_option maxHeartbeats 8000000 in
set_option maxRecDepth 100000 in
theorem first_e (b : List UInt8) (hl : b.length ≤ 1000000000) : ASpec Try.prog 84 [.sl 1 b.length true (bytesF b)] (firstR (firstF b)) [] := by
 have hs := vtake_spec b (IsB.bytes b) rfl
 have hle := vtake_le b
 unfold firstF
 obtain ⟨⟨v,u,e⟩,hv⟩ : ∃ p,vtake b = p := ⟨_,rfl⟩
 rw [hv] at hs hle ⊢
 dsimp only at hs hle ⊢
 by_cases h0 : e ≠ 0 ∨ b.length - u < v
 · rw [if_pos h0]
   dsimp only [firstR]
   refine aspec_of lay_ok 295165989947680243709 Try.func84 rfl rfl rfl ?_
   repeat' ((conv => whnf); first | refine K1.a ?_ | refine K1.b ?_ | refine K1.c ?_ | refine K1.d ?_ | refine K1.e ?_ | refine K1.f ?_ | refine ACall.plain _ _ (hs) (SubL.cons (.eq _) .nil) rfl ?_ | refine ARet.hdI ?_ | refine Spl.mk (fun _ => ?_) (fun _ => ?_) | refine SNil.mk (fun _ => ?_) ?_ | refine K1.g ?_ | refine ASl.frz ?_ | refine Wr.b64 ?_ | refine Wr.bu64 ?_ | refine Wr.bu32 ?_ | refine Wr.bu8 ?_ | refine K1.u8 ?_ | refine K1.u64 ?_ | refine K1.u32 ?_ | refine K1.h ?_ | refine K1.i ?_ | refine K1.q ?_ | refine K1.j ?_ | refine K1.k ?_ | refine BSpl.dec (fun _ => ?_) (fun _ => ?_) | refine K1.l ?_ | refine K1.n ?_ | refine BSpl.mk (fun _ => ?_) (fun _ => ?_))
   all_goals (conv => whnf)
   all_goals first
     | exact AEqI.mk (nilRc _ _ _)
     | (exfalso; omega)
 · rw [if_neg h0]
   obtain rfl : e = 0 := by omega
   have hvl : u + v ≤ b.length := by omega
   obtain ⟨W,hW⟩ : ∃ W,W = (b.drop u).take v := ⟨_,rfl⟩
   have hWl : W.length = v := by rw [hW,List.length_take,List.length_drop]; omega
   have hWF : IsB (fun i => bytesF b (u + i)) W := by rw [hW]; exact (IsB.drop (IsB.bytes b) u).take v
   rw [← hW]
   by_cases ho : okSeal W
   · rw [if_pos ho]
     have hil : (inner W).length ≤ W.length := by unfold inner; rw [List.length_take]; omega
     have hop : ∀ {n : Nat} {F : Nat → List AV} (_ : IsB F W) (_ : n = W.length),_ := fun {n} {F} hF hn => (open_spec 0 (n := n) (F := F) (inner W) (by rw [← ok_inner ho]; exact hF) (by rw [← ok_inner ho]; exact hn) (by omega)).thaw
     have hrd := rread_spec (inner W) (IsB.bytes _) rfl (by omega)
     have hrl := readR_len (inner W)
     generalize inner W = m at hop hrd hrl hil
     obtain ⟨⟨z,ok⟩,hz⟩ : ∃ p,readR m = p := ⟨_,rfl⟩
     rw [hz] at hrd hrl ⊢
     dsimp only at hrd hrl ⊢
     cases ok with
     | false =>
       rw [if_neg (by simp)]
       dsimp only [firstR]
       refine aspec_of lay_ok 295165989947680243709 Try.func84 rfl rfl rfl ?_
       repeat' ((conv => whnf); first | refine K1.a ?_ | refine K1.b ?_ | refine K1.c ?_ | refine K1.d ?_ | refine K1.e ?_ | refine K1.f ?_ | refine ACall.plain _ _ (hs) (SubL.cons (.eq _) .nil) rfl ?_ | refine ACall.plain _ _ (hop hWF (by omega)) (SubL.cons (.eq _) .nil) rfl ?_ | refine ACall.plain _ _ (hrd) (SubL.cons (.eq _) .nil) rfl ?_ | refine ARet.hdI ?_ | refine Spl.mk (fun _ => ?_) (fun _ => ?_) | refine SNil.mk (fun _ => ?_) ?_ | refine K1.g ?_ | refine ASl.frz ?_ | refine Wr.b64 ?_ | refine Wr.bu64 ?_ | refine Wr.bu32 ?_ | refine Wr.bu8 ?_ | refine K1.u8 ?_ | refine K1.u64 ?_ | refine K1.u32 ?_ | refine K1.h ?_ | refine K1.i ?_ | refine K1.q ?_ | refine K1.j ?_ | refine K1.k ?_ | refine BSpl.dec (fun _ => ?_) (fun _ => ?_) | refine K1.l ?_ | refine K1.n ?_ | refine BSpl.mk (fun _ => ?_) (fun _ => ?_))
       all_goals (conv => whnf)
       all_goals exact AEqI.mk (nilRc _ _ _)
     | true =>
       cases hm : mayR z with
       | false =>
         rw [if_neg (by simp)]
         have hp := rcPut_no z (by omega) hm
         dsimp only [firstR]
         refine aspec_of lay_ok 295165989947680243709 Try.func84 rfl rfl rfl ?_
         repeat' ((conv => whnf); first | refine K1.a ?_ | refine K1.b ?_ | refine K1.c ?_ | refine K1.d ?_ | refine K1.e ?_ | refine K1.f ?_ | refine ACall.plain _ _ (hs) (SubL.cons (.eq _) .nil) rfl ?_ | refine ACall.plain _ _ (hop hWF (by omega)) (SubL.cons (.eq _) .nil) rfl ?_ | refine ACall.plain _ _ (hrd) (SubL.cons (.eq _) .nil) rfl ?_ | refine ACall.plain _ _ (hp) (SubL.cons (.eq _) .nil) rfl ?_ | refine ARet.hdI ?_ | refine Spl.mk (fun _ => ?_) (fun _ => ?_) | refine SNil.mk (fun _ => ?_) ?_ | refine K1.g ?_ | refine ASl.frz ?_ | refine Wr.b64 ?_ | refine Wr.bu64 ?_ | refine Wr.bu32 ?_ | refine Wr.bu8 ?_ | refine K1.u8 ?_ | refine K1.u64 ?_ | refine K1.u32 ?_ | refine K1.h ?_ | refine K1.i ?_ | refine K1.q ?_ | refine K1.j ?_ | refine K1.k ?_ | refine BSpl.dec (fun _ => ?_) (fun _ => ?_) | refine K1.l ?_ | refine K1.n ?_ | refine BSpl.mk (fun _ => ?_) (fun _ => ?_))
         all_goals (conv => whnf)
         all_goals exact AEqI.mk (nilRc _ _ _)
       | true =>
         have hp := (rcPut_yes 0 z hm).thaw
         have he : ∀ {n : Nat} (_ : n = u + v),_ := fun {n} hn => equal_spec (m := n) (rcBytes z) (b.take (u + v)) (IsB.bytes _) rfl ((IsB.bytes b).take (u + v)) (by rw [List.length_take]; omega)
         by_cases hb : rcBytes z = b.take (u + v)
         · rw [if_pos ⟨rfl,rfl,hb⟩]
           dsimp only [firstR]
           rw [decide_eq_true hb] at he
           generalize rcBytes z = w at hp he
           refine aspec_of lay_ok 295165989947680243709 Try.func84 rfl rfl rfl ?_
           repeat' ((conv => whnf); first | refine K1.a ?_ | refine K1.b ?_ | refine K1.c ?_ | refine K1.d ?_ | refine K1.e ?_ | refine K1.f ?_ | refine ACall.plain _ _ (hs) (SubL.cons (.eq _) .nil) rfl ?_ | refine ACall.plain _ _ (hop hWF (by omega)) (SubL.cons (.eq _) .nil) rfl ?_ | refine ACall.plain _ _ (hrd) (SubL.cons (.eq _) .nil) rfl ?_ | refine ACall.plain _ _ (hp) (SubL.cons (.eq _) .nil) rfl ?_ | refine ACall.plain _ _ (he (by omega)) (SubL.cons (.eq _) (SubL.cons (.eq _) .nil)) rfl ?_ | refine ARet.hdI ?_ | refine Spl.mk (fun _ => ?_) (fun _ => ?_) | refine SNil.mk (fun _ => ?_) ?_ | refine K1.g ?_ | refine ASl.frz ?_ | refine Wr.b64 ?_ | refine Wr.bu64 ?_ | refine Wr.bu32 ?_ | refine Wr.bu8 ?_ | refine K1.u8 ?_ | refine K1.u64 ?_ | refine K1.u32 ?_ | refine K1.h ?_ | refine K1.i ?_ | refine K1.q ?_ | refine K1.j ?_ | refine K1.k ?_ | refine BSpl.dec (fun _ => ?_) (fun _ => ?_) | refine K1.l ?_ | refine K1.n ?_ | refine BSpl.mk (fun _ => ?_) (fun _ => ?_))
           all_goals (conv => whnf)
           all_goals exact AEqI.mk (AEq.tup (.same (.of (fun X u h => AEq.int (by omega) X u h) (.same .nil))))
         · rw [if_neg (fun h => hb h.2.2)]
           dsimp only [firstR]
           rw [decide_eq_false hb] at he
           generalize rcBytes z = w at hp he
           refine aspec_of lay_ok 295165989947680243709 Try.func84 rfl rfl rfl ?_
           repeat' ((conv => whnf); first | refine K1.a ?_ | refine K1.b ?_ | refine K1.c ?_ | refine K1.d ?_ | refine K1.e ?_ | refine K1.f ?_ | refine ACall.plain _ _ (hs) (SubL.cons (.eq _) .nil) rfl ?_ | refine ACall.plain _ _ (hop hWF (by omega)) (SubL.cons (.eq _) .nil) rfl ?_ | refine ACall.plain _ _ (hrd) (SubL.cons (.eq _) .nil) rfl ?_ | refine ACall.plain _ _ (hp) (SubL.cons (.eq _) .nil) rfl ?_ | refine ACall.plain _ _ (he (by omega)) (SubL.cons (.eq _) (SubL.cons (.eq _) .nil)) rfl ?_ | refine ARet.hdI ?_ | refine Spl.mk (fun _ => ?_) (fun _ => ?_) | refine SNil.mk (fun _ => ?_) ?_ | refine K1.g ?_ | refine ASl.frz ?_ | refine Wr.b64 ?_ | refine Wr.bu64 ?_ | refine Wr.bu32 ?_ | refine Wr.bu8 ?_ | refine K1.u8 ?_ | refine K1.u64 ?_ | refine K1.u32 ?_ | refine K1.h ?_ | refine K1.i ?_ | refine K1.q ?_ | refine K1.j ?_ | refine K1.k ?_ | refine BSpl.dec (fun _ => ?_) (fun _ => ?_) | refine K1.l ?_ | refine K1.n ?_ | refine BSpl.mk (fun _ => ?_) (fun _ => ?_))
           all_goals (conv => whnf)
           all_goals exact AEqI.mk (nilRc _ _ _)
   · rw [if_neg ho]
     dsimp only [firstR]
     have hop : ∀ {n : Nat} {F : Nat → List AV} (_ : IsB F W) (_ : n = W.length),_ := fun {n} {F} hF hn => open_no (n := n) (F := F) W ho hF hn (by omega)
     refine aspec_of lay_ok 295165989947680243709 Try.func84 rfl rfl rfl ?_
     repeat' ((conv => whnf); first | refine K1.a ?_ | refine K1.b ?_ | refine K1.c ?_ | refine K1.d ?_ | refine K1.e ?_ | refine K1.f ?_ | refine ACall.plain _ _ (hs) (SubL.cons (.eq _) .nil) rfl ?_ | refine ACall.plain _ _ (hop hWF (by omega)) (SubL.cons (.eq _) .nil) rfl ?_ | refine ARet.hdI ?_ | refine Spl.mk (fun _ => ?_) (fun _ => ?_) | refine SNil.mk (fun _ => ?_) ?_ | refine K1.g ?_ | refine ASl.frz ?_ | refine Wr.b64 ?_ | refine Wr.bu64 ?_ | refine Wr.bu32 ?_ | refine Wr.bu8 ?_ | refine K1.u8 ?_ | refine K1.u64 ?_ | refine K1.u32 ?_ | refine K1.h ?_ | refine K1.i ?_ | refine K1.q ?_ | refine K1.j ?_ | refine K1.k ?_ | refine BSpl.dec (fun _ => ?_) (fun _ => ?_) | refine K1.l ?_ | refine K1.n ?_ | refine BSpl.mk (fun _ => ?_) (fun _ => ?_))
     all_goals (conv => whnf)
     all_goals exact AEqI.mk (nilRc _ _ _)
theorem first_spec {n : Nat} {F : Nat → List AV} (b : List UInt8) {p : Option (Rc × Nat)} (hp : firstF b = p) (hF : IsB F b) (hn : n = b.length) (hl : b.length ≤ 1000000000) : ASpec Try.prog 84 [.sl 1 n true F] (firstR p) [] := by
 have := (first_e b hl).args (Ch.isB hF hn .nil)
 rwa [hp] at this
theorem C1.nilS {X : CX} {s : Nat} {sc : Bool} {f : Nat → List AV} (hs : 0 < s) {u : Value} (h : C1 X (.v (.slice none 0 0)) u) : C1 X (.sl s 0 sc f) u := by
 have h : u = .slice none 0 0 := h
 subst h
 exact (show C0 X (.sl s 0 sc f) (.slice none 0 0) from .sl s 0 sc f none 0 [] hs (Nat.le_refl _) (by simp [maxLen]) (by simp) (fun i hi => absurd hi (Nat.not_lt_zero i)) (fun _ x hx => by simp [flat] at hx) (fun i x u hx => by simp [flat] at hx) (.inl rfl))
abbrev rcF (l : List Rc) : Nat → List AV := elsF Rc.cs l
theorem rcsB_len : ∀ l : List Rc,l.length ≤ (rcsB l).length
  | [] => Nat.le_refl _
  | x :: l => by
    have := rcsB_len l
    have := rcBytes_len x
    show l.length + 1 ≤ (rcBytes x ++ rcsB l).length
    rw [List.length_append]
    omega
set_option maxHeartbeats 8000000 in
set_option maxRecDepth 100000 in
theorem all_e (b : List UInt8) (hl : b.length ≤ 1000000000) (l : List Rc) (t : List UInt8) (hr : Recs b l t) :
  ASpec Try.prog 63 [.sl 1 b.length true (bytesF b)] (.tup [.sl 9 l.length false (rcF l), .v (.int .i64 ((rcsB l).length : Int))]) [] := by
 have hbl : (rcsB l).length ≤ b.length := by rw [hr.eq,List.length_append]; omega
 have hat : ∀ j,j ≤ l.length → (rcsB (l.take j)).length ≤ b.length := by
  intro j _
  have e : rcsB l = rcsB (l.take j) ++ rcsB (l.drop j) := by
   show _ = List.flatMap rcBytes (l.take j) ++ List.flatMap rcBytes (l.drop j)
   rw [← List.flatMap_append,List.take_append_drop]
   rfl
  have := congrArg List.length e
  rw [List.length_append] at this
  omega
 have hnx : ∀ j,j < l.length → (rcsB (l.take (j + 1))).length = (rcsB (l.take j)).length + (rcBytes (l.getD j default)).length := fun j hj => by rw [recs_take hj,List.length_append]
 have hll := rcsB_len l
 have hstep := recs_step hr
 have hend := recs_end hr
 refine aspec_goto lay_ok 131581 (l := 0) Try.func63 rfl rfl rfl (by rfl) ?_
 conv => whnf
 refine AGoto.mk { j : Nat // j ≤ l.length } (fun j => match j with
   | ⟨0,_⟩ => ⟨[(0, .sl 1 b.length true (bytesF b)),(4, .v (.slice none 0 0)),(5, .v (.int .i64 0))],[],[],0⟩
   | ⟨i + 1,_⟩ => ⟨[(0, .sl 1 b.length true (bytesF b)),(4, .own 90),(5, .v (.int .i64 ((rcsB (l.take (i + 1))).length : Int)))],[(90, .row 83 9 (i + 1) false (rcF (l.take (i + 1))))],[],91⟩)
   (fun j => l.length - j.1) ⟨0,Nat.zero_le _⟩ _
   (LeR.mk' [] _ _ _ rfl ⟨AEq.refl _,AEq.refl _,AEq.int rfl,trivial⟩ trivial rfl) ?_
 rintro ⟨_ | i,hj⟩
 · dsimp only
   by_cases h0 : 0 < l.length
   · have hs := hstep 0 h0
     have hn := hnx 0 h0
     have ha := hat (0 + 1) (by omega)
     rw [show rcsB (l.take 0) = [] from rfl,List.length_nil] at hs hn
     have htk : (l.take (0 + 1)).length = 1 := by rw [List.length_take]; omega
     have hg : l.take (0 + 1) = [l.getD 0 default] := by cases l with | nil => cases h0 | cons a l => rfl
     repeat' ((conv => whnf); first | refine K1.a ?_ | refine K1.b ?_ | refine K1.c ?_ | refine K1.d ?_ | refine K1.e ?_ | refine K1.f ?_ | refine ACall.plain _ _ (first_spec (b.drop 0) hs (IsB.drop (IsB.bytes b) 0) (by simp) (by simp; omega)) (SubL.cons (.eq _) .nil) rfl ?_ | refine ARet.hdI ?_ | refine Spl.mk (fun _ => ?_) (fun _ => ?_) | refine SNil.mk (fun _ => ?_) ?_ | refine K1.g ?_ | refine ASl.frz ?_ | refine Wr.b64 ?_ | refine Wr.bu64 ?_ | refine Wr.bu32 ?_ | refine Wr.bu8 ?_ | refine K1.u8 ?_ | refine K1.u64 ?_ | refine K1.u32 ?_ | refine K1.h ?_ | refine K1.i ?_ | refine K1.q ?_ | refine K1.j ?_ | refine K1.k ?_ | refine BSpl.dec (fun _ => ?_) (fun _ => ?_) | refine K1.l ?_ | refine K1.n ?_ | refine BSpl.mk (fun _ => ?_) (fun _ => ?_))
     conv => whnf
     refine ⟨⟨0 + 1,by omega⟩,_,LeR.mk' [(2,90)] _ _ _ rfl ⟨AEq.refl _,AEq.refl _,AEq.int (by omega),trivial⟩ ⟨⟨_,rfl,OEq.row rfl (fun m hm => ?_)⟩,trivial⟩ rfl,by show l.length - (0 + 1) < l.length - 0; omega⟩
     have hm : m < 1 := hm
     obtain rfl : m = 0 := by omega
     show _ = rcF (l.take (0 + 1)) 0
     rw [hg]
     rfl
   · have hl0 : l = [] := List.eq_nil_of_length_eq_zero (by omega)
     subst hl0
     rw [show rcsB [] = [] from rfl,List.length_nil] at hend
     repeat' ((conv => whnf); first | refine K1.a ?_ | refine K1.b ?_ | refine K1.c ?_ | refine K1.d ?_ | refine K1.e ?_ | refine K1.f ?_ | refine ACall.plain _ _ (first_spec (b.drop 0) hend (IsB.drop (IsB.bytes b) 0) (by simp) (by simp; omega)) (SubL.cons (.eq _) .nil) rfl ?_ | refine ARet.hdI ?_ | refine Spl.mk (fun _ => ?_) (fun _ => ?_) | refine SNil.mk (fun _ => ?_) ?_ | refine K1.g ?_ | refine ASl.frz ?_ | refine Wr.b64 ?_ | refine Wr.bu64 ?_ | refine Wr.bu32 ?_ | refine Wr.bu8 ?_ | refine K1.u8 ?_ | refine K1.u64 ?_ | refine K1.u32 ?_ | refine K1.h ?_ | refine K1.i ?_ | refine K1.q ?_ | refine K1.j ?_ | refine K1.k ?_ | refine BSpl.dec (fun _ => ?_) (fun _ => ?_) | refine K1.l ?_ | refine K1.n ?_ | refine BSpl.mk (fun _ => ?_) (fun _ => ?_))
     conv => whnf
     exact AEqI.mk (AEq.tup (.of (fun X u h => C1.nilS (by decide) h) (.same .nil)))
 · dsimp only
   have hai := hat (i + 1) hj
   have hlt : (l.take (i + 1)).length = i + 1 := by rw [List.length_take]; omega
   by_cases h0 : i + 1 < l.length
   · have hs := hstep (i + 1) h0
     have hn := hnx (i + 1) h0
     have ha := hat (i + 1 + 1) (by omega)
     have hg : l.take (i + 1 + 1) = l.take (i + 1) ++ [l.getD (i + 1) default] := by
      rw [List.getD,List.getElem?_eq_getElem h0]; exact (List.take_append_getElem h0).symm
     repeat' ((conv => whnf); first | refine K1.a ?_ | refine K1.b ?_ | refine K1.c ?_ | refine K1.d ?_ | refine K1.e ?_ | refine K1.f ?_ | refine ACall.plain _ _ (first_spec (b.drop (rcsB (l.take (i + 1))).length) hs (IsB.drop (IsB.bytes b) _) (by simp) (by simp; omega)) (SubL.cons (.eq _) .nil) rfl ?_ | refine ARet.hdI ?_ | refine Spl.mk (fun _ => ?_) (fun _ => ?_) | refine SNil.mk (fun _ => ?_) ?_ | refine K1.g ?_ | refine ASl.frz ?_ | refine Wr.b64 ?_ | refine Wr.bu64 ?_ | refine Wr.bu32 ?_ | refine Wr.bu8 ?_ | refine K1.u8 ?_ | refine K1.u64 ?_ | refine K1.u32 ?_ | refine K1.h ?_ | refine K1.i ?_ | refine K1.q ?_ | refine K1.j ?_ | refine K1.k ?_ | refine BSpl.dec (fun _ => ?_) (fun _ => ?_) | refine K1.l ?_ | refine K1.n ?_ | refine BSpl.mk (fun _ => ?_) (fun _ => ?_))
     conv => whnf
     refine ⟨⟨i + 1 + 1,by omega⟩,_,LeR.mk' [(93,90)] _ _ _ rfl ⟨AEq.refl _,AEq.refl _,AEq.int (by omega),trivial⟩ ⟨⟨_,rfl,OEq.row rfl (fun m hm => ?_)⟩,trivial⟩ rfl,by show l.length - (i + 1 + 1) < l.length - (i + 1); omega⟩
     show _ = rcF (l.take (i + 1 + 1)) m
     rw [hg]
     exact els_app1 (c := Rc.cs) hlt.symm rfl m hm
   · have hli : l.take (i + 1) = l := List.take_of_length_le (by omega)
     have hle : i + 1 = l.length := by omega
     rw [hli] at hai hlt ⊢
     rw [hle]
     repeat' ((conv => whnf); first | refine K1.a ?_ | refine K1.b ?_ | refine K1.c ?_ | refine K1.d ?_ | refine K1.e ?_ | refine K1.f ?_ | refine ACall.plain _ _ (first_spec (b.drop (rcsB l).length) hend (IsB.drop (IsB.bytes b) _) (by simp) (by simp; omega)) (SubL.cons (.eq _) .nil) rfl ?_ | refine ARet.hdI ?_ | refine Spl.mk (fun _ => ?_) (fun _ => ?_) | refine SNil.mk (fun _ => ?_) ?_ | refine K1.g ?_ | refine ASl.frz ?_ | refine Wr.b64 ?_ | refine Wr.bu64 ?_ | refine Wr.bu32 ?_ | refine Wr.bu8 ?_ | refine K1.u8 ?_ | refine K1.u64 ?_ | refine K1.u32 ?_ | refine K1.h ?_ | refine K1.i ?_ | refine K1.q ?_ | refine K1.j ?_ | refine K1.k ?_ | refine BSpl.dec (fun _ => ?_) (fun _ => ?_) | refine K1.l ?_ | refine K1.n ?_ | refine BSpl.mk (fun _ => ?_) (fun _ => ?_))
     conv => whnf
     exact AEqI.mk (AEq.refl _)
theorem all_spec {n : Nat} {F : Nat → List AV} (b : List UInt8) (hF : IsB F b) (hn : n = b.length) (hl : b.length ≤ 1000000000) {l : List Rc} {t : List UInt8} (hr : Recs b l t) :
  ASpec Try.prog 63 [.sl 1 n true F] (.tup [.sl 9 l.length false (rcF l), .v (.int .i64 ((rcsB l).length : Int))]) [] :=
 (all_e b hl l t hr).args (Ch.isB hF hn .nil)
end Go.Proofs.Ytmldeejaghflnaa

/-
 The hub (layer 20),told as a whole; New,Site.
-/
namespace Go.Proofs.Ytmldeejaghflnaa
open Go.RowKit
structure Dk where
 (bs : List UInt8) (down cut : Bool) (keep : Int)
structure Hb where
 (up : Bool) (c : Cfg) (p : Pt) (d : Dk)
def dkB (m : AV) (d : Dk) : AO := .box 117 [m, .v (.bool d.down), .v (.bool d.cut), .v (.int .i64 d.keep)]
def bRow (l : List UInt8) : AO := .row 5 1 l.length true (bytesF l)
def hbB (up : Bool) (c : Cfg) (d p : AV) : AO := .box 63 [.v (.bool up),d, .v (.int .i64 c.n), .v (.int .i64 c.w), .v (.int .i64 c.q), .v (.int .i64 c.h), .v (.int .i64 c.l), .v (.int .i64 c.p),p]
def hbH (h : Hb) (_ : Unit) : List (Nat × AO) := [(0,hbB h.up h.c (.box 8 0) (.box 9 0)),(8,dkB (.own 10) h.d),(10,bRow h.d.bs),(9, .obs (ptO h.c.w h.p))]
def hbO (h : Hb) : OB := OB.pack (hbH h)
theorem hb_close (h : Hb) : Closes (hbH h ()) 0 (hbO h) := Closes.pack (hbH h) () rfl fun _ hok => boxO_one (hok _ List.mem_cons_self)
def dk0 : Dk := ⟨[],false,false,0⟩
theorem hb_new (up : Bool) (c : Cfg) (p : Pt) : Closes [(0,hbB up c (.box 8 0) (.box 9 0)),(8,dkB (.v (.slice none 0 0)) dk0),(9, .obs (ptO c.w p))] 0 (hbO ⟨up,c,p,dk0⟩) :=
 Closes.imp (hb_close ⟨up,c,p,dk0⟩) fun X hnd hok => by
  have h0 := hok _ List.mem_cons_self
  have h8 := hok (8,dkB (.v (.slice none 0 0)) dk0) (by simp)
  have h9 := hok (9, .obs (ptO c.w p)) (by simp)
  have e : blocksOf (atV X.ρ 10 (.slice none 0 0)) (hbH ⟨up,c,p,dk0⟩ ()) = blocksOf X.ρ [(0,hbB up c (.box 8 0) (.box 9 0)),(8,dkB (.v (.slice none 0 0)) dk0),(9, .obs (ptO c.w p))] := rfl
  refine ⟨atV X.ρ 10 (.slice none 0 0),rfl,by rw [e]; exact hnd,fun b hb => by rw [e] at hb; exact hb,fun q hq => ?_⟩
  simp only [hbH,List.mem_cons,List.not_mem_nil,or_false] at hq
  rcases hq with rfl | rfl | rfl | rfl
  · obtain ⟨b,us,g1,g2,g3,g4⟩ := h0
    exact ⟨b,us,g1,g2,g3,fun i x u hx hu => by
     match i,hx with
     | 0,hx => cases hx; exact g4 0 _ u rfl hu
     | 1,hx => cases hx; exact g4 1 _ u rfl hu
     | 2,hx => cases hx; exact g4 2 _ u rfl hu
     | 3,hx => cases hx; exact g4 3 _ u rfl hu
     | 4,hx => cases hx; exact g4 4 _ u rfl hu
     | 5,hx => cases hx; exact g4 5 _ u rfl hu
     | 6,hx => cases hx; exact g4 6 _ u rfl hu
     | 7,hx => cases hx; exact g4 7 _ u rfl hu
     | 8,hx => cases hx; exact g4 8 _ u rfl hu⟩
  · obtain ⟨b,us,g1,g2,g3,g4⟩ := h8
    exact ⟨b,us,g1,g2,g3,fun i x u hx hu => by
     match i,hx with
     | 0,hx => cases hx; exact g4 0 _ u rfl hu
     | 1,hx => cases hx; exact g4 1 _ u rfl hu
     | 2,hx => cases hx; exact g4 2 _ u rfl hu
     | 3,hx => cases hx; exact g4 3 _ u rfl hu⟩
  · exact ⟨[],World.ownsRow_nil X.w _ _ _,by omega,fun i hi => absurd hi (by simp [dk0]),(fun _ x hx => by cases hx),All2.nil⟩
  · exact h9
theorem hb_opn {f : FuncId} {h h' : Hb} {avs : List AV} {r : AV} {ho : List (Nat × AO)} (hE : Enters Try.prog f) (hm : MSpec Try.prog f (hbH h ()) avs r (hbH h' () ++ ho))
  (hb : (avs.all (refQ1 (fun _ => false) 0) && refQ2 (fun i => hasN i ho) 0 r && closedH ho ho && !(hasN 0 ho)) = true) : MSpec Try.prog f [(0, .obs (hbO h))] avs r ((0, .obs (hbO h')) :: ho) :=
 MSpec.opn hE (Opens.pack (hbH h)) (fun _ => ⟨_,hb_close h',rfl,rfl,hm⟩) hb
theorem C1.nilY {X : CX} {f : Nat → List AV} {u : Value} (h : C1 X (.v (.slice none 0 0)) u) : C1 X (.sl 1 0 true f) u := by
 have h : u = .slice none 0 0 := h
 subst h
 exact .sl 1 0 true f none 0 [] (by omega) (Nat.le_refl _) (by simp [maxLen]) rfl (fun i hi => absurd hi (by omega)) (fun _ x hx => by cases hx) (fun i x u hx => by simp [flat] at hx) (.inl rfl)
theorem clone_own (d : Nat) {n : Nat} {F : Nat → List AV} (l : List UInt8) (hF : IsB F l) (hn : n = l.length) (hl : l.length ≤ 1000000000) : ASpec Try.prog 85 [.sl 1 n true F] (.own d) [(d,bRow l)] := by
 refine aspec_of lay_ok 21 Try.func85 rfl rfl rfl ?_
 repeat' ((conv => whnf); first | refine K1.a ?_ | refine K1.b ?_ | refine K1.c ?_ | refine K1.d ?_ | refine K1.e ?_ | refine K1.f ?_ | refine Spl.mk (fun _ => ?_) (fun _ => ?_) | refine SNil.mk (fun _ => ?_) ?_ | refine K1.g ?_ | refine ASl.frz ?_ | refine Wr.b64 ?_ | refine Wr.bu64 ?_ | refine Wr.bu32 ?_ | refine Wr.bu8 ?_ | refine K1.u8 ?_ | refine K1.u64 ?_ | refine K1.u32 ?_ | refine K1.h ?_ | refine K1.i ?_ | refine K1.q ?_ | refine K1.j ?_ | refine K1.k ?_ | refine BSpl.dec (fun _ => ?_) (fun _ => ?_) | refine K1.l ?_ | refine K1.n ?_ | refine BSpl.mk (fun _ => ?_) (fun _ => ?_))
 all_goals (conv => whnf)
 · have h0 : n = 0 := by assumption
   obtain rfl : l = [] := List.eq_nil_of_length_eq_zero (by omega)
   exact ARet.nil d _ 1 _ rfl (by decide)
 · refine ARet.ownX d rfl rfl ?_ (AEq.refl _)
   refine OEq.row (by omega) fun i hi => ?_
   exact hF i (by omega)
theorem clone_nil : ASpec Try.prog 85 [.v (.slice none 0 0)] (.v (.slice none 0 0)) [] := by
 refine aspec_of lay_ok 21 Try.func85 rfl rfl rfl ?_
 repeat' ((conv => whnf); first | refine K1.a ?_ | refine K1.b ?_ | refine K1.c ?_ | refine K1.d ?_ | refine K1.e ?_ | refine K1.f ?_ | refine ARet.hdI ?_ | refine Spl.mk (fun _ => ?_) (fun _ => ?_) | refine SNil.mk (fun _ => ?_) ?_ | refine K1.g ?_ | refine ASl.frz ?_ | refine Wr.b64 ?_ | refine Wr.bu64 ?_ | refine Wr.bu32 ?_ | refine Wr.bu8 ?_ | refine K1.u8 ?_ | refine K1.u64 ?_ | refine K1.u32 ?_ | refine K1.h ?_ | refine K1.i ?_ | refine K1.q ?_ | refine K1.j ?_ | refine K1.k ?_ | refine BSpl.dec (fun _ => ?_) (fun _ => ?_) | refine K1.l ?_ | refine K1.n ?_ | refine BSpl.mk (fun _ => ?_) (fun _ => ?_))
 all_goals (conv => whnf)
 exact AEqI.mk (AEq.refl _)
theorem all_nil : ASpec Try.prog 63 [.v (.slice none 0 0)] (.tup [.sl 9 0 false (rcF []), .v (.int .i64 0)]) [] := by
 have hr : Recs [] [] [] := ⟨by simp,rfl,by unfold firstF; rw [if_pos (.inl (by decide))]⟩
 have := all_spec (n := 0) (F := bytesF []) [] (IsB.bytes _) rfl (by decide) hr
 exact this.args (.of (fun _ _ h => C1.nilY h) .nil)
def hb0 (c : Cfg) (n : Nat) : Hb := ⟨true,c,pt0 n,dk0⟩
theorem hb_new_no (c : Cfg) (h : mayC c = false) : ASpec Try.prog 8 [c.av] (.tup [.v (.pointer none), .v (.int .i64 1)]) [] := by
 have hm := mayC_spec c
 rw [h] at hm
 obtain ⟨n,w,q,hh,l,p⟩ := c
 dsimp only [Cfg.av,Cfg.cs] at hm ⊢
 refine aspec_of lay_ok 159 Try.func8 rfl rfl rfl ?_
 repeat' ((conv => whnf); first | refine K1.a ?_ | refine K1.b ?_ | refine K1.c ?_ | refine K1.d ?_ | refine K1.e ?_ | refine K1.f ?_ | refine ACall.plain _ _ (hm) (SubL.cons (.eq _) .nil) rfl ?_ | refine ARet.hdI ?_ | refine Spl.mk (fun _ => ?_) (fun _ => ?_) | refine SNil.mk (fun _ => ?_) ?_ | refine K1.g ?_ | refine ASl.frz ?_ | refine Wr.b64 ?_ | refine Wr.bu64 ?_ | refine Wr.bu32 ?_ | refine Wr.bu8 ?_ | refine K1.u8 ?_ | refine K1.u64 ?_ | refine K1.u32 ?_ | refine K1.h ?_ | refine K1.i ?_ | refine K1.q ?_ | refine K1.j ?_ | refine K1.k ?_ | refine BSpl.dec (fun _ => ?_) (fun _ => ?_) | refine K1.l ?_ | refine K1.n ?_ | refine BSpl.mk (fun _ => ?_) (fun _ => ?_))
 all_goals (conv => whnf)
 exact AEqI.mk (AEq.refl _)
set_option maxHeartbeats 4000000 in
set_option maxRecDepth 100000 in
theorem hb_new_m (c : Cfg) (n : Nat) (hn : c.n = (n : Int)) (hc : mayC c = true) (h1 : 1 ≤ n) (h5 : n ≤ 5) : MSpec Try.prog 8 [] [c.av] (.tup [.box 0 0, .v (.int .i64 0)]) [(0, .obs (hbO (hb0 c n)))] := by
 have hm := mayC_spec c
 rw [hc] at hm
 have hp := pt_new_m c n hn h1 h5
 have ha := all_nil
 refine MSpec.cls (hs' := [(0,hbB true c (.box 8 0) (.box 9 0)),(8,dkB (.v (.slice none 0 0)) dk0),(9, .obs (ptO c.w (pt0 n)))]) (ho := []) (hb_new true c (pt0 n)) ?_ rfl
 obtain ⟨cn,w,q,hh,l,p⟩ := c
 dsimp only [Cfg.av,Cfg.cs,hbB,dkB,dk0,List.append_nil] at hm hp ⊢
 refine mspec_of lay_ok 159 40 Try.func8 rfl rfl rfl ?_
 repeat' ((conv => whnf); first | refine K1.a ?_ | refine K1.b ?_ | refine K1.c ?_ | refine K1.d ?_ | refine K1.e ?_ | refine K1.f ?_ | refine ACall.plain _ _ (hm) (SubL.cons (.eq _) .nil) rfl ?_ | refine ACall.chgR 0 [] (hp) rfl trivial rfl rfl ?_ | refine ACall.plain _ _ (ha) (SubL.cons (.eq _) .nil) rfl ?_ | refine ACall.plain _ _ (clone_nil) (SubL.cons (.eq _) .nil) rfl ?_ | refine ACall.into 1100348391957 _ _ Try.func18 rfl rfl rfl ?_ | refine ACall.into 61 _ _ Try.func36 rfl rfl rfl ?_ | refine ACall.into 133 _ _ Try.func33 rfl rfl rfl ?_ | refine ACall.into 1 _ _ Try.func60 rfl rfl rfl ?_ | refine ACall.into 1 _ _ Try.func62 rfl rfl rfl ?_ | refine ACall.into 5 _ _ Try.func64 rfl rfl rfl ?_ | refine ACall.into 16387 _ _ Try.func65 rfl rfl rfl ?_ | refine ALoop.unr 23 1 rfl ?_ | refine Spl.mk (fun _ => ?_) (fun _ => ?_) | refine SNil.mk (fun _ => ?_) ?_ | refine K1.g ?_ | refine ASl.frz ?_ | refine Wr.b64 ?_ | refine Wr.bu64 ?_ | refine Wr.bu32 ?_ | refine Wr.bu8 ?_ | refine K1.u8 ?_ | refine K1.u64 ?_ | refine K1.u32 ?_ | refine K1.h ?_ | refine K1.i ?_ | refine K1.q ?_ | refine ADraw.sched (id := 9) lay_ok (awp_snd lay_ok _) [(0,none),(1,none),(2,none),(3,none),(4,none),(5,none),(6,none),(7,none),(8,some [7,5,3,1])] [(2,[1]),(3,[1]),(8,[7,5,3,1])] follows_ok (by kernel_rfl) ?_ | refine ADraw.sched (id := 11) lay_ok (awp_snd lay_ok _) [(0,none),(1,none),(2,none),(3,none),(4,none),(5,none),(6,none),(7,none),(8,some [7,5,3,1])] [(2,[1]),(3,[1]),(8,[7,5,3,1])] follows_ok (by kernel_rfl) ?_ | refine K1.j ?_ | refine K1.k ?_ | refine BSpl.dec (fun _ => ?_) (fun _ => ?_) | refine K1.l ?_ | refine K1.n ?_ | refine BSpl.mk (fun _ => ?_) (fun _ => ?_))
 all_goals (conv => whnf)
 exact ⟨[(41,0),(43,8),(42,9)],rfl,rfl,⟨⟨_,rfl,OEq.refl _⟩,⟨_,rfl,OEq.refl _⟩,⟨_,rfl,OEq.refl _⟩,trivial⟩,rfl,rfl,AEq.refl _⟩
end Go.Proofs.Ytmldeejaghflnaa

/-
 A disk (layer 17): what Write leaves.
-/
namespace Go.Proofs.Ytmldeejaghflnaa
open Go.RowKit
def keepI (keep : Int) (n : Nat) : Int := if (n : Int) < (if 0 > keep then 0 else keep) then (n : Int) else (if 0 > keep then 0 else keep)
theorem keepI_in (keep : Int) (n : Nat) : 0 ≤ keepI keep n ∧ keepI keep n ≤ n := by
 unfold keepI
 split <;> split <;> omega
def writeD (d : Dk) (b : List UInt8) : Dk × Int :=
 if d.down then (d,18) else if d.cut then (⟨d.bs ++ b.take (keepI d.keep b.length).toNat,true,false,d.keep⟩,18) else (⟨d.bs ++ b,false,false,d.keep⟩,0)
set_option maxHeartbeats 4000000 in
set_option maxRecDepth 100000 in
theorem dk_write_m (d d' : Dk) (b : List UInt8) (x : Int) {n : Nat} {F : Nat → List AV} (hF : IsB F b) (hn : n = b.length) (h1 : d.bs.length ≤ 1000000000) (h2 : b.length ≤ 1000000000) (hw : writeD d b = (d',x)) :
  MSpec Try.prog 75 [(0,dkB (.own 1) d),(1,bRow d.bs)] [.box 0 0, .sl 1 n true F] (.v (.int .i64 x)) [(0,dkB (.own 2) d'),(2,bRow d'.bs)] := by
 obtain ⟨bs,down,cut,keep⟩ := d
 have hk := keepI_in keep b.length
 unfold writeD at hw
 dsimp only [dkB,bRow] at h1 hw ⊢
 subst hn
 cases down with
 | true =>
   rw [if_pos rfl] at hw
   obtain ⟨rfl,rfl⟩ := Prod.mk.inj hw
   dsimp only
   refine mspec_of lay_ok 4371 40 Try.func75 rfl rfl rfl ?_
   repeat' ((conv => whnf); first | refine K1.a ?_ | refine K1.b ?_ | refine K1.c ?_ | refine K1.d ?_ | refine K1.e ?_ | refine K1.f ?_ | refine Spl.mk (fun _ => ?_) (fun _ => ?_) | refine SNil.mk (fun _ => ?_) ?_ | refine K1.g ?_ | refine ASl.frz ?_ | refine Wr.b64 ?_ | refine Wr.bu64 ?_ | refine Wr.bu32 ?_ | refine Wr.bu8 ?_ | refine K1.u8 ?_ | refine K1.u64 ?_ | refine K1.u32 ?_ | refine K1.h ?_ | refine K1.i ?_ | refine K1.q ?_ | refine K1.j ?_ | refine K1.k ?_ | refine BSpl.dec (fun _ => ?_) (fun _ => ?_) | refine K1.l ?_ | refine K1.n ?_ | refine BSpl.mk (fun _ => ?_) (fun _ => ?_))
   all_goals (conv => whnf)
   exact ⟨[(1,2)],rfl,rfl,⟨⟨_,rfl,OEq.refl _⟩,⟨_,rfl,OEq.refl _⟩,trivial⟩,rfl,rfl,AEq.refl _⟩
 | false =>
   rw [if_neg (by simp)] at hw
   cases cut with
   | true =>
     rw [if_pos rfl] at hw
     obtain ⟨rfl,rfl⟩ := Prod.mk.inj hw
     dsimp only
     refine mspec_of lay_ok 4371 40 Try.func75 rfl rfl rfl ?_
     repeat' ((conv => whnf); first | refine K1.a ?_ | refine K1.b ?_ | refine K1.c ?_ | refine K1.d ?_ | refine K1.e ?_ | refine K1.f ?_ | refine Spl.mk (fun _ => ?_) (fun _ => ?_) | refine SNil.mk (fun _ => ?_) ?_ | refine K1.g ?_ | refine ASl.frz ?_ | refine Wr.b64 ?_ | refine Wr.bu64 ?_ | refine Wr.bu32 ?_ | refine Wr.bu8 ?_ | refine K1.u8 ?_ | refine K1.u64 ?_ | refine K1.u32 ?_ | refine K1.h ?_ | refine K1.i ?_ | refine K1.q ?_ | refine K1.j ?_ | refine K1.k ?_ | refine BSpl.dec (fun _ => ?_) (fun _ => ?_) | refine K1.l ?_ | refine K1.n ?_ | refine BSpl.mk (fun _ => ?_) (fun _ => ?_))
     all_goals (conv => whnf)
     generalize hb : keepI keep b.length = k at hk ⊢
     unfold keepI at hb
     rw [hb]
     clear hb
     repeat' ((conv => whnf); first | refine K1.a ?_ | refine K1.b ?_ | refine K1.c ?_ | refine K1.d ?_ | refine K1.e ?_ | refine K1.f ?_ | refine ACall.into 1 _ _ Try.func92 rfl rfl rfl ?_ | refine Spl.mk (fun _ => ?_) (fun _ => ?_) | refine SNil.mk (fun _ => ?_) ?_ | refine K1.g ?_ | refine ASl.frz ?_ | refine Wr.b64 ?_ | refine Wr.bu64 ?_ | refine Wr.bu32 ?_ | refine Wr.bu8 ?_ | refine K1.u8 ?_ | refine K1.u64 ?_ | refine K1.u32 ?_ | refine K1.h ?_ | refine K1.i ?_ | refine K1.q ?_ | refine K1.j ?_ | refine K1.k ?_ | refine BSpl.dec (fun _ => ?_) (fun _ => ?_) | refine K1.l ?_ | refine K1.n ?_ | refine BSpl.mk (fun _ => ?_) (fun _ => ?_))
     all_goals (conv => whnf)
     exact ⟨[(40,2)],rfl,rfl,⟨⟨_,rfl,OEq.refl _⟩,⟨_,rfl,OEq.isB (IsB.app (IsB.bytes _) (hF.take _) rfl) (by rw [List.length_append,List.length_take]; omega) rfl⟩,trivial⟩,rfl,rfl,AEq.refl _⟩
   | false =>
     rw [if_neg (by simp)] at hw
     obtain ⟨rfl,rfl⟩ := Prod.mk.inj hw
     dsimp only
     refine mspec_of lay_ok 4371 40 Try.func75 rfl rfl rfl ?_
     repeat' ((conv => whnf); first | refine K1.a ?_ | refine K1.b ?_ | refine K1.c ?_ | refine K1.d ?_ | refine K1.e ?_ | refine K1.f ?_ | refine Spl.mk (fun _ => ?_) (fun _ => ?_) | refine SNil.mk (fun _ => ?_) ?_ | refine K1.g ?_ | refine ASl.frz ?_ | refine Wr.b64 ?_ | refine Wr.bu64 ?_ | refine Wr.bu32 ?_ | refine Wr.bu8 ?_ | refine K1.u8 ?_ | refine K1.u64 ?_ | refine K1.u32 ?_ | refine K1.h ?_ | refine K1.i ?_ | refine K1.q ?_ | refine K1.j ?_ | refine K1.k ?_ | refine BSpl.dec (fun _ => ?_) (fun _ => ?_) | refine K1.l ?_ | refine K1.n ?_ | refine BSpl.mk (fun _ => ?_) (fun _ => ?_))
     all_goals (conv => whnf)
     exact ⟨[(40,2)],rfl,rfl,⟨⟨_,rfl,OEq.refl _⟩,⟨_,rfl,OEq.isB (IsB.app (IsB.bytes _) hF rfl) List.length_append.symm rfl⟩,trivial⟩,rfl,rfl,AEq.refl _⟩
def hbHi (i : Nat) (h : Hb) : List (Nat × AO) := [(0,hbB h.up h.c (.box 8 0) (.box 9 0)),(8,dkB (.own i) h.d),(i,bRow h.d.bs),(9, .obs (ptO h.c.w h.p))]
theorem hb_close11 (h : Hb) : Closes (hbHi 11 h) 0 (hbO h) :=
 Closes.imp (hb_close h) fun X hnd hok => by
  have h0 := hok _ List.mem_cons_self
  have h8 := hok (8,dkB (.own 11) h.d) (by simp [hbHi])
  have h9 := hok (9, .obs (ptO h.c.w h.p)) (by simp [hbHi])
  have h11 := hok (11,bRow h.d.bs) (by simp [hbHi])
  have e : blocksOf (atV X.ρ 10 (X.ρ 11)) (hbH h ()) = blocksOf X.ρ (hbHi 11 h) := rfl
  refine ⟨atV X.ρ 10 (X.ρ 11),rfl,by rw [e]; exact hnd,fun b hb => by rw [e] at hb; exact hb,fun q hq => ?_⟩
  simp only [hbH,List.mem_cons,List.not_mem_nil,or_false] at hq
  rcases hq with rfl | rfl | rfl | rfl
  · obtain ⟨b,us,g1,g2,g3,g4⟩ := h0
    exact ⟨b,us,g1,g2,g3,fun i x u hx hu => by
     match i,hx with
     | 0,hx => cases hx; exact g4 0 _ u rfl hu
     | 1,hx => cases hx; exact g4 1 _ u rfl hu
     | 2,hx => cases hx; exact g4 2 _ u rfl hu
     | 3,hx => cases hx; exact g4 3 _ u rfl hu
     | 4,hx => cases hx; exact g4 4 _ u rfl hu
     | 5,hx => cases hx; exact g4 5 _ u rfl hu
     | 6,hx => cases hx; exact g4 6 _ u rfl hu
     | 7,hx => cases hx; exact g4 7 _ u rfl hu
     | 8,hx => cases hx; exact g4 8 _ u rfl hu⟩
  · obtain ⟨b,us,g1,g2,g3,g4⟩ := h8
    exact ⟨b,us,g1,g2,g3,fun i x u hx hu => by
     match i,hx with
     | 0,hx => cases hx; exact g4 0 _ u rfl hu
     | 1,hx => cases hx; exact g4 1 _ u rfl hu
     | 2,hx => cases hx; exact g4 2 _ u rfl hu
     | 3,hx => cases hx; exact g4 3 _ u rfl hu⟩
  · exact h11
  · exact h9
theorem hb_opn11 {f : FuncId} {h h' : Hb} {avs : List AV} {r : AV} {ho : List (Nat × AO)} (hE : Enters Try.prog f) (hm : MSpec Try.prog f (hbH h ()) avs r (hbHi 11 h' ++ ho))
  (hb : (avs.all (refQ1 (fun _ => false) 0) && refQ2 (fun i => hasN i ho) 0 r && closedH ho ho && !(hasN 0 ho)) = true) : MSpec Try.prog f [(0, .obs (hbO h))] avs r ((0, .obs (hbO h')) :: ho) :=
 MSpec.opn hE (Opens.pack (hbH h)) (fun _ => ⟨_,hb_close11 h',rfl,rfl,hm⟩) hb
def writeH (h : Hb) (x : Rc) : Hb × Int :=
 if (writeD h.d (rcBytes x)).2 = 0 then (⟨h.up,h.c,h.p,(writeD h.d (rcBytes x)).1⟩,0) else (⟨false,h.c,h.p,(writeD h.d (rcBytes x)).1⟩,18)
set_option maxHeartbeats 4000000 in
set_option maxRecDepth 100000 in
theorem hb_write_m (h h' : Hb) (x : Rc) (y : Int) (hx : mayR x = true) (hb : h.d.bs.length ≤ 1000000000) (hw : writeH h x = (h',y)) :
  MSpec Try.prog 48 (hbH h ()) [.box 0 0,x.av] (.v (.int .i64 y)) (hbHi 11 h') := by
 have hp := (rcPut_yes 0 x hx).thaw
 have hm := rcBytes_max x hx
 obtain ⟨⟨d',e⟩,hd⟩ : ∃ q,writeD h.d (rcBytes x) = q := ⟨_,rfl⟩
 have hdk := dk_write_m h.d d' (rcBytes x) e (IsB.bytes _) rfl hb (by omega) hd
 unfold writeH at hw
 rw [hd] at hw
 generalize rcBytes x = w at hp hdk hd
 obtain ⟨up,c,p,d⟩ := h
 obtain ⟨k,r,u,⟨c0,c1,c2,c3,c4⟩,ev⟩ := x
 by_cases he : e = 0
 · rw [if_pos he] at hw
   cases hw
   dsimp only [hbH,hbHi,hbB,dkB,bRow,Rc.av,Rc.cs] at hdk hp ⊢
   refine mspec_of lay_ok 532603 40 Try.func48 rfl rfl rfl ?_
   repeat' ((conv => whnf); first | refine K1.a ?_ | refine K1.b ?_ | refine K1.c ?_ | refine K1.d ?_ | refine K1.e ?_ | refine K1.f ?_ | refine ACall.plain _ _ (hp) (SubL.cons (.eq _) .nil) rfl ?_ | refine ACall.chgR 2 [(0,_),(1,_)] (hdk) rfl ⟨rfl,rfl,trivial⟩ rfl rfl ?_ | refine ACall.into 133 _ _ Try.func33 rfl rfl rfl ?_ | refine Spl.mk (fun _ => ?_) (fun _ => ?_) | refine SNil.mk (fun _ => ?_) ?_ | refine K1.g ?_ | refine ASl.frz ?_ | refine Wr.b64 ?_ | refine Wr.bu64 ?_ | refine Wr.bu32 ?_ | refine Wr.bu8 ?_ | refine K1.u8 ?_ | refine K1.u64 ?_ | refine K1.u32 ?_ | refine K1.h ?_ | refine K1.i ?_ | refine K1.q ?_ | refine K1.j ?_ | refine K1.k ?_ | refine BSpl.dec (fun _ => ?_) (fun _ => ?_) | refine K1.l ?_ | refine K1.n ?_ | refine BSpl.mk (fun _ => ?_) (fun _ => ?_))
   all_goals (conv => whnf)
   exact ⟨[(41,11)],rfl,rfl,⟨⟨_,rfl,OEq.refl _⟩,⟨_,rfl,OEq.refl _⟩,⟨_,rfl,OEq.refl _⟩,⟨_,rfl,OEq.refl _⟩,trivial⟩,rfl,rfl,AEq.refl _⟩
 · rw [if_neg he] at hw
   cases hw
   dsimp only [hbH,hbHi,hbB,dkB,bRow,Rc.av,Rc.cs] at hdk hp ⊢
   refine mspec_of lay_ok 532603 40 Try.func48 rfl rfl rfl ?_
   repeat' ((conv => whnf); first | refine K1.a ?_ | refine K1.b ?_ | refine K1.c ?_ | refine K1.d ?_ | refine K1.e ?_ | refine K1.f ?_ | refine ACall.plain _ _ (hp) (SubL.cons (.eq _) .nil) rfl ?_ | refine ACall.chgR 2 [(0,_),(1,_)] (hdk) rfl ⟨rfl,rfl,trivial⟩ rfl rfl ?_ | refine ACall.into 133 _ _ Try.func33 rfl rfl rfl ?_ | refine Spl.mk (fun _ => ?_) (fun _ => ?_) | refine SNil.mk (fun _ => ?_) ?_ | refine K1.g ?_ | refine ASl.frz ?_ | refine Wr.b64 ?_ | refine Wr.bu64 ?_ | refine Wr.bu32 ?_ | refine Wr.bu8 ?_ | refine K1.u8 ?_ | refine K1.u64 ?_ | refine K1.u32 ?_ | refine K1.h ?_ | refine K1.i ?_ | refine K1.q ?_ | refine K1.j ?_ | refine K1.k ?_ | refine BSpl.dec (fun _ => ?_) (fun _ => ?_) | refine K1.l ?_ | refine K1.n ?_ | refine BSpl.mk (fun _ => ?_) (fun _ => ?_))
   all_goals (conv => whnf)
   exact ⟨[(41,11)],rfl,rfl,⟨⟨_,rfl,OEq.refl _⟩,⟨_,rfl,OEq.refl _⟩,⟨_,rfl,OEq.refl _⟩,⟨_,rfl,OEq.refl _⟩,trivial⟩,rfl,rfl,AEq.refl _⟩
end Go.Proofs.Ytmldeejaghflnaa

/-
 How two sites of a hub are compared.
-/
namespace Go.Proofs.Ytmldeejaghflnaa
open Go.RowKit
instance (a b : Clk) : Decidable (a = b) := decidable_of_iff _ (Clk.eq_iff a b)
structure Sit where
 (up : Bool) (b l a0 a1 a2 a3 a4 : Clk)
def Sit.vs (s : Sit) : List Value := .bool s.up :: (s.b.vs ++ (s.l.vs ++ (s.a0.vs ++ (s.a1.vs ++ (s.a2.vs ++ (s.a3.vs ++ s.a4.vs))))))
theorem arr_eqIn (n : Nat) (a0 a1 a2 a3 a4 b0 b1 b2 b3 b4 : Clk) (w : World) : (Op.equalIn (n + 3) 32 (.agg (a0.vs ++ (a1.vs ++ (a2.vs ++ (a3.vs ++ a4.vs)))).toArray) (.agg (b0.vs ++ (b1.vs ++ (b2.vs ++ (b3.vs ++ b4.vs)))).toArray)).run Try.prog w =
  .ok (decide (a0 = b0 ∧ a1 = b1 ∧ a2 = b2 ∧ a3 = b3 ∧ a4 = b4)) w := by
 rw [Op.equalIn]
 simp only [Sem.run_bind,run_underlying Try.underlying32,Result.andThen_ok]
 simp only [Std.Legacy.Range.forIn_eq_forIn_range',Std.Legacy.Range.size,Nat.sub_zero,Nat.add_sub_cancel,Nat.div_one,List.range'_succ,List.range'_zero,List.forIn_cons,List.forIn_nil]
 have a5 := Try.isAgg31
 have z5 := Try.sizeOf31
 have hk := clk_eqIn n
 simp only [← Clk.eq_iff]
 unfold Clk.vs
 go_simp
 repeat' split
 all_goals simp_all
theorem sit_guard : Try.prog.eqGuardType Try.prog.depth 34 = false := by kernel_rfl
theorem Sit.eq_iff (s t : Sit) : (s.up = t.up ∧ s.b = t.b ∧ s.l = t.l ∧ s.a0 = t.a0 ∧ s.a1 = t.a1 ∧ s.a2 = t.a2 ∧ s.a3 = t.a3 ∧ s.a4 = t.a4) ↔ s = t := by
 obtain ⟨a,b,c,d,e,f,g,h⟩ := s
 obtain ⟨a',b',c',d',e',f',g',h'⟩ := t
 simp
theorem ite_ok {b : Bool} {w : World} : (if b = false then Result.ok false w else Result.ok true w : Result Bool) = .ok b w := by cases b <;> rfl
theorem sit_eqIn (s t : Sit) (w : World) : (Op.equalIn 10000 34 (.agg s.vs.toArray) (.agg t.vs.toArray)).run Try.prog w =
  .ok (decide (s.up = t.up ∧ s.b = t.b ∧ s.l = t.l ∧ (s.a0 = t.a0 ∧ s.a1 = t.a1 ∧ s.a2 = t.a2 ∧ s.a3 = t.a3 ∧ s.a4 = t.a4))) w := by
 have hS : Try.prog.underlying 34 = some (.struct (Try.prog.fieldsOf 34)) := by kernel_rfl
 have a4 := Try.isAgg4
 have z4 := Try.sizeOf4
 have u4 := Try.underlying4
 have a5 := Try.isAgg31
 have z5 := Try.sizeOf31
 have a6 := Try.isAgg32
 have z6 := Try.sizeOf32
 rw [show (10000 : Nat) = 9999 + 1 from rfl,run_equalIn_agg w 9999 34 _ _ hS (by kernel_rfl)]
 simp only [Program.fieldsOf,Try.underlying34]
 have hk := clk_eqIn 9997
 have hk2 := arr_eqIn 9996
 simp only [← Clk.eq_iff] at hk2 ⊢
 unfold Clk.vs at hk2
 unfold Sit.vs Clk.vs
 go_simp
 repeat' split
 all_goals simp_all
 all_goals exact ite_ok
theorem sit_eq (s t : Sit) : EqFact Try.prog 34 s.vs t.vs (s = t) :=
 ⟨sit_guard,fun w => ⟨_,by rw [decide_eq_true_eq,← Sit.eq_iff],sit_eqIn s t w⟩⟩
end Go.Proofs.Ytmldeejaghflnaa

/-
 The hub: Site,Cut,Crash; a disk's Trim.
-/
namespace Go.Proofs.Ytmldeejaghflnaa
open Go.RowKit
theorem ovr_out {lo k m : Nat} {f g : Nat → List AV} (h : m < lo) : ovr lo k f g m = f m := by
 have hb : Nat.ble lo m = false := by
  rw [Bool.eq_false_iff]
  intro e
  have := Nat.le_of_ble_eq_true e
  omega
 show (bif Nat.ble lo m then _ else f m) = f m
 rw [hb]
 rfl
theorem bytes_take {l : List UInt8} {n i : Nat} (h : i < n) : bytesF (l.take n) i = bytesF l i := by
 show bC _ = bC _
 rw [List.getD,List.getD,List.getElem?_take_of_lt h]
set_option maxHeartbeats 4000000 in
set_option maxRecDepth 100000 in
theorem dk_trim_m (d : Dk) (n : Nat) (hn : n ≤ d.bs.length) (h1 : d.bs.length ≤ 1000000000) :
  MSpec Try.prog 65 [(0,dkB (.own 1) d),(1,bRow d.bs)] [.box 0 0, .v (.int .i64 (n : Int))] (.tup []) [(0,dkB (.own 2) ⟨d.bs.take n,d.down,d.cut,d.keep⟩),(2,bRow (d.bs.take n))] := by
 obtain ⟨bs,down,cut,keep⟩ := d
 dsimp only [dkB,bRow] at hn h1 ⊢
 refine mspec_of lay_ok 16387 40 Try.func65 rfl rfl rfl ?_
 iterate 5 ((conv => whnf); first | refine K1.a ?_ | refine K1.b ?_ | refine K1.c ?_ | refine K1.d ?_ | refine K1.e ?_ | refine K1.f ?_ | refine ASl.part ?_ | refine Spl.mk (fun _ => ?_) (fun _ => ?_) | refine SNil.mk (fun _ => ?_) ?_ | refine K1.g ?_ | refine ASl.frz ?_ | refine Wr.b64 ?_ | refine Wr.bu64 ?_ | refine Wr.bu32 ?_ | refine Wr.bu8 ?_ | refine K1.u8 ?_ | refine K1.u64 ?_ | refine K1.u32 ?_ | refine K1.h ?_ | refine K1.i ?_ | refine K1.q ?_ | refine K1.j ?_ | refine K1.k ?_ | refine BSpl.dec (fun _ => ?_) (fun _ => ?_) | refine K1.l ?_ | refine K1.n ?_ | refine BSpl.mk (fun _ => ?_) (fun _ => ?_))
 repeat' ((conv => whnf); first | refine K1.a ?_ | refine K1.b ?_ | refine K1.c ?_ | refine K1.d ?_ | refine K1.e ?_ | refine K1.f ?_ | refine ASl.cut ?_ | refine Spl.mk (fun _ => ?_) (fun _ => ?_) | refine SNil.mk (fun _ => ?_) ?_ | refine K1.g ?_ | refine ASl.frz ?_ | refine Wr.b64 ?_ | refine Wr.bu64 ?_ | refine Wr.bu32 ?_ | refine Wr.bu8 ?_ | refine K1.u8 ?_ | refine K1.u64 ?_ | refine K1.u32 ?_ | refine K1.h ?_ | refine K1.i ?_ | refine K1.q ?_ | refine K1.j ?_ | refine K1.k ?_ | refine BSpl.dec (fun _ => ?_) (fun _ => ?_) | refine K1.l ?_ | refine K1.n ?_ | refine BSpl.mk (fun _ => ?_) (fun _ => ?_))
 all_goals (conv => whnf)
 exact ⟨[(40,2)],rfl,rfl,⟨⟨_,rfl,OEq.refl _⟩,⟨_,rfl,OEq.row (by rw [List.length_take]; omega) fun i hi => (ovr_out hi).trans (bytes_take hi).symm⟩,trivial⟩,rfl,rfl,AEq.refl _⟩
def Pt.sit (p : Pt) : Sit := ⟨true,⟨(p.sh.map Shf.base).getD 0 0,(p.sh.map Shf.base).getD 1 0,(p.sh.map Shf.base).getD 2 0,(p.sh.map Shf.base).getD 3 0,(p.sh.map Shf.base).getD 4 0⟩,⟨(p.sh.map Shf.len).getD 0 0,(p.sh.map Shf.len).getD 1 0,(p.sh.map Shf.len).getD 2 0,(p.sh.map Shf.len).getD 3 0,(p.sh.map Shf.len).getD 4 0⟩,
 p.told.getD 0 clk0,p.told.getD 1 clk0,p.told.getD 2 clk0,p.told.getD 3 clk0,p.told.getD 4 clk0⟩
def sit0 : Sit := ⟨false,clk0,clk0,clk0,clk0,clk0,clk0,clk0⟩
theorem site_vs (p : Pt) : p.site = p.sit.vs.map .v := rfl
def Hb.sit (h : Hb) : Sit := if h.up then h.p.sit else sit0
set_option maxHeartbeats 4000000 in
set_option maxRecDepth 100000 in
theorem hb_site_m (h : Hb) (hp : PtB h.p) : MSpec Try.prog 10 [(0, .obs (hbO h))] [.box 0 0] (.agg (h.sit.vs.map .v)) [(0, .obs (hbO h))] := by
 refine hb_opn (ho := []) ⟨_,_,Try.func10,rfl,rfl⟩ ?_ rfl
 have hs := pt_site_m h.c.w h.p hp
 rw [site_vs] at hs
 rw [List.append_nil]
 obtain ⟨up,c,p,d⟩ := h
 unfold Hb.sit
 cases up with
 | true =>
   rw [if_pos rfl]
   dsimp only [hbH,hbB,dkB,bRow] at hs ⊢
   refine mspec_of lay_ok 261 40 Try.func10 rfl rfl rfl ?_
   repeat' ((conv => whnf); first | refine K1.a ?_ | refine K1.b ?_ | refine K1.c ?_ | refine K1.d ?_ | refine K1.e ?_ | refine K1.f ?_ | refine ACall.chgR 1 [(0,_)] (hs) rfl ⟨rfl,trivial⟩ rfl rfl ?_ | refine Spl.mk (fun _ => ?_) (fun _ => ?_) | refine SNil.mk (fun _ => ?_) ?_ | refine K1.g ?_ | refine ASl.frz ?_ | refine Wr.b64 ?_ | refine Wr.bu64 ?_ | refine Wr.bu32 ?_ | refine Wr.bu8 ?_ | refine K1.u8 ?_ | refine K1.u64 ?_ | refine K1.u32 ?_ | refine K1.h ?_ | refine K1.i ?_ | refine K1.q ?_ | refine K1.j ?_ | refine K1.k ?_ | refine BSpl.dec (fun _ => ?_) (fun _ => ?_) | refine K1.l ?_ | refine K1.n ?_ | refine BSpl.mk (fun _ => ?_) (fun _ => ?_))
   all_goals (conv => whnf)
   exact ⟨[],rfl,rfl,⟨⟨_,rfl,OEq.refl _⟩,⟨_,rfl,OEq.refl _⟩,⟨_,rfl,OEq.refl _⟩,⟨_,rfl,OEq.refl _⟩,trivial⟩,rfl,rfl,AEq.refl _⟩
 | false =>
   rw [if_neg (by simp)]
   dsimp only [hbH,hbB,dkB,bRow] at hs ⊢
   refine mspec_of lay_ok 261 40 Try.func10 rfl rfl rfl ?_
   repeat' ((conv => whnf); first | refine K1.a ?_ | refine K1.b ?_ | refine K1.c ?_ | refine K1.d ?_ | refine K1.e ?_ | refine K1.f ?_ | refine ACall.chgR 1 [(0,_)] (hs) rfl ⟨rfl,trivial⟩ rfl rfl ?_ | refine Spl.mk (fun _ => ?_) (fun _ => ?_) | refine SNil.mk (fun _ => ?_) ?_ | refine K1.g ?_ | refine ASl.frz ?_ | refine Wr.b64 ?_ | refine Wr.bu64 ?_ | refine Wr.bu32 ?_ | refine Wr.bu8 ?_ | refine K1.u8 ?_ | refine K1.u64 ?_ | refine K1.u32 ?_ | refine K1.h ?_ | refine K1.i ?_ | refine K1.q ?_ | refine K1.j ?_ | refine K1.k ?_ | refine BSpl.dec (fun _ => ?_) (fun _ => ?_) | refine K1.l ?_ | refine K1.n ?_ | refine BSpl.mk (fun _ => ?_) (fun _ => ?_))
   all_goals (conv => whnf)
   exact ⟨[],rfl,rfl,⟨⟨_,rfl,OEq.refl _⟩,⟨_,rfl,OEq.refl _⟩,⟨_,rfl,OEq.refl _⟩,⟨_,rfl,OEq.refl _⟩,trivial⟩,rfl,rfl,AEq.refl _⟩
set_option maxHeartbeats 4000000 in
set_option maxRecDepth 100000 in
theorem hb_cut_m (h : Hb) (k : Int) : MSpec Try.prog 17 [(0, .obs (hbO h))] [.box 0 0, .v (.int .i64 k)] (.tup []) [(0, .obs (hbO ⟨h.up,h.c,h.p,⟨h.d.bs,h.d.down,true,k⟩⟩))] := by
 refine hb_opn (ho := []) ⟨_,_,Try.func17,rfl,rfl⟩ ?_ rfl
 rw [List.append_nil]
 obtain ⟨up,c,p,d⟩ := h
 dsimp only [hbH,hbB,dkB,bRow]
 refine mspec_of lay_ok 3 40 Try.func17 rfl rfl rfl ?_
 repeat' ((conv => whnf); first | refine K1.a ?_ | refine K1.b ?_ | refine K1.c ?_ | refine K1.d ?_ | refine K1.e ?_ | refine K1.f ?_ | refine ACall.into 133 _ _ Try.func33 rfl rfl rfl ?_ | refine ACall.into 3 _ _ Try.func34 rfl rfl rfl ?_ | refine Spl.mk (fun _ => ?_) (fun _ => ?_) | refine SNil.mk (fun _ => ?_) ?_ | refine K1.g ?_ | refine ASl.frz ?_ | refine Wr.b64 ?_ | refine Wr.bu64 ?_ | refine Wr.bu32 ?_ | refine Wr.bu8 ?_ | refine K1.u8 ?_ | refine K1.u64 ?_ | refine K1.u32 ?_ | refine K1.h ?_ | refine K1.i ?_ | refine K1.q ?_ | refine K1.j ?_ | refine K1.k ?_ | refine BSpl.dec (fun _ => ?_) (fun _ => ?_) | refine K1.l ?_ | refine K1.n ?_ | refine BSpl.mk (fun _ => ?_) (fun _ => ?_))
 all_goals (conv => whnf)
 exact ⟨[],rfl,rfl,⟨⟨_,rfl,OEq.refl _⟩,⟨_,rfl,OEq.refl _⟩,⟨_,rfl,OEq.refl _⟩,⟨_,rfl,OEq.refl _⟩,trivial⟩,rfl,rfl,AEq.refl _⟩
end Go.Proofs.Ytmldeejaghflnaa
