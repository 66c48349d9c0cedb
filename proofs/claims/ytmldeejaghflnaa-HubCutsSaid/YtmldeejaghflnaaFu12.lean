/-
  Contracts of the walk: FrT, FrU, FrLaw, FrN, RcLaw.
-/
import Derived.Test.YtmldeejaghflnaaFu10
import Derived.Test.YtmldeejaghflnaaFu11
/-
 What frame.number and frame.events tell of any bytes; equality of bytes and of lists of events.
-/
namespace Go.Proofs.Ytmldeejaghflnaa
open Go.RowKit
def numF (b : List UInt8) : Option (Nat × Nat) := if (vtake b).2.2 = 0 ∧ (vtake b).1 ≤ 1048576 then some ((vtake b).1,(vtake b).2.1) else none
set_option maxHeartbeats 2000000 in
set_option maxRecDepth 100000 in
theorem number_ok {n : Nat} {F : Nat → List AV} (l : List UInt8) {m k : Nat} (h : numF l = some (m,k)) (hF : IsB F l) (hn : n = l.length) : ASpec Try.prog 55 [.sl 1 n true F] (.tup [.v (.int .i64 (m : Int)), .v (.int .i64 (k : Int)), .v (.bool true)]) [] := by
 obtain ⟨⟨a,c,e⟩,hv⟩ : ∃ p,vtake l = p := ⟨_,rfl⟩
 have hs := vtake_spec l hF hn
 unfold numF at h
 rw [hv] at hs h
 dsimp only at hs h
 split at h
 · rename_i h0
   obtain ⟨h0,h1⟩ := h0
   simp only [Option.some.injEq,Prod.mk.injEq] at h
   obtain ⟨rfl,rfl⟩ := h
   subst h0
   refine aspec_of lay_ok 524541 Try.func55 rfl rfl rfl ?_
   repeat' ((conv => whnf); first | refine K1.a ?_ | refine K1.b ?_ | refine K1.c ?_ | refine K1.d ?_ | refine K1.e ?_ | refine K1.f ?_ | refine ACall.plain _ _ (hs) (SubL.cons (.eq _) .nil) rfl ?_ | refine ARet.hdI ?_ | refine Spl.mk (fun _ => ?_) (fun _ => ?_) | refine SNil.mk (fun _ => ?_) ?_ | refine K1.g ?_ | refine ASl.frz ?_ | refine Wr.b64 ?_ | refine Wr.bu64 ?_ | refine Wr.bu32 ?_ | refine Wr.bu8 ?_ | refine K1.u8 ?_ | refine K1.u64 ?_ | refine K1.u32 ?_ | refine K1.h ?_ | refine K1.i ?_ | refine K1.q ?_ | refine K1.j ?_ | refine K1.k ?_ | refine BSpl.dec (fun _ => ?_) (fun _ => ?_) | refine K1.l ?_ | refine K1.n ?_ | refine BSpl.mk (fun _ => ?_) (fun _ => ?_))
   conv => whnf
   exact AEqI.mk (AEq.refl _)
 · cases h
set_option maxHeartbeats 2000000 in
set_option maxRecDepth 100000 in
theorem number_no {n : Nat} {F : Nat → List AV} (l : List UInt8) (h : numF l = none) (hF : IsB F l) (hn : n = l.length) : ASpec Try.prog 55 [.sl 1 n true F] (.tup [.v (.int .i64 0), .v (.int .i64 0), .v (.bool false)]) [] := by
 obtain ⟨⟨a,c,e⟩,hv⟩ : ∃ p,vtake l = p := ⟨_,rfl⟩
 have hs := vtake_spec l hF hn
 unfold numF at h
 rw [hv] at hs h
 dsimp only at hs h
 split at h
 · cases h
 · rename_i h0
   refine aspec_of lay_ok 524541 Try.func55 rfl rfl rfl ?_
   repeat' ((conv => whnf); first | refine K1.a ?_ | refine K1.b ?_ | refine K1.c ?_ | refine K1.d ?_ | refine K1.e ?_ | refine K1.f ?_ | refine ACall.plain _ _ (hs) (SubL.cons (.eq _) .nil) rfl ?_ | refine ARet.hdI ?_ | refine Spl.mk (fun _ => ?_) (fun _ => ?_) | refine SNil.mk (fun _ => ?_) ?_ | refine K1.g ?_ | refine ASl.frz ?_ | refine Wr.b64 ?_ | refine Wr.bu64 ?_ | refine Wr.bu32 ?_ | refine Wr.bu8 ?_ | refine K1.u8 ?_ | refine K1.u64 ?_ | refine K1.u32 ?_ | refine K1.h ?_ | refine K1.i ?_ | refine K1.q ?_ | refine K1.j ?_ | refine K1.k ?_ | refine BSpl.dec (fun _ => ?_) (fun _ => ?_) | refine K1.l ?_ | refine K1.n ?_ | refine BSpl.mk (fun _ => ?_) (fun _ => ?_))
   all_goals (conv => whnf)
   all_goals first
     | exact AEqI.mk (AEq.refl _)
     | (exfalso; apply h0; constructor <;> omega)
def evsAt (b : List UInt8) : Nat → Option (List Ev × List UInt8)
  | 0 => some ([],b)
  | j + 1 => match evsAt b j with
    | none => none
    | some (l,r) => if (takeE r).2.2 = 0 then some (l ++ [(takeE r).1],r.drop (takeE r).2.1) else none
def evsF : List UInt8 → Option (List Ev)
  | [] => none
  | c :: r => (evsAt r c.toNat).map (·.1)
theorem evsAt_len {b : List UInt8} : ∀ {j : Nat} {l : List Ev} {r : List UInt8},evsAt b j = some (l,r) → l.length = j ∧ r.length ≤ b.length
  | 0,l,r,h => by
    simp only [evsAt,Option.some.injEq,Prod.mk.injEq] at h
    obtain ⟨rfl,rfl⟩ := h
    exact ⟨rfl,Nat.le_refl _⟩
  | j + 1,l,r,h => by
    unfold evsAt at h
    cases h0 : evsAt b j with
    | none => rw [h0] at h; cases h
    | some p =>
      obtain ⟨l0,r0⟩ := p
      rw [h0] at h
      dsimp only at h
      have ih := evsAt_len h0
      split at h
      · simp only [Option.some.injEq,Prod.mk.injEq] at h
        obtain ⟨rfl,rfl⟩ := h
        refine ⟨by simp [ih.1],?_⟩
        rw [List.length_drop]
        omega
      · cases h
theorem evsAt_step {b : List UInt8} {j : Nat} {l : List Ev} {r : List UInt8} {e : Ev} {m : Nat} (h : evsAt b j = some (l,r)) (ht : takeE r = (e,m,0)) : evsAt b (j + 1) = some (l ++ [e],r.drop m) := by
 unfold evsAt
 rw [h]
 dsimp only
 rw [ht]
 rfl
theorem evsAt_stop {b : List UInt8} {j : Nat} {l : List Ev} {r : List UInt8} (h : evsAt b j = some (l,r)) (ht : (takeE r).2.2 ≠ 0) : evsAt b (j + 1) = none := by
 unfold evsAt
 rw [h]
 dsimp only
 rw [if_neg ht]
theorem evsAt_none {b : List UInt8} {j : Nat} (h : evsAt b j = none) : ∀ n,j ≤ n → evsAt b n = none := by
 intro n hn
 obtain ⟨d,rfl⟩ := Nat.le.dest hn
 clear hn
 induction d with
 | zero => exact h
 | succ d ih =>
   show evsAt b (j + d + 1) = none
   unfold evsAt
   rw [ih]
theorem C1.nilSl {X : CX} {f : Nat → List AV} {u : Value} (h : C1 X (.v (.slice none 0 0)) u) : C1 X (.sl 12 0 true f) u := by
 have h : u = .slice none 0 0 := h
 subst h
 exact (show C0 X (.sl 12 0 true f) (.slice none 0 0) from .sl 12 0 true f none 0 [] (by omega) (Nat.le_refl _) (by simp [maxLen]) (by simp) (fun i hi => absurd hi (Nat.not_lt_zero i)) (fun _ x hx => by simp [flat] at hx) (fun i x u hx => by simp [flat] at hx) (.inl rfl))
theorem All2.hd {R : AV → Value → Prop} {x y : AV} {xs : List AV} {us : List Value} (h : All2 R (x :: xs) us) (hi : ∀ u,R x u → R y u) : All2 R (y :: xs) us := by
 rcases us with _ | ⟨u,us⟩
 · have := h.1; simp at this
 · exact All2.cons (hi u (h.2 0 _ _ rfl rfl)) ⟨by have := h.1; simpa using this,fun i a b ha hb => h.2 (i + 1) a b (by simpa using ha) (by simpa using hb)⟩
theorem AEq.nilT {b : AV} (f : Nat → List AV) : AEq (.tup [.v (.slice none 0 0),b]) (.tup [.sl 12 0 true f,b]) := by
 rintro X u ⟨us,e,ha⟩
 exact ⟨us,e,ha.hd fun u hu => C1.nilSl hu⟩
def evsR : Option (List Ev) → AV
  | none => .tup [.v (.slice none 0 0), .v (.bool false)]
  | some l => .tup [.sl 12 l.length true (evF l), .v (.bool true)]
theorem equal_spec {n m : Nat} {F G : Nat → List AV} (a b : List UInt8) (hF : IsB F a) (hn : n = a.length) (hG : IsB G b) (hm : m = b.length) : ASpec Try.prog 32 [.sl 1 n true F, .sl 1 m true G] (.v (.bool (decide (a = b)))) [] := by
 refine aspec_of lay_ok 19 Try.func32 rfl rfl rfl ?_
 repeat' ((conv => whnf); first | refine K1.a ?_ | refine K1.b ?_ | refine K1.c ?_ | refine K1.d ?_ | refine K1.e ?_ | refine K1.f ?_ | refine Bs.of a hF hn ?_ | refine Bs.of b hG hm ?_ | refine ARet.hdI ?_ | refine Spl.mk (fun _ => ?_) (fun _ => ?_) | refine SNil.mk (fun _ => ?_) ?_ | refine K1.g ?_ | refine ASl.frz ?_ | refine Wr.b64 ?_ | refine Wr.bu64 ?_ | refine Wr.bu32 ?_ | refine Wr.bu8 ?_ | refine K1.u8 ?_ | refine K1.u64 ?_ | refine K1.u32 ?_ | refine K1.h ?_ | refine K1.i ?_ | refine K1.q ?_ | refine K1.j ?_ | refine K1.k ?_ | refine BSpl.dec (fun _ => ?_) (fun _ => ?_) | refine K1.l ?_ | refine K1.n ?_ | refine BSpl.mk (fun _ => ?_) (fun _ => ?_))
 all_goals (conv => whnf)
 all_goals (refine AEqI.mk (AEq.of ?_))
 · have h : (⟨a.toArray⟩ : ByteArray) = ⟨b.toArray⟩ := by assumption
   have : a = b := by simpa using h
   simp [this]
 · have h : ¬ (⟨a.toArray⟩ : ByteArray) = ⟨b.toArray⟩ := by assumption
   have : ¬ a = b := by simpa using h
   simp [this]
set_option maxHeartbeats 4000000 in
set_option maxRecDepth 100000 in
theorem events_e (b : List UInt8) (hl : b.length ≤ 1000000000) : ASpec Try.prog 54 [.sl 1 b.length true (bytesF b)] (evsR (evsF b)) [] := by
 rcases b with _ | ⟨c,t⟩
 · show ASpec Try.prog 54 [.sl 1 0 true (bytesF [])] _ []
   refine aspec_of lay_ok 270273021 Try.func54 rfl rfl rfl ?_
   repeat' ((conv => whnf); first | refine K1.a ?_ | refine K1.b ?_ | refine K1.c ?_ | refine K1.d ?_ | refine K1.e ?_ | refine K1.f ?_ | refine ARet.hdI ?_ | refine Spl.mk (fun _ => ?_) (fun _ => ?_) | refine SNil.mk (fun _ => ?_) ?_ | refine K1.g ?_ | refine ASl.frz ?_ | refine Wr.b64 ?_ | refine Wr.bu64 ?_ | refine Wr.bu32 ?_ | refine Wr.bu8 ?_ | refine K1.u8 ?_ | refine K1.u64 ?_ | refine K1.u32 ?_ | refine K1.h ?_ | refine K1.i ?_ | refine K1.q ?_ | refine K1.j ?_ | refine K1.k ?_ | refine BSpl.dec (fun _ => ?_) (fun _ => ?_) | refine K1.l ?_ | refine K1.n ?_ | refine BSpl.mk (fun _ => ?_) (fun _ => ?_))
   all_goals (conv => whnf)
   all_goals exact AEqI.mk (AEq.refl _)
 · have hc := UInt8.toNat_lt c
   rw [List.length_cons] at hl ⊢
   refine aspec_of lay_ok 270273021 Try.func54 rfl rfl rfl ?_
   repeat' ((conv => whnf); first | refine K1.a ?_ | refine K1.b ?_ | refine K1.c ?_ | refine K1.d ?_ | refine K1.e ?_ | refine K1.f ?_ | refine ARet.hdI ?_ | refine Spl.mk (fun _ => ?_) (fun _ => ?_) | refine SNil.mk (fun _ => ?_) ?_ | refine K1.g ?_ | refine ASl.frz ?_ | refine Wr.b64 ?_ | refine Wr.bu64 ?_ | refine Wr.bu32 ?_ | refine Wr.bu8 ?_ | refine K1.u8 ?_ | refine K1.u64 ?_ | refine K1.u32 ?_ | refine K1.h ?_ | refine K1.i ?_ | refine K1.q ?_ | refine K1.j ?_ | refine K1.k ?_ | refine BSpl.dec (fun _ => ?_) (fun _ => ?_) | refine K1.l ?_ | refine K1.n ?_ | refine BSpl.mk (fun _ => ?_) (fun _ => ?_))
   conv => whnf
   refine ALoop.mk { p : Nat × List Ev × List UInt8 // evsAt t p.1 = some p.2 ∧ p.1 ≤ c.toNat } (fun p => match p with
     | ⟨(0,_,r),_⟩ => ⟨[(0, .sl 1 r.length true (bytesF r)),(4, .v (.slice none 0 0)),(18, .v (.int .i64 (c.toNat : Int))),(19, .v (.int .i64 0))],[],[],0⟩
     | ⟨(i + 1,l,r),_⟩ => ⟨[(0, .sl 1 r.length true (bytesF r)),(4, .own 90),(18, .v (.int .i64 (c.toNat : Int))),(19, .v (.int .i64 ((i : Int) + 1)))],[(90, .row 66 12 l.length true (evF l))],[],91⟩)
     (fun p => c.toNat - p.1.1) ⟨(0,[],t),rfl,Nat.zero_le _⟩ _
     (LeR.mk' [] _ _ _ rfl ⟨AEq.isB (IsB.drop (IsB.bytes (c :: t)) 1) (by simp),AEq.refl _,AEq.refl _,AEq.int rfl,trivial⟩ trivial rfl) ?_
   rintro ⟨⟨_ | i,l,r⟩,hp,hj⟩
   · dsimp only at hp hj
     obtain ⟨hl0,hr0⟩ := evsAt_len hp
     obtain rfl : l = [] := List.eq_nil_of_length_eq_zero hl0
     have hz : c.toNat = 0 → evsF (c :: t) = some [] := fun h => by show (evsAt t c.toNat).map (·.1) = _; rw [h,hp]; rfl
     rcases takeE_ways r with ⟨e,m,ht, -,hm, -⟩ | ht | ht
     · dsimp only
       repeat' ((conv => whnf); first | refine K1.a ?_ | refine K1.b ?_ | refine K1.c ?_ | refine K1.d ?_ | refine K1.e ?_ | refine K1.f ?_ | refine ACall.plain _ _ (take_any r ht (IsB.bytes r) rfl (by omega)) (SubL.cons (.eq _) .nil) rfl ?_ | refine ARet.hdI ?_ | refine Spl.mk (fun _ => ?_) (fun _ => ?_) | refine SNil.mk (fun _ => ?_) ?_ | refine K1.g ?_ | refine ASl.frz ?_ | refine Wr.b64 ?_ | refine Wr.bu64 ?_ | refine Wr.bu32 ?_ | refine Wr.bu8 ?_ | refine K1.u8 ?_ | refine K1.u64 ?_ | refine K1.u32 ?_ | refine K1.h ?_ | refine K1.i ?_ | refine K1.q ?_ | refine K1.j ?_ | refine K1.k ?_ | refine BSpl.dec (fun _ => ?_) (fun _ => ?_) | refine K1.l ?_ | refine K1.n ?_ | refine BSpl.mk (fun _ => ?_) (fun _ => ?_))
       all_goals (conv => whnf)
       · refine ⟨⟨(0 + 1,[] ++ [e],r.drop m),evsAt_step hp ht,by omega⟩,_,LeR.mk' [(2,90)] _ _ _ rfl ⟨AEq.isB (IsB.drop (IsB.bytes r) m) (by simp),AEq.refl _,AEq.refl _,AEq.int rfl,trivial⟩ ⟨⟨_,rfl,OEq.row rfl (fun i hi => ?_)⟩,trivial⟩ rfl,by show c.toNat - (0 + 1) < c.toNat - 0; omega⟩
         have hi : i < 1 := hi
         obtain rfl : i = 0 := by omega
         rfl
       · rw [hz (by omega)]
         exact AEqI.mk (AEq.nilT _)
     all_goals
      have hno : 0 < c.toNat → evsF (c :: t) = none := fun h => by show (evsAt t c.toNat).map (·.1) = _; rw [evsAt_none (evsAt_stop hp (by rw [ht]; decide)) c.toNat (by omega)]; rfl
      dsimp only
      repeat' ((conv => whnf); first | refine K1.a ?_ | refine K1.b ?_ | refine K1.c ?_ | refine K1.d ?_ | refine K1.e ?_ | refine K1.f ?_ | refine ACall.plain _ _ (take_any r ht (IsB.bytes r) rfl (by omega)) (SubL.cons (.eq _) .nil) rfl ?_ | refine ARet.hdI ?_ | refine Spl.mk (fun _ => ?_) (fun _ => ?_) | refine SNil.mk (fun _ => ?_) ?_ | refine K1.g ?_ | refine ASl.frz ?_ | refine Wr.b64 ?_ | refine Wr.bu64 ?_ | refine Wr.bu32 ?_ | refine Wr.bu8 ?_ | refine K1.u8 ?_ | refine K1.u64 ?_ | refine K1.u32 ?_ | refine K1.h ?_ | refine K1.i ?_ | refine K1.q ?_ | refine K1.j ?_ | refine K1.k ?_ | refine BSpl.dec (fun _ => ?_) (fun _ => ?_) | refine K1.l ?_ | refine K1.n ?_ | refine BSpl.mk (fun _ => ?_) (fun _ => ?_))
      all_goals (conv => whnf)
      · rw [hno (by omega)]
        exact AEqI.mk (AEq.refl _)
      · rw [hz (by omega)]
        exact AEqI.mk (AEq.nilT _)
   · dsimp only at hp hj
     obtain ⟨hl0,hr0⟩ := evsAt_len hp
     have hz : c.toNat = i + 1 → evsF (c :: t) = some l := fun h => by show (evsAt t c.toNat).map (·.1) = _; rw [h,hp]; rfl
     rcases takeE_ways r with ⟨e,m,ht, -,hm, -⟩ | ht | ht
     · dsimp only
       repeat' ((conv => whnf); first | refine K1.a ?_ | refine K1.b ?_ | refine K1.c ?_ | refine K1.d ?_ | refine K1.e ?_ | refine K1.f ?_ | refine ACall.plain _ _ (take_any r ht (IsB.bytes r) rfl (by omega)) (SubL.cons (.eq _) .nil) rfl ?_ | refine ARet.hdI ?_ | refine Spl.mk (fun _ => ?_) (fun _ => ?_) | refine SNil.mk (fun _ => ?_) ?_ | refine K1.g ?_ | refine ASl.frz ?_ | refine Wr.b64 ?_ | refine Wr.bu64 ?_ | refine Wr.bu32 ?_ | refine Wr.bu8 ?_ | refine K1.u8 ?_ | refine K1.u64 ?_ | refine K1.u32 ?_ | refine K1.h ?_ | refine K1.i ?_ | refine K1.q ?_ | refine K1.j ?_ | refine K1.k ?_ | refine BSpl.dec (fun _ => ?_) (fun _ => ?_) | refine K1.l ?_ | refine K1.n ?_ | refine BSpl.mk (fun _ => ?_) (fun _ => ?_))
       all_goals (conv => whnf)
       · refine ⟨⟨(i + 1 + 1,l ++ [e],r.drop m),evsAt_step hp ht,by omega⟩,_,LeR.mk' [(93,90)] _ _ _ rfl ⟨AEq.isB (IsB.drop (IsB.bytes r) m) (by simp),AEq.refl _,AEq.refl _,AEq.int rfl,trivial⟩ ⟨⟨_,rfl,OEq.row (by simp) (fun m hm => els_app1 (c := Ev.cs) rfl rfl m hm)⟩,trivial⟩ rfl,by show c.toNat - (i + 1 + 1) < c.toNat - (i + 1); omega⟩
       · rw [hz (by omega)]
         exact AEqI.mk (AEq.refl _)
     all_goals
      have hno : i + 1 < c.toNat → evsF (c :: t) = none := fun h => by show (evsAt t c.toNat).map (·.1) = _; rw [evsAt_none (evsAt_stop hp (by rw [ht]; decide)) c.toNat (by omega)]; rfl
      dsimp only
      repeat' ((conv => whnf); first | refine K1.a ?_ | refine K1.b ?_ | refine K1.c ?_ | refine K1.d ?_ | refine K1.e ?_ | refine K1.f ?_ | refine ACall.plain _ _ (take_any r ht (IsB.bytes r) rfl (by omega)) (SubL.cons (.eq _) .nil) rfl ?_ | refine ARet.hdI ?_ | refine Spl.mk (fun _ => ?_) (fun _ => ?_) | refine SNil.mk (fun _ => ?_) ?_ | refine K1.g ?_ | refine ASl.frz ?_ | refine Wr.b64 ?_ | refine Wr.bu64 ?_ | refine Wr.bu32 ?_ | refine Wr.bu8 ?_ | refine K1.u8 ?_ | refine K1.u64 ?_ | refine K1.u32 ?_ | refine K1.h ?_ | refine K1.i ?_ | refine K1.q ?_ | refine K1.j ?_ | refine K1.k ?_ | refine BSpl.dec (fun _ => ?_) (fun _ => ?_) | refine K1.l ?_ | refine K1.n ?_ | refine BSpl.mk (fun _ => ?_) (fun _ => ?_))
      all_goals (conv => whnf)
      · rw [hno (by omega)]
        exact AEqI.mk (AEq.refl _)
      · rw [hz (by omega)]
        exact AEqI.mk (AEq.refl _)
theorem events_spec {n : Nat} {F : Nat → List AV} (b : List UInt8) (hF : IsB F b) (hn : n = b.length) (hl : b.length ≤ 1000000000) : ASpec Try.prog 54 [.sl 1 n true F] (evsR (evsF b)) [] :=
 (events_e b hl).args (Ch.isB hF hn .nil)
end Go.Proofs.Ytmldeejaghflnaa

/-
 What frame.read tells of any bytes; whether two lists of events,two frames are the same.
-/
namespace Go.Proofs.Ytmldeejaghflnaa
open Go.RowKit
theorem all_same {a b : List Ev} (hl : a.length = b.length) (h : ∀ i,i < a.length → a.getD i default = b.getD i default) : a = b := by
 apply List.ext_getElem hl
 intro i h1 h2
 have := h i h1
 rw [List.getD,List.getElem?_eq_getElem h1,List.getD,List.getElem?_eq_getElem h2] at this
 exact this
set_option maxHeartbeats 4000000 in
set_option maxRecDepth 100000 in
theorem same06_spec (a b : List Ev) (q : Bool) (hq : q = true ↔ a = b) (ha : a.length ≤ 1000000000) (hb : b.length ≤ 1000000000) : ASpec Try.prog 16 [.sl 12 a.length true (evF a), .sl 12 b.length true (evF b)] (.v (.bool q)) [] := by
 refine aspec_of lay_ok 33571891 Try.func16 rfl rfl rfl ?_
 repeat' ((conv => whnf); first | refine K1.a ?_ | refine K1.b ?_ | refine K1.c ?_ | refine K1.d ?_ | refine K1.e ?_ | refine K1.f ?_ | refine ARet.hdI ?_ | refine Spl.mk (fun _ => ?_) (fun _ => ?_) | refine SNil.mk (fun _ => ?_) ?_ | refine K1.g ?_ | refine ASl.frz ?_ | refine Wr.b64 ?_ | refine Wr.bu64 ?_ | refine Wr.bu32 ?_ | refine Wr.bu8 ?_ | refine K1.u8 ?_ | refine K1.u64 ?_ | refine K1.u32 ?_ | refine K1.h ?_ | refine K1.i ?_ | refine K1.q ?_ | refine K1.j ?_ | refine K1.k ?_ | refine BSpl.dec (fun _ => ?_) (fun _ => ?_) | refine K1.l ?_ | refine K1.n ?_ | refine BSpl.mk (fun _ => ?_) (fun _ => ?_))
 all_goals (conv => whnf)
 · refine ALoop.mk { j : Nat // j ≤ a.length ∧ ∀ i,i < j → a.getD i default = b.getD i default } (fun j => ⟨[(0, .sl 12 a.length true (evF a)),(1, .sl 12 b.length true (evF b)),(5, .v (.int .i64 (j.1 : Int)))],[],[],0⟩) (fun j => a.length - j.1) ⟨0,Nat.zero_le _,fun i h => absurd h (Nat.not_lt_zero i)⟩ _
    (LeR.mk' [] _ _ _ rfl ⟨AEq.refl _,AEq.refl _,AEq.int rfl,trivial⟩ trivial rfl) ?_
   rintro ⟨j,hj,hall⟩
   dsimp only
   repeat' ((conv => whnf); first | refine K1.a ?_ | refine K1.b ?_ | refine K1.c ?_ | refine K1.d ?_ | refine K1.e ?_ | refine K1.f ?_ | refine EqA.mk (Ev.vs (a.getD (j : Int).toNat default)) (Ev.vs (b.getD (j : Int).toNat default)) (a.getD (j : Int).toNat default = b.getD (j : Int).toNat default) rfl rfl (ev_eq _ _) ?_ | refine ARet.hdI ?_ | refine Spl.mk (fun _ => ?_) (fun _ => ?_) | refine SNil.mk (fun _ => ?_) ?_ | refine K1.g ?_ | refine ASl.frz ?_ | refine Wr.b64 ?_ | refine Wr.bu64 ?_ | refine Wr.bu32 ?_ | refine Wr.bu8 ?_ | refine K1.u8 ?_ | refine K1.u64 ?_ | refine K1.u32 ?_ | refine K1.h ?_ | refine K1.i ?_ | refine K1.q ?_ | refine K1.j ?_ | refine K1.k ?_ | refine BSpl.dec (fun _ => ?_) (fun _ => ?_) | refine K1.l ?_ | refine K1.n ?_ | refine BSpl.mk (fun _ => ?_) (fun _ => ?_))
   all_goals (conv => whnf)
   all_goals first
     | (refine ⟨⟨j + 1,by omega,fun i hi => ?_⟩,_,LeR.mk' [] _ _ _ rfl ⟨AEq.refl _,AEq.refl _,AEq.int rfl,trivial⟩ trivial rfl,by show a.length - (j + 1) < a.length - j; omega⟩
        rcases Nat.lt_or_ge i j with h | h
        · exact hall i h
        · obtain rfl : i = j := by omega
          exact ‹a.getD (i : Int).toNat default = b.getD (i : Int).toNat default›)
     | (have hno : ¬ a.getD (j : Int).toNat default = b.getD (j : Int).toNat default := by assumption
        have : q = false := by cases q with | false => rfl | true => exact absurd (by rw [hq.1 rfl]) hno
        rw [this]
        exact AEqI.mk (AEq.refl _))
     | (have : q = true := hq.2 (all_same (by omega) (fun i hi => hall i (by omega)))
        rw [this]
        exact AEqI.mk (AEq.refl _))
 · refine AEqI.mk (AEq.of ?_)
   have hne : ¬ a = b := fun h => by subst h; omega
   have : q = false := by cases q with | false => rfl | true => exact absurd (hq.1 rfl) hne
   rw [this]
end Go.Proofs.Ytmldeejaghflnaa

/-
 Plain Lean: what a frame's bytes say,read again; what frame.Take tells.
-/
namespace Go.Proofs.Ytmldeejaghflnaa
def rdC (b : List UInt8) : Clk × Bool :=
 match numF b with
 | none => (⟨0,0,0,0,0⟩,false)
 | some (n0,k0) => match numF (b.drop k0) with
   | none => (⟨n0,0,0,0,0⟩,false)
   | some (n1,k1) => match numF ((b.drop k0).drop k1) with
     | none => (⟨n0,n1,0,0,0⟩,false)
     | some (n2,k2) => match numF (((b.drop k0).drop k1).drop k2) with
       | none => (⟨n0,n1,n2,0,0⟩,false)
       | some (n3,k3) => match numF ((((b.drop k0).drop k1).drop k2).drop k3) with
         | none => (⟨n0,n1,n2,n3,0⟩,false)
         | some (n4,_) => (⟨n0,n1,n2,n3,n4⟩,true)
def rc0 : Rc := ⟨0,0,0,clk0,[]⟩
def rdB (k r : Int) (t : List UInt8) : Rc × Bool :=
 if k = 1 ∨ k = 4 then (match evsF t with | none => (⟨k,r,0,clk0,[]⟩,false) | some l => (⟨k,r,0,clk0,l⟩,true))
 else if k = 2 then (match numF t with | none => (⟨k,r,0,clk0,[]⟩,false) | some (n,_) => (⟨k,r,n,clk0,[]⟩,true))
 else if k = 3 ∨ k = 5 then (⟨k,r,0,(rdC t).1,[]⟩,(rdC t).2)
 else (⟨k,r,0,clk0,[]⟩,false)
def readF (b : List UInt8) : Rc × Bool :=
 if (vtake b).2.2 ≠ 0 ∨ b.length < (vtake b).2.1 + 2 then (rc0,false)
 else rdB ((b.getD (vtake b).2.1 default).toNat : Int) ((b.getD ((vtake b).2.1 + 1) default).toNat : Int) (b.drop ((vtake b).2.1 + 2))
theorem numF_put {n : Nat} (h : n ≤ 1048576) (t : List UInt8) : numF (vput n ++ t) = some (n,(vput n).length) := by
 unfold numF
 rw [vtake_put n t (by omega),if_pos ⟨rfl,h⟩]
theorem evsAt_put (l : List Ev) (h : ∀ e ∈ l,mayE e = 0) (t : List UInt8) : ∀ j,j ≤ l.length → evsAt (evsB l ++ t) j = some (l.take j,evsB (l.drop j) ++ t)
  | 0,_ => by simp [evsAt]
  | j + 1,hj => by
    have ih := evsAt_put l h t j (by omega)
    have e0 : l.drop j = l[j] :: l.drop (j + 1) := List.drop_eq_getElem_cons (by omega)
    have e1 : evsB (l.drop j) ++ t = evBytes l[j] ++ (evsB (l.drop (j + 1)) ++ t) := by
     rw [e0]
     show evBytes l[j] ++ evsB (l.drop (j + 1)) ++ t = _
     rw [List.append_assoc]
    have ht := takeE_put l[j] (h _ (List.getElem_mem _)) (evsB (l.drop (j + 1)) ++ t)
    rw [← e1] at ht
    rw [evsAt_step ih ht,e1,List.drop_left]
    congr 2
    exact List.take_append_getElem (by omega)
theorem evsF_put (l : List Ev) (h : ∀ e ∈ l,mayE e = 0) (hl : l.length ≤ 255) (t : List UInt8) : evsF (UInt8.ofNat l.length :: (evsB l ++ t)) = some l := by
 show (evsAt (evsB l ++ t) (UInt8.ofNat l.length).toNat).map (·.1) = _
 rw [u8_of (by omega),evsAt_put l h t _ (Nat.le_refl _),List.take_length]
 rfl
theorem rdC_put {c0 c1 c2 c3 c4 : Nat} (h0 : c0 ≤ 1048576) (h1 : c1 ≤ 1048576) (h2 : c2 ≤ 1048576) (h3 : c3 ≤ 1048576) (h4 : c4 ≤ 1048576) (t : List UInt8) :
  rdC (vput c0 ++ (vput c1 ++ (vput c2 ++ (vput c3 ++ (vput c4 ++ t))))) = (⟨c0,c1,c2,c3,c4⟩,true) := by
 unfold rdC
 rw [numF_put h0]
 dsimp only
 rw [List.drop_left,numF_put h1]
 dsimp only
 rw [List.drop_left,numF_put h2]
 dsimp only
 rw [List.drop_left,numF_put h3]
 dsimp only
 rw [List.drop_left,numF_put h4]
theorem readF_put (x : Rc) (h : mayF x = true) (n : Nat) (hn : n ≤ 4294967296) (t : List UInt8) : readF (vput n ++ (frBody x ++ t)) = (x,true) := by
 have m := mayF_of h
 obtain ⟨k,r,u,⟨c0,c1,c2,c3,c4⟩,ev⟩ := x
 obtain ⟨mk,mr,mu,mu0,mc0,me0,⟨m0,m1,m2,m3,m4⟩,ml,mone,mev0⟩ := m
 dsimp only at mk mr mu ml m0 m1 m2 m3 m4 mu0 mc0 me0 mev0 mone
 have mev := evOk_may mev0
 obtain ⟨rest,hrest⟩ : ∃ rest,rest = (if shE k then UInt8.ofNat ev.length :: evsB ev else []) ++ (if shU k then vputI u else []) ++ (if shC k then clkB ⟨c0,c1,c2,c3,c4⟩ else []) ++ t := ⟨_,rfl⟩
 have hb : vput n ++ (frBody ⟨k,r,u,⟨c0,c1,c2,c3,c4⟩,ev⟩ ++ t) = vput n ++ ([byteOf k,byteOf r] ++ rest) := by
  rw [hrest]; simp [frBody]
 have g0 : ((vput n ++ ([byteOf k,byteOf r] ++ rest)).getD (vput n).length default) = byteOf k := by
  rw [List.getD,List.getElem?_append_right (Nat.le_refl _),Nat.sub_self]; rfl
 have g1 : ((vput n ++ ([byteOf k,byteOf r] ++ rest)).getD ((vput n).length + 1) default) = byteOf r := by
  rw [List.getD,List.getElem?_append_right (by omega),Nat.add_sub_cancel_left]; rfl
 have g2 : (vput n ++ ([byteOf k,byteOf r] ++ rest)).drop ((vput n).length + 2) = rest := by
  rw [← List.drop_drop,List.drop_left]; rfl
 rw [hb]
 unfold readF
 rw [vtake_put n _ hn]
 rw [if_neg (by simp)]
 dsimp only
 rw [g0,g1,g2,byteOf_nat (by omega) (by omega),byteOf_nat (by omega) (by omega)]
 clear g0 g1 g2 hb
 unfold rdB
 rcases (show (k = 1 ∨ k = 4) ∨ k = 2 ∨ (k = 3 ∨ k = 5) by omega) with hk | hk | hk
 · have hU : shU k = false := by simp [shU]; omega
   have hC : shC k = false := by simp [shC]; omega
   have hE : shE k = true := by simp [shE]; omega
   rw [hU] at mu0 hrest; rw [hC] at mc0 hrest; rw [hE] at hrest
   simp only [Bool.false_eq_true,false_or] at mu0 mc0
   rw [if_pos hk,hrest]
   simp only [if_true,Bool.false_eq_true,if_false,List.append_nil,List.cons_append]
   rw [evsF_put ev (may_mem mev) (by omega)]
   rw [mu0,mc0]
 · have hU : shU k = true := by simp [shU]; omega
   have hC : shC k = false := by simp [shC]; omega
   have hE : shE k = false := by simp [shE]; omega
   rw [hU] at hrest; rw [hC] at mc0 hrest; rw [hE] at me0 hrest
   simp only [Bool.false_eq_true,false_or] at me0 mc0
   obtain ⟨un,rfl,hun⟩ := okN_of mu
   rw [if_neg (by omega),if_pos hk,hrest]
   simp only [if_true,Bool.false_eq_true,if_false,List.append_nil,List.nil_append]
   rw [vputI_nat,numF_put hun]
   dsimp only
   rw [List.eq_nil_of_length_eq_zero me0,mc0]
 · have hU : shU k = false := by simp [shU]; omega
   have hC : shC k = true := by simp [shC]; omega
   have hE : shE k = false := by simp [shE]; omega
   rw [hU] at mu0 hrest; rw [hC] at hrest; rw [hE] at me0 hrest
   simp only [Bool.false_eq_true,false_or] at mu0 me0
   obtain ⟨c0,rfl,hc0⟩ := okN_of m0
   obtain ⟨c1,rfl,hc1⟩ := okN_of m1
   obtain ⟨c2,rfl,hc2⟩ := okN_of m2
   obtain ⟨c3,rfl,hc3⟩ := okN_of m3
   obtain ⟨c4,rfl,hc4⟩ := okN_of m4
   rw [if_neg (by omega),if_neg (by omega),if_pos hk,hrest]
   simp only [if_true,Bool.false_eq_true,if_false,List.append_nil,List.nil_append,clkB,vputI_nat,List.append_assoc]
   rw [rdC_put hc0 hc1 hc2 hc3 hc4]
   dsimp only
   rw [List.eq_nil_of_length_eq_zero me0,mu0]
instance (l : List UInt8) : Decidable (okSeal l) := inferInstanceAs (Decidable (_ ∧ _))
def inner (l : List UInt8) : List UInt8 := l.take (l.length - 4)
theorem inner_seal (m : List UInt8) : inner (sealB m) = m := by
 unfold inner
 rw [sealB_len,Nat.add_sub_cancel]
 simp [sealB]
theorem ok_seal (m : List UInt8) : okSeal (sealB m) := by
 refine ⟨by rw [sealB_len]; omega,?_⟩
 have := inner_seal m
 unfold inner at this
 rw [this]
theorem ok_inner {l : List UInt8} (h : okSeal l) : l = sealB (inner l) := h.2
def takeF (l : List UInt8) : Rc × Int :=
 if 2048 < l.length then (rc0,5) else if okSeal l then
  if (readF (inner l)).2 = true ∧ mayF (readF (inner l)).1 = true ∧ frBytes (readF (inner l)).1 = l then ((readF (inner l)).1,0) else (rc0,3)
 else (rc0,4)
theorem frBody_len (x : Rc) (h : mayF x = true) : 2 ≤ (frBody x).length ∧ (frBody x).length ≤ 1000 := by
 have m := mayF_of h
 have hv (n : Nat) : (vput n).length ≤ 10 := vputF_le 9 _
 have hvi (n : Int) : (vputI n).length ≤ 10 := hv _
 have he := evsB_len (may_mem (evOk_may m.ev))
 have hl := m.l
 have e1 : (frBody x).length = 2 + (if shE x.k then 1 + (evsB x.ev).length else 0) + (if shU x.k then (vputI x.u).length else 0) + (if shC x.k then (clkB x.c).length else 0) := by
  unfold frBody
  simp only [List.length_append]
  congr 1
  · congr 1
    · congr 1
      split <;> simp
      omega
    · split <;> rfl
  · split <;> rfl
 have hc : (clkB x.c).length ≤ 50 := by
  have := hvi x.c.c0; have := hvi x.c.c1; have := hvi x.c.c2; have := hvi x.c.c3; have := hvi x.c.c4
  unfold clkB
  simp only [List.length_append]
  omega
 have := hvi x.u
 rw [e1]
 refine ⟨by omega,?_⟩
 split <;> split <;> split <;> omega
theorem frBytes_max (x : Rc) (h : mayF x = true) : (frBytes x).length ≤ 2048 := by
 have := frBody_len x h
 have hv : (vput (frBody x).length).length ≤ 10 := vputF_le 9 _
 unfold frBytes
 rw [sealB_len,List.length_append]
 omega
theorem takeF_put (x : Rc) (h : mayF x = true) : takeF (frBytes x) = (x,0) := by
 have hb := frBody_len x h
 have hr := readF_put x h (frBody x).length (by omega) []
 rw [List.append_nil] at hr
 have hi : inner (frBytes x) = vput (frBody x).length ++ frBody x := inner_seal _
 have ho : okSeal (frBytes x) := ok_seal _
 unfold takeF
 rw [if_neg (by have := frBytes_max x h; omega),if_pos ho,hi,hr,if_pos ⟨rfl,h,rfl⟩]
theorem takeF_ways (l : List UInt8) (h : l.length ≤ 2048) : (∃ z,takeF l = (z,0) ∧ mayF z = true ∧ frBytes z = l) ∨ takeF l = (rc0,3) ∨ takeF l = (rc0,4) := by
 unfold takeF
 rw [if_neg (by omega)]
 split
 · split
   · rename_i h1
     exact .inl ⟨_,rfl,h1.2.1,h1.2.2⟩
   · exact .inr (.inl rfl)
 · exact .inr (.inr rfl)
end Go.Proofs.Ytmldeejaghflnaa

/-
 Small lemmas for the walks of frames and records.
-/
namespace Go.Proofs.Ytmldeejaghflnaa
open Go.RowKit
theorem AEq.nilEvT {a1 a2 a3 a4 a5 a6 a7 a8 b : AV} (f : Nat → List AV) : AEq (.tup [.agg [a1,a2,a3,a4,a5,a6,a7,a8, .v (.slice none 0 0)],b]) (.tup [.agg [a1,a2,a3,a4,a5,a6,a7,a8, .sl 12 0 true f],b]) := by
 rintro X u ⟨us,e,ha⟩
 exact ⟨us,e,ha.hd fun u hu => C1.nilEv hu⟩
theorem numF_le {b : List UInt8} {m k : Nat} (h : numF b = some (m,k)) : k ≤ b.length ∧ m ≤ 1048576 := by
 have hle := vtake_le b
 unfold numF at h
 split at h
 · rename_i h0
   simp only [Option.some.injEq,Prod.mk.injEq] at h
   omega
 · cases h
theorem ASpec.res {P : Program} {f : FuncId} {avs : List AV} {r r' : AV} {h : List (Nat × AO)} (hs : ASpec P f avs r h) (hr : AEq r r') : ASpec P f avs r' h :=
 ⟨hs.1,fun w keep args hk ha => (hs.2 w keep args hk ha).mono fun _ _ ⟨u,ρ,h1,h2,h3,h4⟩ => ⟨u,ρ,h1,h2,hr _ _ h3,h4⟩⟩
end Go.Proofs.Ytmldeejaghflnaa

/-
 Plain Lean: what a record's bytes say,read again; records one behind the other.
-/
namespace Go.Proofs.Ytmldeejaghflnaa
instance : Inhabited Rc := ⟨rc0⟩
def listF (b : List UInt8) : Option (List Ev) := match numF b with
  | none => none
  | some (m,k) => if 4096 < m then none else (evsAt (b.drop k) m).map (·.1)
def rdRn (k r : Int) (t : List UInt8) : Rc × Bool := match numF t with
  | none => (⟨k,r,0,clk0,[]⟩,false)
  | some (n,_) => (⟨k,r,n,clk0,[]⟩,true)
def rdRl (k r u : Int) (t : List UInt8) : Rc × Bool := match listF t with
  | none => (⟨k,r,u,clk0,[]⟩,false)
  | some l => (⟨k,r,u,clk0,l⟩,true)
def rdR (k r : Int) (t : List UInt8) : Rc × Bool :=
 if k = 1 ∨ k = 2 ∨ k = 5 then rdRl k r 0 t
 else if k = 3 then rdRn k r t
 else if k = 4 then (match numF t with | none => (⟨k,r,0,clk0,[]⟩,false) | some (n,j) => rdRl k r n (t.drop j))
 else if k = 6 then (⟨k,r,0,(rdC t).1,[]⟩,(rdC t).2)
 else (⟨k,r,0,clk0,[]⟩,false)
def readR (b : List UInt8) : Rc × Bool :=
 if b.length < 2 then (rc0,false) else rdR ((b.getD 0 default).toNat : Int) ((b.getD 1 default).toNat : Int) (b.drop 2)
theorem listF_put (l : List Ev) (h : ∀ e ∈ l,mayE e = 0) (hl : l.length ≤ 4096) (t : List UInt8) : listF (vput l.length ++ (evsB l ++ t)) = some l := by
 unfold listF
 rw [numF_put (by omega)]
 dsimp only
 rw [if_neg (by omega),List.drop_left,evsAt_put l h t _ (Nat.le_refl _),List.take_length]
 rfl
theorem readR_put (x : Rc) (h : mayR x = true) (t : List UInt8) : readR (rcBody x ++ t) = (x,true) := by
 have m := mayR_of h
 obtain ⟨k,r,u,⟨c0,c1,c2,c3,c4⟩,ev⟩ := x
 obtain ⟨mk,mr,mu,ml,⟨m0,m1,m2,m3,m4⟩,mu0,mc0,me0,mev,mone⟩ := m
 dsimp only at mk mr mu ml m0 m1 m2 m3 m4 mu0 mc0 me0 mev mone
 obtain ⟨rest,hrest⟩ : ∃ rest,rest = (if rcU k then vputI u else []) ++ (if rcC k then clkB ⟨c0,c1,c2,c3,c4⟩ else []) ++ (if rcE k then vput ev.length ++ evsB ev else []) ++ t := ⟨_,rfl⟩
 have hb : rcBody ⟨k,r,u,⟨c0,c1,c2,c3,c4⟩,ev⟩ ++ t = byteOf k :: byteOf r :: rest := by
  rw [hrest]; simp [rcBody]
 rw [hb]
 unfold readR
 rw [if_neg (by simp)]
 rw [show (byteOf k :: byteOf r :: rest).getD 0 default = byteOf k from rfl,show (byteOf k :: byteOf r :: rest).getD 1 default = byteOf r from rfl,show (byteOf k :: byteOf r :: rest).drop 2 = rest from rfl,byteOf_nat (by omega) (by omega),byteOf_nat (by omega) (by omega)]
 clear hb
 unfold rdR
 rcases (show (k = 1 ∨ k = 2 ∨ k = 5) ∨ k = 3 ∨ k = 4 ∨ k = 6 by omega) with hk | hk | hk | hk
 · have hU : rcU k = false := by simp [rcU]; omega
   have hC : rcC k = false := by simp [rcC]; omega
   have hE : rcE k = true := by simp [rcE]; omega
   rw [hU] at mu0 hrest; rw [hC] at mc0 hrest; rw [hE] at hrest
   simp only [Bool.false_eq_true,false_or] at mu0 mc0
   rw [if_pos hk,hrest]
   simp only [if_true,Bool.false_eq_true,if_false,List.nil_append,List.append_assoc]
   unfold rdRl
   rw [listF_put ev (may_mem mev) ml t]
   dsimp only
   rw [mu0,mc0]
 · have hU : rcU k = true := by simp [rcU]; omega
   have hC : rcC k = false := by simp [rcC]; omega
   have hE : rcE k = false := by simp [rcE]; omega
   rw [hU] at hrest; rw [hC] at mc0 hrest; rw [hE] at me0 hrest
   simp only [Bool.false_eq_true,false_or] at me0 mc0
   obtain ⟨un,rfl,hun⟩ := okN_of mu
   rw [if_neg (by omega),if_pos hk,hrest]
   simp only [if_true,Bool.false_eq_true,if_false,List.append_nil]
   unfold rdRn
   rw [vputI_nat,numF_put hun]
   dsimp only
   rw [List.eq_nil_of_length_eq_zero me0,mc0]
 · have hU : rcU k = true := by simp [rcU]; omega
   have hC : rcC k = false := by simp [rcC]; omega
   have hE : rcE k = true := by simp [rcE]; omega
   rw [hU] at hrest; rw [hC] at mc0 hrest; rw [hE] at hrest
   simp only [Bool.false_eq_true,false_or] at mc0
   obtain ⟨un,rfl,hun⟩ := okN_of mu
   rw [if_neg (by omega),if_neg (by omega),if_pos hk,hrest]
   simp only [if_true,Bool.false_eq_true,if_false,List.append_nil,List.append_assoc]
   rw [vputI_nat,numF_put hun]
   dsimp only
   rw [List.drop_left]
   unfold rdRl
   rw [listF_put ev (may_mem mev) ml t]
   dsimp only
   rw [mc0]
 · have hU : rcU k = false := by simp [rcU]; omega
   have hC : rcC k = true := by simp [rcC]; omega
   have hE : rcE k = false := by simp [rcE]; omega
   rw [hU] at mu0 hrest; rw [hC] at hrest; rw [hE] at me0 hrest
   simp only [Bool.false_eq_true,false_or] at mu0 me0
   obtain ⟨c0,rfl,hc0⟩ := okN_of m0
   obtain ⟨c1,rfl,hc1⟩ := okN_of m1
   obtain ⟨c2,rfl,hc2⟩ := okN_of m2
   obtain ⟨c3,rfl,hc3⟩ := okN_of m3
   obtain ⟨c4,rfl,hc4⟩ := okN_of m4
   rw [if_neg (by omega),if_neg (by omega),if_neg (by omega),if_pos hk,hrest]
   simp only [if_true,Bool.false_eq_true,if_false,List.nil_append,clkB,vputI_nat,List.append_assoc]
   rw [rdC_put hc0 hc1 hc2 hc3 hc4]
   dsimp only
   rw [List.eq_nil_of_length_eq_zero me0,mu0]
def firstF (b : List UInt8) : Option (Rc × Nat) :=
 if (vtake b).2.2 ≠ 0 ∨ b.length - (vtake b).2.1 < (vtake b).1 then none
 else if okSeal ((b.drop (vtake b).2.1).take (vtake b).1) then
  if (readR (inner ((b.drop (vtake b).2.1).take (vtake b).1))).2 = true ∧ mayR (readR (inner ((b.drop (vtake b).2.1).take (vtake b).1))).1 = true ∧ rcBytes (readR (inner ((b.drop (vtake b).2.1).take (vtake b).1))).1 = b.take ((vtake b).2.1 + (vtake b).1)
  then some ((readR (inner ((b.drop (vtake b).2.1).take (vtake b).1))).1,(vtake b).2.1 + (vtake b).1) else none
 else none
theorem rcBody_len (x : Rc) (h : mayR x = true) : 2 ≤ (rcBody x).length ∧ (rcBody x).length ≤ 200000 := by
 have m := mayR_of h
 have hv (n : Nat) : (vput n).length ≤ 10 := vputF_le 9 _
 have hvi (n : Int) : (vputI n).length ≤ 10 := hv _
 have he := evsB_len (may_mem m.ev)
 have hl := m.l
 have e1 : (rcBody x).length = 2 + (if rcU x.k then (vputI x.u).length else 0) + (if rcC x.k then (clkB x.c).length else 0) + (if rcE x.k then (vput x.ev.length).length + (evsB x.ev).length else 0) := by
  unfold rcBody
  simp only [List.length_append]
  congr 1
  · congr 1
    · congr 1
      split <;> rfl
    · split <;> rfl
  · split
    · rw [List.length_append]
    · rfl
 have hc : (clkB x.c).length ≤ 50 := by
  have := hvi x.c.c0; have := hvi x.c.c1; have := hvi x.c.c2; have := hvi x.c.c3; have := hvi x.c.c4
  unfold clkB
  simp only [List.length_append]
  omega
 have := hvi x.u
 have := hv x.ev.length
 rw [e1]
 refine ⟨by omega,?_⟩
 split <;> split <;> split <;> omega
theorem rcBytes_max (x : Rc) (h : mayR x = true) : (rcBytes x).length ≤ 200100 := by
 have := rcBody_len x h
 have hv : (vput (sealB (rcBody x)).length).length ≤ 10 := vputF_le 9 _
 unfold rcBytes
 rw [List.length_append,sealB_len]
 rw [sealB_len] at hv
 omega
theorem firstF_put (x : Rc) (h : mayR x = true) (t : List UInt8) : firstF (rcBytes x ++ t) = some (x,(rcBytes x).length) := by
 have hb := rcBody_len x h
 have hs := sealB_len (rcBody x)
 have hr := readR_put x h []
 rw [List.append_nil] at hr
 have e : rcBytes x ++ t = vput (sealB (rcBody x)).length ++ (sealB (rcBody x) ++ t) := by unfold rcBytes; rw [List.append_assoc]
 have hv := vtake_put (sealB (rcBody x)).length (sealB (rcBody x) ++ t) (by omega)
 have hl : (rcBytes x).length = (vput (sealB (rcBody x)).length).length + (sealB (rcBody x)).length := by unfold rcBytes; rw [List.length_append]
 unfold firstF
 rw [e,hv,List.drop_left,List.take_left,if_neg (by simp),if_pos (ok_seal _),inner_seal,hr,if_pos ⟨rfl,h,by rw [← e,← hl,List.take_left]⟩,hl]
def rcsB (l : List Rc) : List UInt8 := l.flatMap rcBytes
structure Recs (b : List UInt8) (l : List Rc) (t : List UInt8) : Prop where
 may : ∀ r ∈ l,mayR r = true
 eq : b = rcsB l ++ t
 no : firstF t = none
theorem rcsB_snoc (l : List Rc) (x : Rc) : rcsB (l ++ [x]) = rcsB l ++ rcBytes x := by simp [rcsB]
theorem recs_step {b : List UInt8} {l : List Rc} {t : List UInt8} (h : Recs b l t) (j : Nat) (hj : j < l.length) : firstF (b.drop (rcsB (l.take j)).length) = some (l.getD j default,(rcBytes (l.getD j default)).length) := by
 have e : l = l.take j ++ l.getD j default :: l.drop (j + 1) := by
  rw [List.getD,List.getElem?_eq_getElem hj]
  simp
 have e2 : b = rcsB (l.take j) ++ (rcBytes (l.getD j default) ++ (rcsB (l.drop (j + 1)) ++ t)) := by
  rw [h.eq]
  conv => lhs; rw [e]
  simp [rcsB]
 rw [e2,List.drop_left]
 refine firstF_put _ (h.may _ ?_) _
 rw [List.getD,List.getElem?_eq_getElem hj]
 exact List.getElem_mem hj
theorem recs_end {b : List UInt8} {l : List Rc} {t : List UInt8} (h : Recs b l t) : firstF (b.drop (rcsB l).length) = none := by
 rw [h.eq,List.drop_left]
 exact h.no
theorem recs_take {l : List Rc} {j : Nat} (hj : j < l.length) : rcsB (l.take (j + 1)) = rcsB (l.take j) ++ rcBytes (l.getD j default) := by
 have : l.take (j + 1) = l.take j ++ [l.getD j default] := by
  rw [List.getD,List.getElem?_eq_getElem hj]
  simp
 rw [this,rcsB_snoc]
end Go.Proofs.Ytmldeejaghflnaa
