/-
  Contracts of the walk: AmUse, Plain, BkPlain, BkA, BkB, BkC, BkD.
-/
import Derived.Test.YtkkpfjifkjbndaaGreatLBnd4
import Derived.Test.YtkkpfjifkjbndaaGreatLBnd5
/-
 How the abstract machine is used: small lemmas for the ends of its ways,contracts that are known already. (This file joins 2 texts.)
-/
namespace Go.Proofs.YtkkpfjifkjbndaaGreat
open Go.RowKit
theorem ARet.int {st : AS} {x : AV} {k : IntKind} {n m : Int} (hx : see2 st.heap x = .v (.int k n)) (h : n = m) : ARet st x (.v (.int k m)) [] := .plain _ (by rw [hx,h]; exact AEq.refl _)
theorem ARet.bool {st : AS} {x : AV} {b c : Bool} (hx : see2 st.heap x = .v (.bool b)) (h : b = c) : ARet st x (.v (.bool c)) [] := .plain _ (by rw [hx,h]; exact AEq.refl _)
theorem ARet.same {st : AS} {x r : AV} (hx : see2 st.heap x = r) : ARet st x r [] := .plain _ (by rw [hx]; exact AEq.refl _)
def ownOf0 : AV → Option Nat
  | .own i => some i
  | _ => none
def ownL : List AV → Option Nat
  | [] => none
  | x :: l => match ownOf0 x with | some i => some i | none => ownL l
def ownOf : AV → Option Nat
  | .own i => some i
  | .agg cs => ownL cs
  | .tup vs => ownL vs
  | _ => none
theorem ARet.ownX {st : AS} {x r : AV} (d : Nat) {id : Nat} {e : TypeId} {s n : Nat} {sc : Bool} {f : Nat → List AV} {o' : AO} (_hid : ownOf x = some id) (hf : findObj id st.heap = some (.row e s n sc f)) (ho : OEq (.row e s n sc f) o') (hr : AEq (ret2 st.heap id d x) r) : ARet st x r [(d,o')] :=
 .own id d r e s n sc f o' hf ho hr
def addN (k i : Nat) (σ : List (Nat × Nat)) : List (Nat × Nat) := bif tgtB σ i then σ else (k,i) :: σ
def autoC : List AV → List AV → List (Nat × Nat) → List (Nat × Nat)
  | .own k :: xs, .own i :: ys,σ => autoC xs ys (addN k i σ)
  | _ :: xs,_ :: ys,σ => autoC xs ys σ
  | _,_,σ => σ
def autoS (st : AS) : List (Nat × AV) → List (Nat × Nat) → List (Nat × Nat)
  | [],σ => σ
  | (t, .own i) :: l,σ => autoS st l (match ofL st.sl t with | .own k => addN k i σ | _ => σ)
  | (t, .box i _) :: l,σ => autoS st l (match ofL st.sl t with | .box k _ => addN k i σ | _ => σ)
  | _ :: l,σ => autoS st l σ
def backN (i : Nat) : List (Nat × Nat) → Nat
  | [] => i
  | (k,j) :: r => bif Nat.beq i j then k else backN i r
def autoH (st : AS) : List (Nat × AO) → List (Nat × Nat) → List (Nat × Nat)
  | [],σ => σ
  | (i, .box _ ys) :: l,σ => autoH st l (match findObj (backN i σ) st.heap with | some (.box _ xs) => autoC xs ys σ | _ => σ)
  | _ :: l,σ => autoH st l σ
def autoN (st : AS) (l : List (Nat × AV)) (h : List (Nat × AO)) : List (Nat × Nat) := autoH st h (autoS st l [])
theorem LeR.mk' {st : AS} (σ : List (Nat × Nat)) (l : List (Nat × AV)) (h : List (Nat × AO)) (b : Nat) (nd : nodupB (σ.map (·.2)) = true) (ht : LeT (st.ren σ) l) (hh : LeH (st.ren σ) h) (hn : nodupB (h.map (·.1)) = true) : LeR σ st ⟨l,h,(st.ren σ).back,b⟩ :=
 ⟨nd,let k := LeS.mk' l h ht hh hn; ⟨k.tm,k.hp,k.nd,k.bk⟩⟩
theorem ARet.hd {st : AS} {x r : AV} (h : hd2 (see2 st.heap x) (fun y => AEq y r)) : ARet st x r [] := .plain _ (by rw [hd2_eq] at h; exact h)
structure AEqI (x y : AV) : Prop where
 h : AEq x y
theorem ARet.hdI {st : AS} {x r : AV} (h : hd2 (see2 st.heap x) (fun y => AEqI y r)) : ARet st x r [] := .plain _ (by rw [hd2_eq] at h; exact h.h)
theorem AEq.int {k : IntKind} {n m : Int} (h : n = m) : AEq (.v (.int k n)) (.v (.int k m)) := by rw [h]; exact AEq.refl _
theorem AEq.str {x y : ByteArray} (h : x = y) : AEq (.v (.string x)) (.v (.string y)) := by rw [h]; exact AEq.refl _
theorem AEq.of {x y : AV} (h : x = y) : AEq x y := by rw [h]; exact AEq.refl _
theorem AEq.sl {s n n' : Nat} {sc : Bool} {f f' : Nat → List AV} (hn : n = n') (hf : ∀ i,i < n → f i = f' i) : AEq (.sl s n sc f) (.sl s n' sc f') := by
 subst hn
 intro X u h
 cases C2.inv_sl h with
 | sl _ _ _ _ A c us hs0 hnc hcc hl hfl hsc hu' hr =>
  rw [flat_congr hf] at hsc hu'
  exact .sl s n sc f' A c us hs0 hnc hcc hl (fun i hi => by rw [← hf i hi]; exact hfl i hi) hsc hu' hr
theorem OEq.row {e : TypeId} {s n n' : Nat} {sc : Bool} {f f' : Nat → List AV} (hn : n = n') (hf : ∀ i,i < n → f i = f' i) : OEq (.row e s n sc f) (.row e s n' sc f') := by
 subst hn
 rintro X id ⟨us,hown,hs,hfl,hsc,ha⟩
 rw [flat_congr hf] at hsc ha
 exact ⟨us,hown,hs,fun i hi => by rw [← hf i hi]; exact hfl i hi,hsc,ha⟩
theorem Wr.b64 {b : UInt8} {K : Int → Prop} (h : K (b.toNat : Int)) : Wr (b.toNat : Int) K .i64 := by have := UInt8.toNat_lt b; exact .i64 (by omega) (by omega) h
theorem Wr.bu64 {b : UInt8} {K : Int → Prop} (h : K (b.toNat : Int)) : Wr (b.toNat : Int) K .u64 := by have := UInt8.toNat_lt b; exact .u64 (by omega) (by omega) h
theorem Wr.bu32 {b : UInt8} {K : Int → Prop} (h : K (b.toNat : Int)) : Wr (b.toNat : Int) K .u32 := by have := UInt8.toNat_lt b; exact .u32 (by omega) (by omega) h
theorem Wr.bu8 {b : UInt8} {K : Int → Prop} (h : K (b.toNat : Int)) : Wr (b.toNat : Int) K .u8 := by have := UInt8.toNat_lt b; exact .u8 (by omega) (by omega) h
def elsF {α : Type} [Inhabited α] (c : α → List AV) (l : List α) : Nat → List AV := fun i => c (l.getD i default)
theorem els_app {α : Type} [Inhabited α] {c : α → List AV} {l l' : List α} {n : Nat} (hn : n = l.length) : ∀ i,appF n (elsF c l) (elsF c l') i = elsF c (l ++ l') i := by
 intro i
 subst hn
 unfold appF elsF
 cases hb : Nat.ble l.length i with
 | true =>
  have := Nat.le_of_ble_eq_true hb
  simp only [cond_true]
  congr 1
  rw [List.getD,List.getD,List.getElem?_append_right this]
 | false =>
  have : i < l.length := Nat.lt_of_not_le fun h => by rw [Nat.ble_eq_true_of_le h] at hb; cases hb
  simp only [cond_false]
  congr 1
  rw [List.getD,List.getD,List.getElem?_append_left this]
theorem els_app1 {α : Type} [Inhabited α] {c : α → List AV} {l : List α} {x : α} {g : Nat → List AV} {n : Nat} (hn : n = l.length) (hg : g 0 = c x) : ∀ i,i < n + 1 → appF n (elsF c l) g i = elsF c (l ++ [x]) i := by
 intro i hi
 rw [← els_app hn]
 unfold appF
 cases hb : Nat.ble n i with
 | true =>
  have := Nat.le_of_ble_eq_true hb
  have e : i - n = 0 := by omega
  simp only [cond_true,e,hg]
  rfl
 | false => rfl
def bC (b : UInt8) : List AV := [.v (.int .u8 (b.toNat : Int))]
abbrev bytesF (bs : List UInt8) : Nat → List AV := elsF bC bs
def byteOf' (n : Int) : UInt8 := UInt8.ofNat n.toNat
theorem byteOf'_nat {n : Int} (h0 : 0 ≤ n) (h1 : n ≤ 255) : ((byteOf' n).toNat : Int) = n := by
 unfold byteOf'
 rw [UInt8.toNat_ofNat',Nat.mod_eq_of_lt (by omega)]
 omega
def IsB (F : Nat → List AV) (l : List UInt8) : Prop := ∀ i,i < l.length → F i = bytesF l i
theorem IsB.bytes (l : List UInt8) : IsB (bytesF l) l := fun _ _ => rfl
theorem IsB.str (s : ByteArray) : IsB (fun i => [.v (.int .u8 ((s.data.toList.getD i 0).toNat : Int))]) s.data.toList := fun _ _ => rfl
theorem IsB.nil (F : Nat → List AV) : IsB F [] := fun i h => absurd h (by simp)
theorem IsB.app {F G : Nat → List AV} {l l' : List UInt8} {n : Nat} (h : IsB F l) (h' : IsB G l') (hn : n = l.length) : IsB (appF n F G) (l ++ l') := by
 intro i hi
 rw [List.length_append] at hi
 show _ = elsF bC (l ++ l') i
 rw [← els_app hn]
 unfold appF
 cases hb : Nat.ble n i with
 | true =>
  have := Nat.le_of_ble_eq_true hb
  exact h' (i - n) (by omega)
 | false =>
  have : i < n := Nat.lt_of_not_le fun h => by rw [Nat.ble_eq_true_of_le h] at hb; cases hb
  exact h i (by omega)
theorem IsB.one {x : Int} (h0 : 0 ≤ x) (h1 : x ≤ 255) : IsB (chunk 1 [.v (.int .u8 x)]) [byteOf' x] := by
 intro i hi
 have e : i = 0 := by simpa using hi
 subst e
 show [AV.v (.int .u8 x)] = [AV.v (.int .u8 ((byteOf' x).toNat : Int))]
 rw [byteOf'_nat h0 h1]
theorem IsB.two {x y : Int} (h0 : 0 ≤ x) (h1 : x ≤ 255) (k0 : 0 ≤ y) (k1 : y ≤ 255) : IsB (chunk 1 [.v (.int .u8 x), .v (.int .u8 y)]) [byteOf' x,byteOf' y] := by
 intro i hi
 have e : i = 0 ∨ i = 1 := by simp at hi; omega
 rcases e with rfl | rfl
 · show [AV.v (.int .u8 x)] = [AV.v (.int .u8 ((byteOf' x).toNat : Int))]
   rw [byteOf'_nat h0 h1]
 · show [AV.v (.int .u8 y)] = [AV.v (.int .u8 ((byteOf' y).toNat : Int))]
   rw [byteOf'_nat k0 k1]
theorem str_len (s : ByteArray) : s.data.toList.length = s.size := rfl
theorem ACall.into {P : Program} {L : Lay} {n : Nat} {f : FuncId} {avs : List AV} {st : AS} {K : AV → AS → Prop} {d : Nat} (lv : Nat) (fn : Func) (c : Code) (hf : P.funcs[f]? = some fn) (hn : (fn.name == "runtime.NumGoroutine") = false) (hb : fn.body = some c) (hsz : Nat.ble avs.length fn.ntmps = true)
  (h : intoK st avs (awpS P L (awp P L n) fn.ntmps lv c (fun e st' => match e with | .exit _ => False | .normal => ares L st' fn.results.toList (fun x => nrmA (st'.out) (K x)) | .ret => ares L st' fn.results.toList (fun x => nrmA (st'.out) (K x))))) : ACall P L (awp P L (n + 1)) d f avs st K :=
 .inl lv fn c hf hn hb hsz h
theorem spec_plain {P : Program} {f : FuncId} {xs : List Value} {r : Value} (he : Enters P f) (h : ∀ w,Calls P f xs.toArray w fun e w' => e = .returned r ∧ Below w.heap.size w w') : ASpec P f (xs.map .v) (.v r) [] := by
 refine ⟨he,fun w keep args _ hargs => ?_⟩
 have e : args = xs := spec_args hargs
 subst e
 exact (h w).mono fun e w' ⟨h1,h2⟩ => ⟨r,fun _ => undef,h1,h2,rfl,(fun p hp => by cases hp),by simp [blocksOf],(fun b hb => by simp [blocksOf] at hb)⟩
where
 spec_args {X : CX} : ∀ {xs us : List Value},All2 (C1 X) (xs.map .v) us → us = xs
   | [],us,h => by
    have := h.1
    simp at this
    exact List.eq_nil_of_length_eq_zero this.symm
   | x :: xs,[],h => by have := h.1; simp at this
   | x :: xs,u :: us,h => by
    have h0 : u = x := h.2 0 _ _ rfl rfl
    have := spec_args (xs := xs) (us := us) ⟨by simpa using h.1,fun i a b ha hb => h.2 (i + 1) a b (by simpa using ha) (by simpa using hb)⟩
    rw [h0,this]
end Go.Proofs.YtkkpfjifkjbndaaGreat
namespace Go.Proofs.YtkkpfjifkjbndaaGreat
open Go.RowKit
theorem ASpec.thaw {P : Program} {f : FuncId} {avs : List AV} {r : AV} {d : Nat} {e : TypeId} {s n : Nat} {sc : Bool} {g : Nat → List AV} (hs : ASpec P f avs r [(d, .row e s n sc g)]) : ASpec P f avs (thaw2 d (.sl s n sc g) r) [] := by
 refine ⟨hs.1,fun w keep args hk ha => (hs.2 w keep args hk ha).mono ?_⟩
 rintro e0 w' ⟨u,ρ,h1,h2,h3,h4,h5,h6⟩
 obtain ⟨us,hown,hs0,hfl,hsc,hall⟩ := h4 _ (List.mem_singleton.2 rfl)
 have hown : w'.ownsRow 0 e s (ρ d) n us := hown
 have hall : All2 (PC w' (keepOf (base0 w keep) w' ρ [(d, .row e s n sc g)])) (flat n g) us := hall
 have hkk : ∀ b,keepOf (base0 w keep) w' ρ [(d, .row e s n sc g)] b → keepOf (base0 w keep) w' ρ [] b := fun b h => ⟨h.1,h.2.1,fun h' => by simp [blocksOf] at h'⟩
 have hrow : PC w' (keepOf (base0 w keep) w' ρ []) (.sl s n sc g) (ρ d) := by
  have ha' := hall.imp fun _ _ => PC.mono hkk (fun _ _ => rfl)
  rcases hown.2 with ⟨hv,hz⟩ | ⟨b,cap,cur,hv,hB,hh,hnc,hcm,_⟩
  · rw [hv]
    subst hz
    exact .sl s 0 sc g none 0 us hs0 (Nat.le_refl _) (by simp [maxLen]) hown.1 hfl hsc ha'.2 (.inl rfl)
  · rw [hv]
    refine .sl s n sc g _ cap us hs0 hnc hcm hown.1 hfl hsc ha'.2 (.inr ⟨b,0,rfl,⟨(Array.getElem?_eq_some_iff.1 hh).1,fun hlt => ?_,fun h' => by simp [blocksOf] at h'⟩,fun j u hj => ?_⟩)
    · have := h6 b (mem_blocks.2 ⟨_,List.mem_singleton.2 rfl,by rw [hv]; exact List.mem_cons_self⟩)
      exact absurd (show b < w.heap.size from hlt) (by omega)
    · have := hown.cells (g := b) (by rw [hv]; rfl) j u hj
      rwa [Addr.add_lit] at this
 exact ⟨u,ρ,h1,h2,C2.thaw (X := cxOf (base0 w keep) w' ρ [(d, .row e s n sc g)]) (Y := cxOf (base0 w keep) w' ρ []) hkk (fun _ _ => rfl) rfl (by show PC _ _ _ (hdV (ρ d)); rw [hdV_own hown]; exact hrow) h3,fun p hp => (by cases hp),by simp [blocksOf],fun b hb => by simp [blocksOf] at hb⟩
theorem ALoop.unr {body : (AExit → AS → Prop) → AS → Prop} {Q : AExit → AS → Prop} {st : AS} (t n : Nat) (_ht : st.tmps t = .v (.int .i64 0)) (h : aunroll body Q n st) : ALoop body Q st := .rounds n h
inductive Ch : List AV → List AV → Prop where
  | nil : Ch [] []
  | same {x : AV} {xs ys : List AV} : Ch xs ys → Ch (x :: xs) (x :: ys)
  | of {x y : AV} {xs ys : List AV} (h : ∀ (X : CX) (u : Value),C1 X x u → C1 X y u) : Ch xs ys → Ch (x :: xs) (y :: ys)
theorem Ch.all {X : CX} : ∀ {xs ys : List AV} {us : List Value},Ch xs ys → All2 (C1 X) xs us → All2 (C1 X) ys us
  | _,_,_, .nil,h => h
  | _,_,[], .same _,h => by have := h.1; simp at this
  | _,_,[], .of _ _,h => by have := h.1; simp at this
  | _,_,u :: us, .same k,h => All2.cons (h.2 0 _ _ rfl rfl) (Ch.all k ⟨by simpa using h.1,fun i a b ha hb => h.2 (i + 1) a b (by simpa using ha) (by simpa using hb)⟩)
  | _,_,u :: us, .of h0 k,h => All2.cons (h0 X u (h.2 0 _ _ rfl rfl)) (Ch.all k ⟨by simpa using h.1,fun i a b ha hb => h.2 (i + 1) a b (by simpa using ha) (by simpa using hb)⟩)
theorem ASpec.args {P : Program} {f : FuncId} {avs bvs : List AV} {r : AV} {h : List (Nat × AO)} (hs : ASpec P f bvs r h) (hc : Ch avs bvs) : ASpec P f avs r h :=
 ⟨hs.1,fun w keep args hk ha => hs.2 w keep args hk (Ch.all hc ha)⟩
end Go.Proofs.YtkkpfjifkjbndaaGreat

/-
 Plain Lean,no program in sight: what an event is,which events may be,and which bytes they are.
-/
namespace Go.Proofs.YtkkpfjifkjbndaaGreat
structure Clk where
 (c0 c1 c2 c3 c4 : Int)
def Clk.get (c : Clk) (r : Int) : Int := if r = 0 then c.c0 else if r = 1 then c.c1 else if r = 2 then c.c2 else if r = 3 then c.c3 else c.c4
structure Ev where
 (r n : Int) (c : Clk) (h k : Int) (key : ByteArray) (l : Int) (v : ByteArray)
structure Ed where
 (k : Int) (key : ByteArray) (l : Int) (v : ByteArray)
def Ev.ed (e : Ev) : Ed := ⟨e.k,e.key,e.l,e.v⟩
def withinB (n a b : Int) : Bool := decide (a ≤ n) && decide (n ≤ b)
def isLong (k : Int) : Bool := k != 1 && k != 2
def hasB (c : Clk) (r n : Int) : Bool := decide (0 ≤ r ∧ r < 5 ∧ 1 ≤ n ∧ n ≤ c.get r)
def belowB (a b : Ev) : Bool := hasB b.c a.r a.n
def lettersB (s : ByteArray) : Bool := s.data.toList.all fun b => decide (97 ≤ b.toNat ∧ b.toNat ≤ 122)
def keyE (s : ByteArray) : Int := if 1 ≤ s.size ∧ s.size ≤ 8 ∧ lettersB s = true then 0 else 10
def labelE (n : Int) : Int := if 0 ≤ n ∧ n < 2 then 0 else 11
def valueE (s : ByteArray) : Int := if 1 ≤ s.size ∧ s.size ≤ 12 then 0 else 12
def editE (e : Ed) : Int :=
 if e.k < 1 ∨ 5 < e.k then 1
 else if keyE e.key ≠ 0 then keyE e.key
 else if e.k = 1 ∨ e.k = 2 then (if e.l ≠ 0 then 11 else if e.v.size ≠ 0 then 12 else 0)
 else if labelE e.l ≠ 0 then labelE e.l
 else valueE e.v
def okN (n : Int) : Bool := withinB n 0 1048576
def mayE (e : Ev) : Int :=
 if !(withinB e.r 0 4 && withinB e.n 1 1048576 && withinB e.h 1 16777216) then 1
 else if !(okN e.c.c0 && okN e.c.c1 && okN e.c.c2 && okN e.c.c3 && okN e.c.c4) then 1
 else if e.c.get e.r != e.n - 1 then 1
 else editE e.ed
def vputF : Nat → Nat → List UInt8
  | 0,n => [UInt8.ofNat n]
  | f + 1,n => if n < 128 then [UInt8.ofNat n] else UInt8.ofNat (n % 128 + 128) :: vputF f (n / 128)
def vput (n : Nat) : List UInt8 := vputF 9 n
def vputI (n : Int) : List UInt8 := vput n.toNat
def others (e : Ev) : List Int :=
 (if e.r ≠ 0 then [e.c.c0] else []) ++ (if e.r ≠ 1 then [e.c.c1] else []) ++ (if e.r ≠ 2 then [e.c.c2] else []) ++ (if e.r ≠ 3 then [e.c.c3] else []) ++ (if e.r ≠ 4 then [e.c.c4] else [])
def byteOf (n : Int) : UInt8 := UInt8.ofNat n.toNat
def words (s : ByteArray) : List UInt8 := UInt8.ofNat s.size :: s.data.toList
def evBytes (e : Ev) : List UInt8 :=
 [byteOf e.k,byteOf e.r] ++ vputI e.n ++ (others e).flatMap vputI ++ vputI e.h ++ words e.key ++ (if isLong e.k then byteOf e.l :: words e.v else [])
def evOut (e : Ev) : List UInt8 := if mayE e = 0 then evBytes e else []
end Go.Proofs.YtkkpfjifkjbndaaGreat

/-
 Plain Lean: what a past comes to.
-/
namespace Go.Proofs.YtkkpfjifkjbndaaGreat
def sameK (a b : Ev) : Bool := decide (a.key = b.key)
def sameL (a b : Ev) : Bool := sameK a b && decide (a.l = b.l)
def sameV (a b : Ev) : Bool := sameL a b && decide (a.v = b.v)
def aboveB (k : Int) (same : Ev → Ev → Bool) (l : List Ev) (e : Ev) : Bool := l.any fun a => decide (a.k = k) && (same a e && belowB e a)
def underB (k : Int) (same : Ev → Ev → Bool) (l : List Ev) (e : Ev) : Bool := l.any fun a => decide (a.k = k) && (same a e && belowB a e)
def livesB (l : List Ev) (e : Ev) : Bool := decide (e.k = 1) && !aboveB 2 sameK l e
def livingB (l : List Ev) : List Ev := l.filter (livesB l)
def countB (l cr : List Ev) (e : Ev) : Bool := (decide (e.k = 3) || (decide (e.k = 4) && !aboveB 5 sameV l e)) && underB 1 sameK cr e
def countingB (l cr : List Ev) : List Ev := l.filter (countB l cr)
structure Ct where
 (key : ByteArray) (h0 h1 : Bool) (f0 f1 : ByteArray) (s0 s1 : List ByteArray)
def laterB (l : List Ev) (e : Ev) : Bool := aboveB e.k (if e.k = 4 then sameV else sameL) l e
def sizeB (l : List Ev) : Nat := (livingB l).length + ((countingB l (livingB l)).filter fun e => !laterB l e).length
end Go.Proofs.YtkkpfjifkjbndaaGreat

/-
 What the small functions of book tell of events.
-/
namespace Go.Proofs.YtkkpfjifkjbndaaGreat
open Go.RowKit
instance : Inhabited Ev := ⟨⟨0,0,⟨0,0,0,0,0⟩,0,0,⟨#[]⟩,0,⟨#[]⟩⟩⟩
def Ev.cs (e : Ev) : List AV := [.v (.int .i64 e.r), .v (.int .i64 e.n), .v (.int .i64 e.c.c0), .v (.int .i64 e.c.c1), .v (.int .i64 e.c.c2), .v (.int .i64 e.c.c3), .v (.int .i64 e.c.c4), .v (.int .i64 e.h), .v (.int .i64 e.k), .v (.string e.key), .v (.int .i64 e.l), .v (.string e.v)]
def Ev.av (e : Ev) : AV := .agg e.cs
abbrev evF (l : List Ev) : Nat → List AV := elsF Ev.cs l
def Clk.av (c : Clk) : AV := .agg [.v (.int .i64 c.c0), .v (.int .i64 c.c1), .v (.int .i64 c.c2), .v (.int .i64 c.c3), .v (.int .i64 c.c4)]
theorem has_spec (c : Clk) (r n : Int) : ASpec Tryz.prog 62 [c.av, .v (.int .i64 r), .v (.int .i64 n)] (.v (.bool (hasB c r n))) [] := by
 obtain ⟨c0,c1,c2,c3,c4⟩ := c
 dsimp only [Clk.av]
 by_cases hr : r = 0 ∨ r = 1 ∨ r = 2 ∨ r = 3 ∨ r = 4
 · rcases hr with rfl | rfl | rfl | rfl | rfl
   all_goals
    refine aspec_of lay_ok 79 Tryz.func62 rfl rfl rfl ?_
    repeat' ((conv => whnf); first | refine Spl.yes (by first | assumption | omega) ?_ | refine Spl.no (by first | assumption | omega) ?_ | refine Wr.i64 (by omega) (by omega) ?_ | refine Still.mk rfl rfl ?_ | refine InB.mk (inB_mk (by omega) (by omega)) ?_ | refine Req.mk (by omega) ?_ | refine Req.mk ⟨by first | omega | (dsimp only; omega),by first | omega | (dsimp only; omega)⟩ ?_ | refine ARet.hdI ?_ | refine Spl.mk (fun _ => ?_) (fun _ => ?_) | refine InA.mk (inB_mk (by omega) (by omega)) ?_ | refine Wr.b64 ?_ | refine Wr.bu64 ?_ | refine Wr.bu32 ?_ | refine Wr.bu8 ?_ | refine Wr.u8 (by omega) (by omega) ?_ | refine Wr.u64 (by omega) (by omega) ?_ | refine Wr.u32 (by omega) (by omega) ?_ | refine Dv.pos (by omega) (by omega) ?_ | refine Rm.pos (by omega) (by omega) ?_ | refine ADraw.quiet follows_ok (by kernel_rfl) rfl ?_ | refine BSpl.decY (by first | assumption | omega) ?_ | refine BSpl.decN (by first | assumption | omega) ?_ | refine BSpl.dec (fun _ => ?_) (fun _ => ?_) | refine BSpl.yes (by assumption) ?_ | refine BSpl.no (by assumption) ?_ | refine BSpl.mk (fun _ => ?_) (fun _ => ?_))
    all_goals (conv => whnf)
    all_goals (refine AEqI.mk (AEq.of ?_))
    all_goals simp [hasB,Clk.get, *]
 · have h : ¬ (0 ≤ r ∧ r < 5) := by omega
   refine aspec_of lay_ok 79 Tryz.func62 rfl rfl rfl ?_
   repeat' ((conv => whnf); first | refine Spl.yes (by first | assumption | omega) ?_ | refine Spl.no (by first | assumption | omega) ?_ | refine Wr.i64 (by omega) (by omega) ?_ | refine Still.mk rfl rfl ?_ | refine InB.mk (inB_mk (by omega) (by omega)) ?_ | refine Req.mk (by omega) ?_ | refine Req.mk ⟨by first | omega | (dsimp only; omega),by first | omega | (dsimp only; omega)⟩ ?_ | refine ARet.hdI ?_ | refine Spl.mk (fun _ => ?_) (fun _ => ?_) | refine InA.mk (inB_mk (by omega) (by omega)) ?_ | refine Wr.b64 ?_ | refine Wr.bu64 ?_ | refine Wr.bu32 ?_ | refine Wr.bu8 ?_ | refine Wr.u8 (by omega) (by omega) ?_ | refine Wr.u64 (by omega) (by omega) ?_ | refine Wr.u32 (by omega) (by omega) ?_ | refine Dv.pos (by omega) (by omega) ?_ | refine Rm.pos (by omega) (by omega) ?_ | refine ADraw.quiet follows_ok (by kernel_rfl) rfl ?_ | refine BSpl.decY (by first | assumption | omega) ?_ | refine BSpl.decN (by first | assumption | omega) ?_ | refine BSpl.dec (fun _ => ?_) (fun _ => ?_) | refine BSpl.yes (by assumption) ?_ | refine BSpl.no (by assumption) ?_ | refine BSpl.mk (fun _ => ?_) (fun _ => ?_))
   all_goals (conv => whnf)
   all_goals (refine AEqI.mk (AEq.of ?_))
   all_goals (simp [hasB]; try omega)
theorem below_spec (a b : Ev) : ASpec Tryz.prog 34 [a.av,b.av] (.v (.bool (belowB a b))) [] := by
 have h := has_spec b.c a.r a.n
 obtain ⟨q,hq⟩ : ∃ q,hasB b.c a.r a.n = q := ⟨_,rfl⟩
 rw [hq] at h
 rw [show belowB a b = q from hq]
 dsimp only [Ev.av,Ev.cs,Clk.av] at h ⊢
 refine aspec_of lay_ok 31 Tryz.func34 rfl rfl rfl ?_
 repeat' ((conv => whnf); first | refine Spl.yes (by first | assumption | omega) ?_ | refine Spl.no (by first | assumption | omega) ?_ | refine Wr.i64 (by omega) (by omega) ?_ | refine Still.mk rfl rfl ?_ | refine InB.mk (inB_mk (by omega) (by omega)) ?_ | refine Req.mk (by omega) ?_ | refine Req.mk ⟨by first | omega | (dsimp only; omega),by first | omega | (dsimp only; omega)⟩ ?_ | refine ACall.plain _ _ (h) (SubL.cons (.eq _) (SubL.cons (.eq _) (SubL.cons (.eq _) .nil))) rfl ?_ | refine ARet.hdI ?_ | refine Spl.mk (fun _ => ?_) (fun _ => ?_) | refine InA.mk (inB_mk (by omega) (by omega)) ?_ | refine Wr.b64 ?_ | refine Wr.bu64 ?_ | refine Wr.bu32 ?_ | refine Wr.bu8 ?_ | refine Wr.u8 (by omega) (by omega) ?_ | refine Wr.u64 (by omega) (by omega) ?_ | refine Wr.u32 (by omega) (by omega) ?_ | refine Dv.pos (by omega) (by omega) ?_ | refine Rm.pos (by omega) (by omega) ?_ | refine ADraw.quiet follows_ok (by kernel_rfl) rfl ?_ | refine BSpl.decY (by first | assumption | omega) ?_ | refine BSpl.decN (by first | assumption | omega) ?_ | refine BSpl.dec (fun _ => ?_) (fun _ => ?_) | refine BSpl.yes (by assumption) ?_ | refine BSpl.no (by assumption) ?_ | refine BSpl.mk (fun _ => ?_) (fun _ => ?_))
 all_goals (conv => whnf)
 all_goals (refine AEqI.mk (AEq.of ?_))
 all_goals simp [*]
theorem sameK_spec (a b : Ev) : ASpec Tryz.prog 88 [a.av,b.av] (.v (.bool (sameK a b))) [] := by
 dsimp only [Ev.av,Ev.cs]
 refine aspec_of lay_ok 31 Tryz.func88 rfl rfl rfl ?_
 repeat' ((conv => whnf); first | refine Spl.yes (by first | assumption | omega) ?_ | refine Spl.no (by first | assumption | omega) ?_ | refine Wr.i64 (by omega) (by omega) ?_ | refine Still.mk rfl rfl ?_ | refine InB.mk (inB_mk (by omega) (by omega)) ?_ | refine Req.mk (by omega) ?_ | refine Req.mk ⟨by first | omega | (dsimp only; omega),by first | omega | (dsimp only; omega)⟩ ?_ | refine ARet.hdI ?_ | refine Spl.mk (fun _ => ?_) (fun _ => ?_) | refine InA.mk (inB_mk (by omega) (by omega)) ?_ | refine Wr.b64 ?_ | refine Wr.bu64 ?_ | refine Wr.bu32 ?_ | refine Wr.bu8 ?_ | refine Wr.u8 (by omega) (by omega) ?_ | refine Wr.u64 (by omega) (by omega) ?_ | refine Wr.u32 (by omega) (by omega) ?_ | refine Dv.pos (by omega) (by omega) ?_ | refine Rm.pos (by omega) (by omega) ?_ | refine ADraw.quiet follows_ok (by kernel_rfl) rfl ?_ | refine BSpl.decY (by first | assumption | omega) ?_ | refine BSpl.decN (by first | assumption | omega) ?_ | refine BSpl.dec (fun _ => ?_) (fun _ => ?_) | refine BSpl.yes (by assumption) ?_ | refine BSpl.no (by assumption) ?_ | refine BSpl.mk (fun _ => ?_) (fun _ => ?_))
 all_goals (conv => whnf)
 all_goals (refine AEqI.mk (AEq.of ?_))
 all_goals simp [sameK, *]
theorem sameL_spec (a b : Ev) : ASpec Tryz.prog 110 [a.av,b.av] (.v (.bool (sameL a b))) [] := by
 have h := sameK_spec a b
 obtain ⟨q,hq⟩ : ∃ q,sameK a b = q := ⟨_,rfl⟩
 rw [hq] at h
 rw [show sameL a b = (q && decide (a.l = b.l)) by rw [← hq]; rfl]
 dsimp only [Ev.av,Ev.cs] at h ⊢
 refine aspec_of lay_ok 31 Tryz.func110 rfl rfl rfl ?_
 repeat' ((conv => whnf); first | refine Spl.yes (by first | assumption | omega) ?_ | refine Spl.no (by first | assumption | omega) ?_ | refine Wr.i64 (by omega) (by omega) ?_ | refine Still.mk rfl rfl ?_ | refine InB.mk (inB_mk (by omega) (by omega)) ?_ | refine Req.mk (by omega) ?_ | refine Req.mk ⟨by first | omega | (dsimp only; omega),by first | omega | (dsimp only; omega)⟩ ?_ | refine ACall.plain _ _ (h) (SubL.cons (.eq _) (SubL.cons (.eq _) .nil)) rfl ?_ | refine ARet.hdI ?_ | refine Spl.mk (fun _ => ?_) (fun _ => ?_) | refine InA.mk (inB_mk (by omega) (by omega)) ?_ | refine Wr.b64 ?_ | refine Wr.bu64 ?_ | refine Wr.bu32 ?_ | refine Wr.bu8 ?_ | refine Wr.u8 (by omega) (by omega) ?_ | refine Wr.u64 (by omega) (by omega) ?_ | refine Wr.u32 (by omega) (by omega) ?_ | refine Dv.pos (by omega) (by omega) ?_ | refine Rm.pos (by omega) (by omega) ?_ | refine ADraw.quiet follows_ok (by kernel_rfl) rfl ?_ | refine BSpl.decY (by first | assumption | omega) ?_ | refine BSpl.decN (by first | assumption | omega) ?_ | refine BSpl.dec (fun _ => ?_) (fun _ => ?_) | refine BSpl.yes (by assumption) ?_ | refine BSpl.no (by assumption) ?_ | refine BSpl.mk (fun _ => ?_) (fun _ => ?_))
 all_goals (conv => whnf)
 all_goals (refine AEqI.mk (AEq.of ?_))
 all_goals simp [*]
theorem sameV_spec (a b : Ev) : ASpec Tryz.prog 90 [a.av,b.av] (.v (.bool (sameV a b))) [] := by
 have h := sameL_spec a b
 obtain ⟨q,hq⟩ : ∃ q,sameL a b = q := ⟨_,rfl⟩
 rw [hq] at h
 rw [show sameV a b = (q && decide (a.v = b.v)) by rw [← hq]; rfl]
 dsimp only [Ev.av,Ev.cs] at h ⊢
 refine aspec_of lay_ok 31 Tryz.func90 rfl rfl rfl ?_
 repeat' ((conv => whnf); first | refine Spl.yes (by first | assumption | omega) ?_ | refine Spl.no (by first | assumption | omega) ?_ | refine Wr.i64 (by omega) (by omega) ?_ | refine Still.mk rfl rfl ?_ | refine InB.mk (inB_mk (by omega) (by omega)) ?_ | refine Req.mk (by omega) ?_ | refine Req.mk ⟨by first | omega | (dsimp only; omega),by first | omega | (dsimp only; omega)⟩ ?_ | refine ACall.plain _ _ (h) (SubL.cons (.eq _) (SubL.cons (.eq _) .nil)) rfl ?_ | refine ARet.hdI ?_ | refine Spl.mk (fun _ => ?_) (fun _ => ?_) | refine InA.mk (inB_mk (by omega) (by omega)) ?_ | refine Wr.b64 ?_ | refine Wr.bu64 ?_ | refine Wr.bu32 ?_ | refine Wr.bu8 ?_ | refine Wr.u8 (by omega) (by omega) ?_ | refine Wr.u64 (by omega) (by omega) ?_ | refine Wr.u32 (by omega) (by omega) ?_ | refine Dv.pos (by omega) (by omega) ?_ | refine Rm.pos (by omega) (by omega) ?_ | refine ADraw.quiet follows_ok (by kernel_rfl) rfl ?_ | refine BSpl.decY (by first | assumption | omega) ?_ | refine BSpl.decN (by first | assumption | omega) ?_ | refine BSpl.dec (fun _ => ?_) (fun _ => ?_) | refine BSpl.yes (by assumption) ?_ | refine BSpl.no (by assumption) ?_ | refine BSpl.mk (fun _ => ?_) (fun _ => ?_))
 all_goals (conv => whnf)
 all_goals (refine AEqI.mk (AEq.of ?_))
 all_goals simp [*]
end Go.Proofs.YtkkpfjifkjbndaaGreat

/-
 Whether one of some events is above,or below,another one.
-/
namespace Go.Proofs.YtkkpfjifkjbndaaGreat
open Go.RowKit
theorem BackLe.none : ∀ fs : List (List (Nat × AV)),BackLe fs (fs.map fun _ => [])
  | [] => trivial
  | _ :: fs => ⟨fun _ => .inl rfl,BackLe.none fs⟩
theorem LeR.mkB {st : AS} (σ : List (Nat × Nat)) (l : List (Nat × AV)) (h : List (Nat × AO)) (b : Nat) (nd : nodupB (σ.map (·.2)) = true) (ht : LeT (st.ren σ) l) (hh : LeH (st.ren σ) h) (hn : nodupB (h.map (·.1)) = true) : LeR σ st ⟨l,h,(st.ren σ).back.map fun _ => [],b⟩ :=
 ⟨nd,let k := LeS.mk' l h ht hh hn; ⟨k.tm,k.hp,k.nd,BackLe.none _⟩⟩
theorem any_get {α : Type} [Inhabited α] {p : α → Bool} {l : List α} {j : Nat} (hj : j < l.length) (h : p (l.getD j default) = true) : l.any p = true := by
 rw [List.any_eq_true]
 refine ⟨l.getD j default,?_,h⟩
 rw [List.getD,List.getElem?_eq_getElem hj]
 exact List.getElem_mem _
theorem any_none {α : Type} [Inhabited α] {p : α → Bool} {l : List α} (h : ∀ i,i < l.length → p (l.getD i default) = false) : l.any p = false := by
 rw [List.any_eq_false]
 intro x hx
 obtain ⟨i,hi,rfl⟩ := List.getElem_of_mem hx
 have := h i hi
 rw [List.getD,List.getElem?_eq_getElem hi] at this
 simpa using this
set_option maxHeartbeats 4000000 in
set_option maxRecDepth 100000 in
theorem above_spec (k : Int) (g : FuncId) (same : Ev → Ev → Bool) (hs : ∀ a b,ASpec Tryz.prog g [a.av,b.av] (.v (.bool (same a b))) []) (l : List Ev) (e : Ev) (hl : l.length ≤ 140737488355328) :
  ASpec Tryz.prog 89 [.agg [.v (.int .i64 k), .v (.func (.func g) #[] #[])], .sl 12 l.length true (evF l),e.av] (.v (.bool (aboveB k same l e))) [] := by
 have hyes : ∀ j,j < l.length → (l.getD j default).k = k → same (l.getD j default) e = true → belowB e (l.getD j default) = true → aboveB k same l e = true := fun j hj h1 h2 h3 => any_get hj (by rw [h1,h2,h3]; simp)
 have hno : (∀ i,i < l.length → (decide ((l.getD i default).k = k) && (same (l.getD i default) e && belowB e (l.getD i default))) = false) → aboveB k same l e = false := fun h => any_none h
 generalize aboveB k same l e = R at hyes hno
 dsimp only [Ev.av]
 dsimp only [Ev.cs]
 refine aspec_of lay_ok 111 Tryz.func89 rfl rfl rfl ?_
 repeat' ((conv => whnf); first | refine Spl.yes (by first | assumption | omega) ?_ | refine Spl.no (by first | assumption | omega) ?_ | refine Wr.i64 (by omega) (by omega) ?_ | refine Still.mk rfl rfl ?_ | refine InB.mk (inB_mk (by omega) (by omega)) ?_ | refine Req.mk (by omega) ?_ | refine Req.mk ⟨by first | omega | (dsimp only; omega),by first | omega | (dsimp only; omega)⟩ ?_ | refine ACall.into 19 _ _ Tryz.func83 rfl rfl rfl ?_ | refine ACall.into 66483 _ _ Tryz.func97 rfl rfl rfl ?_ | refine ARet.hdI ?_ | refine Spl.mk (fun _ => ?_) (fun _ => ?_) | refine InA.mk (inB_mk (by omega) (by omega)) ?_ | refine Wr.b64 ?_ | refine Wr.bu64 ?_ | refine Wr.bu32 ?_ | refine Wr.bu8 ?_ | refine Wr.u8 (by omega) (by omega) ?_ | refine Wr.u64 (by omega) (by omega) ?_ | refine Wr.u32 (by omega) (by omega) ?_ | refine Dv.pos (by omega) (by omega) ?_ | refine Rm.pos (by omega) (by omega) ?_ | refine ADraw.quiet follows_ok (by kernel_rfl) rfl ?_ | refine BSpl.decY (by first | assumption | omega) ?_ | refine BSpl.decN (by first | assumption | omega) ?_ | refine BSpl.dec (fun _ => ?_) (fun _ => ?_) | refine BSpl.yes (by assumption) ?_ | refine BSpl.no (by assumption) ?_ | refine BSpl.mk (fun _ => ?_) (fun _ => ?_))
 conv => whnf
 refine ALoop.mk { j : Nat // j ≤ l.length ∧ ∀ i,i < j → (decide ((l.getD i default).k = k) && (same (l.getD i default) e && belowB e (l.getD i default))) = false } (fun j => ⟨[(8, .v (.int .i64 (j.1 : Int))),(7, .v (.int .i64 (l.length : Int))),(0, .sl 12 l.length true (evF l)),(1, .fn 109 [.box 0 0, .box 1 0])],
   [(1, .box 36 e.cs),(0, .box 139 [.v (.int .i64 k), .v (.func (.func g) #[] #[])])],[[],[]],2⟩) (fun j => l.length - j.1) ⟨0,Nat.zero_le _,fun i h => absurd h (Nat.not_lt_zero i)⟩ _
  (LeR.mkB [] _ _ _ rfl ⟨AEq.int rfl,AEq.refl _,AEq.refl _,AEq.refl _,trivial⟩ ⟨⟨_,rfl,OEq.refl _⟩,⟨_,rfl,OEq.refl _⟩,trivial⟩ rfl) ?_
 rintro ⟨j,hj,hall⟩
 dsimp only
 by_cases hjl : j < l.length
 · have hsj := hs (l.getD (j : Int).toNat default) e
   have hbj := below_spec e (l.getD (j : Int).toNat default)
   have hyj := hyes j hjl
   rw [show j = (j : Int).toNat by omega] at hyj
   have hnj : (decide ((l.getD (j : Int).toNat default).k = k) && (same (l.getD (j : Int).toNat default) e && belowB e (l.getD (j : Int).toNat default))) = false → ∀ i,i < j + 1 → (decide ((l.getD i default).k = k) && (same (l.getD i default) e && belowB e (l.getD i default))) = false := by
    intro h i hi
    rcases Nat.lt_or_ge i j with h' | h'
    · exact hall i h'
    · obtain rfl : i = j := by omega
      rwa [show (i : Int).toNat = i by omega] at h
   dsimp only [Ev.av,Ev.cs] at hsj hbj ⊢
   generalize same (l.getD (j : Int).toNat default) e = q1 at hsj hyj hnj
   generalize belowB e (l.getD (j : Int).toNat default) = q2 at hbj hyj hnj
   repeat' ((conv => whnf); first | refine Spl.yes (by first | assumption | omega) ?_ | refine Spl.no (by first | assumption | omega) ?_ | refine Wr.i64 (by omega) (by omega) ?_ | refine Still.mk rfl rfl ?_ | refine InB.mk (inB_mk (by omega) (by omega)) ?_ | refine Req.mk (by omega) ?_ | refine Req.mk ⟨by first | omega | (dsimp only; omega),by first | omega | (dsimp only; omega)⟩ ?_ | refine ACall.plain _ _ (hsj) (SubL.cons (.eq _) (SubL.cons (.eq _) .nil)) rfl ?_ | refine ACall.plain _ _ (hbj) (SubL.cons (.eq _) (SubL.cons (.eq _) .nil)) rfl ?_ | refine ACall.into 31 _ _ Tryz.func109 rfl rfl rfl ?_ | refine ARet.hdI ?_ | refine Spl.mk (fun _ => ?_) (fun _ => ?_) | refine InA.mk (inB_mk (by omega) (by omega)) ?_ | refine Wr.b64 ?_ | refine Wr.bu64 ?_ | refine Wr.bu32 ?_ | refine Wr.bu8 ?_ | refine Wr.u8 (by omega) (by omega) ?_ | refine Wr.u64 (by omega) (by omega) ?_ | refine Wr.u32 (by omega) (by omega) ?_ | refine Dv.pos (by omega) (by omega) ?_ | refine Rm.pos (by omega) (by omega) ?_ | refine ADraw.quiet follows_ok (by kernel_rfl) rfl ?_ | refine BSpl.decY (by first | assumption | omega) ?_ | refine BSpl.decN (by first | assumption | omega) ?_ | refine BSpl.dec (fun _ => ?_) (fun _ => ?_) | refine BSpl.yes (by assumption) ?_ | refine BSpl.no (by assumption) ?_ | refine BSpl.mk (fun _ => ?_) (fun _ => ?_))
   all_goals (conv => whnf)
   all_goals first
     | (rw [hyj (by assumption) (by assumption) (by assumption)]; exact AEqI.mk (AEq.refl _))
     | exact ⟨⟨j + 1,by omega,hnj (by first | (rw [decide_eq_false (by assumption)]; rfl) | (rw [show q1 = false by assumption]; simp) | (rw [show q2 = false by assumption]; simp))⟩,_,LeR.mk' [] _ _ _ rfl ⟨AEq.int rfl,AEq.refl _,AEq.refl _,AEq.refl _,trivial⟩ ⟨⟨_,rfl,OEq.refl _⟩,⟨_,rfl,OEq.refl _⟩,trivial⟩ rfl,by show l.length - (j + 1) < l.length - j; omega⟩
 · have hR : R = false := hno fun i hi => hall i (by omega)
   repeat' ((conv => whnf); first | refine Spl.yes (by first | assumption | omega) ?_ | refine Spl.no (by first | assumption | omega) ?_ | refine Wr.i64 (by omega) (by omega) ?_ | refine Still.mk rfl rfl ?_ | refine InB.mk (inB_mk (by omega) (by omega)) ?_ | refine Req.mk (by omega) ?_ | refine Req.mk ⟨by first | omega | (dsimp only; omega),by first | omega | (dsimp only; omega)⟩ ?_ | refine ARet.hdI ?_ | refine Spl.mk (fun _ => ?_) (fun _ => ?_) | refine InA.mk (inB_mk (by omega) (by omega)) ?_ | refine Wr.b64 ?_ | refine Wr.bu64 ?_ | refine Wr.bu32 ?_ | refine Wr.bu8 ?_ | refine Wr.u8 (by omega) (by omega) ?_ | refine Wr.u64 (by omega) (by omega) ?_ | refine Wr.u32 (by omega) (by omega) ?_ | refine Dv.pos (by omega) (by omega) ?_ | refine Rm.pos (by omega) (by omega) ?_ | refine ADraw.quiet follows_ok (by kernel_rfl) rfl ?_ | refine BSpl.decY (by first | assumption | omega) ?_ | refine BSpl.decN (by first | assumption | omega) ?_ | refine BSpl.dec (fun _ => ?_) (fun _ => ?_) | refine BSpl.yes (by assumption) ?_ | refine BSpl.no (by assumption) ?_ | refine BSpl.mk (fun _ => ?_) (fun _ => ?_))
   all_goals (conv => whnf)
   rw [hR]
   exact AEqI.mk (AEq.refl _)
set_option maxHeartbeats 4000000 in
set_option maxRecDepth 100000 in
theorem under_spec (k : Int) (g : FuncId) (same : Ev → Ev → Bool) (hs : ∀ a b,ASpec Tryz.prog g [a.av,b.av] (.v (.bool (same a b))) []) (l : List Ev) (e : Ev) (hl : l.length ≤ 140737488355328) :
  ASpec Tryz.prog 91 [.agg [.v (.int .i64 k), .v (.func (.func g) #[] #[])], .sl 12 l.length true (evF l),e.av] (.v (.bool (underB k same l e))) [] := by
 have hyes : ∀ j,j < l.length → (l.getD j default).k = k → same (l.getD j default) e = true → belowB (l.getD j default) e = true → underB k same l e = true := fun j hj h1 h2 h3 => any_get hj (by rw [h1,h2,h3]; simp)
 have hno : (∀ i,i < l.length → (decide ((l.getD i default).k = k) && (same (l.getD i default) e && belowB (l.getD i default) e)) = false) → underB k same l e = false := fun h => any_none h
 generalize underB k same l e = R at hyes hno
 dsimp only [Ev.av]
 dsimp only [Ev.cs]
 refine aspec_of lay_ok 111 Tryz.func91 rfl rfl rfl ?_
 repeat' ((conv => whnf); first | refine Spl.yes (by first | assumption | omega) ?_ | refine Spl.no (by first | assumption | omega) ?_ | refine Wr.i64 (by omega) (by omega) ?_ | refine Still.mk rfl rfl ?_ | refine InB.mk (inB_mk (by omega) (by omega)) ?_ | refine Req.mk (by omega) ?_ | refine Req.mk ⟨by first | omega | (dsimp only; omega),by first | omega | (dsimp only; omega)⟩ ?_ | refine ACall.into 19 _ _ Tryz.func83 rfl rfl rfl ?_ | refine ACall.into 66483 _ _ Tryz.func97 rfl rfl rfl ?_ | refine ARet.hdI ?_ | refine Spl.mk (fun _ => ?_) (fun _ => ?_) | refine InA.mk (inB_mk (by omega) (by omega)) ?_ | refine Wr.b64 ?_ | refine Wr.bu64 ?_ | refine Wr.bu32 ?_ | refine Wr.bu8 ?_ | refine Wr.u8 (by omega) (by omega) ?_ | refine Wr.u64 (by omega) (by omega) ?_ | refine Wr.u32 (by omega) (by omega) ?_ | refine Dv.pos (by omega) (by omega) ?_ | refine Rm.pos (by omega) (by omega) ?_ | refine ADraw.quiet follows_ok (by kernel_rfl) rfl ?_ | refine BSpl.decY (by first | assumption | omega) ?_ | refine BSpl.decN (by first | assumption | omega) ?_ | refine BSpl.dec (fun _ => ?_) (fun _ => ?_) | refine BSpl.yes (by assumption) ?_ | refine BSpl.no (by assumption) ?_ | refine BSpl.mk (fun _ => ?_) (fun _ => ?_))
 conv => whnf
 refine ALoop.mk { j : Nat // j ≤ l.length ∧ ∀ i,i < j → (decide ((l.getD i default).k = k) && (same (l.getD i default) e && belowB (l.getD i default) e)) = false } (fun j => ⟨[(8, .v (.int .i64 (j.1 : Int))),(7, .v (.int .i64 (l.length : Int))),(0, .sl 12 l.length true (evF l)),(1, .fn 111 [.box 0 0, .box 1 0])],
   [(1, .box 36 e.cs),(0, .box 139 [.v (.int .i64 k), .v (.func (.func g) #[] #[])])],[[],[]],2⟩) (fun j => l.length - j.1) ⟨0,Nat.zero_le _,fun i h => absurd h (Nat.not_lt_zero i)⟩ _
  (LeR.mkB [] _ _ _ rfl ⟨AEq.int rfl,AEq.refl _,AEq.refl _,AEq.refl _,trivial⟩ ⟨⟨_,rfl,OEq.refl _⟩,⟨_,rfl,OEq.refl _⟩,trivial⟩ rfl) ?_
 rintro ⟨j,hj,hall⟩
 dsimp only
 by_cases hjl : j < l.length
 · have hsj := hs (l.getD (j : Int).toNat default) e
   have hbj := below_spec (l.getD (j : Int).toNat default) e
   have hyj := hyes j hjl
   rw [show j = (j : Int).toNat by omega] at hyj
   have hnj : (decide ((l.getD (j : Int).toNat default).k = k) && (same (l.getD (j : Int).toNat default) e && belowB (l.getD (j : Int).toNat default) e)) = false → ∀ i,i < j + 1 → (decide ((l.getD i default).k = k) && (same (l.getD i default) e && belowB (l.getD i default) e)) = false := by
    intro h i hi
    rcases Nat.lt_or_ge i j with h' | h'
    · exact hall i h'
    · obtain rfl : i = j := by omega
      rwa [show (i : Int).toNat = i by omega] at h
   dsimp only [Ev.av,Ev.cs] at hsj hbj ⊢
   generalize same (l.getD (j : Int).toNat default) e = q1 at hsj hyj hnj
   generalize belowB (l.getD (j : Int).toNat default) e = q2 at hbj hyj hnj
   repeat' ((conv => whnf); first | refine Spl.yes (by first | assumption | omega) ?_ | refine Spl.no (by first | assumption | omega) ?_ | refine Wr.i64 (by omega) (by omega) ?_ | refine Still.mk rfl rfl ?_ | refine InB.mk (inB_mk (by omega) (by omega)) ?_ | refine Req.mk (by omega) ?_ | refine Req.mk ⟨by first | omega | (dsimp only; omega),by first | omega | (dsimp only; omega)⟩ ?_ | refine ACall.plain _ _ (hsj) (SubL.cons (.eq _) (SubL.cons (.eq _) .nil)) rfl ?_ | refine ACall.plain _ _ (hbj) (SubL.cons (.eq _) (SubL.cons (.eq _) .nil)) rfl ?_ | refine ACall.into 31 _ _ Tryz.func111 rfl rfl rfl ?_ | refine ARet.hdI ?_ | refine Spl.mk (fun _ => ?_) (fun _ => ?_) | refine InA.mk (inB_mk (by omega) (by omega)) ?_ | refine Wr.b64 ?_ | refine Wr.bu64 ?_ | refine Wr.bu32 ?_ | refine Wr.bu8 ?_ | refine Wr.u8 (by omega) (by omega) ?_ | refine Wr.u64 (by omega) (by omega) ?_ | refine Wr.u32 (by omega) (by omega) ?_ | refine Dv.pos (by omega) (by omega) ?_ | refine Rm.pos (by omega) (by omega) ?_ | refine ADraw.quiet follows_ok (by kernel_rfl) rfl ?_ | refine BSpl.decY (by first | assumption | omega) ?_ | refine BSpl.decN (by first | assumption | omega) ?_ | refine BSpl.dec (fun _ => ?_) (fun _ => ?_) | refine BSpl.yes (by assumption) ?_ | refine BSpl.no (by assumption) ?_ | refine BSpl.mk (fun _ => ?_) (fun _ => ?_))
   all_goals (conv => whnf)
   all_goals first
     | (rw [hyj (by assumption) (by assumption) (by assumption)]; exact AEqI.mk (AEq.refl _))
     | exact ⟨⟨j + 1,by omega,hnj (by first | (rw [decide_eq_false (by assumption)]; rfl) | (rw [show q1 = false by assumption]; simp) | (rw [show q2 = false by assumption]; simp))⟩,_,LeR.mk' [] _ _ _ rfl ⟨AEq.int rfl,AEq.refl _,AEq.refl _,AEq.refl _,trivial⟩ ⟨⟨_,rfl,OEq.refl _⟩,⟨_,rfl,OEq.refl _⟩,trivial⟩ rfl,by show l.length - (j + 1) < l.length - j; omega⟩
 · have hR : R = false := hno fun i hi => hall i (by omega)
   repeat' ((conv => whnf); first | refine Spl.yes (by first | assumption | omega) ?_ | refine Spl.no (by first | assumption | omega) ?_ | refine Wr.i64 (by omega) (by omega) ?_ | refine Still.mk rfl rfl ?_ | refine InB.mk (inB_mk (by omega) (by omega)) ?_ | refine Req.mk (by omega) ?_ | refine Req.mk ⟨by first | omega | (dsimp only; omega),by first | omega | (dsimp only; omega)⟩ ?_ | refine ARet.hdI ?_ | refine Spl.mk (fun _ => ?_) (fun _ => ?_) | refine InA.mk (inB_mk (by omega) (by omega)) ?_ | refine Wr.b64 ?_ | refine Wr.bu64 ?_ | refine Wr.bu32 ?_ | refine Wr.bu8 ?_ | refine Wr.u8 (by omega) (by omega) ?_ | refine Wr.u64 (by omega) (by omega) ?_ | refine Wr.u32 (by omega) (by omega) ?_ | refine Dv.pos (by omega) (by omega) ?_ | refine Rm.pos (by omega) (by omega) ?_ | refine ADraw.quiet follows_ok (by kernel_rfl) rfl ?_ | refine BSpl.decY (by first | assumption | omega) ?_ | refine BSpl.decN (by first | assumption | omega) ?_ | refine BSpl.dec (fun _ => ?_) (fun _ => ?_) | refine BSpl.yes (by assumption) ?_ | refine BSpl.no (by assumption) ?_ | refine BSpl.mk (fun _ => ?_) (fun _ => ?_))
   all_goals (conv => whnf)
   rw [hR]
   exact AEqI.mk (AEq.refl _)
end Go.Proofs.YtkkpfjifkjbndaaGreat

/-
 Which Creates live.
-/
namespace Go.Proofs.YtkkpfjifkjbndaaGreat
open Go.RowKit
theorem C1.nilS {X : CX} {s : Nat} {sc : Bool} {f : Nat → List AV} (hs : 0 < s) {u : Value} (h : C1 X (.v (.slice none 0 0)) u) : C1 X (.sl s 0 sc f) u := by
 have h : u = .slice none 0 0 := h
 subst h
 exact (show C0 X (.sl s 0 sc f) (.slice none 0 0) from .sl s 0 sc f none 0 [] hs (Nat.le_refl _) (by simp [maxLen]) (by simp) (fun i hi => absurd hi (Nat.not_lt_zero i)) (fun _ x hx => by simp [flat] at hx) (fun i x u hx => by simp [flat] at hx) (.inl rfl))
theorem filter_take {p : Ev → Bool} {l : List Ev} {j : Nat} (hj : j < l.length) : (l.take (j + 1)).filter p = (l.take j).filter p ++ (if p (l.getD j default) = true then [l.getD j default] else []) := by
 rw [List.take_add_one,List.getElem?_eq_getElem hj,List.getD,List.getElem?_eq_getElem hj,List.filter_append]
 congr 1
 simp [List.filter_cons]
abbrev Took (p : Ev → Bool) (l : List Ev) : Type := { x : Nat × List Ev // x.1 ≤ l.length ∧ x.2 = (l.take x.1).filter p }
end Go.Proofs.YtkkpfjifkjbndaaGreat

/-
 Which Sets and Adds count.
-/
namespace Go.Proofs.YtkkpfjifkjbndaaGreat
open Go.RowKit
end Go.Proofs.YtkkpfjifkjbndaaGreat
