/-
  Contracts of the walk: AmUse, AmO, Plain, EvM, Txt, RcD, HbA.
-/
import Derived.Test.YtmldeejaghflnaaFu4
import Derived.Test.YtmldeejaghflnaaFu5
import Derived.Test.YtmldeejaghflnaaFu1
import Derived.WalkSpells
import Derived.WalkLawsBesides
/-
 How the abstract machine is used: small lemmas for the ends of its ways,contracts that are known already. (This file joins 2 texts.)
-/
namespace Go.Proofs.Ytmldeejaghflnaa
open Go.RowKit
theorem ARet.int {st : AS} {x : AV} {k : IntKind} {n m : Int} (hx : see2 st.heap x = .v (.int k n)) (h : n = m) : ARet st x (.v (.int k m)) [] := .plain _ (by rw [hx,h]; exact AEq.refl _)
theorem ARet.bool {st : AS} {x : AV} {b c : Bool} (hx : see2 st.heap x = .v (.bool b)) (h : b = c) : ARet st x (.v (.bool c)) [] := .plain _ (by rw [hx,h]; exact AEq.refl _)
theorem ARet.same {st : AS} {x r : AV} (hx : see2 st.heap x = r) : ARet st x r [] := .plain _ (by rw [hx]; exact AEq.refl _)
def ownOf0 : AV → Option Nat
  | .own i => some i
  | _ => none
def ownL : List AV → Option Nat
  | [] => none
  | x :: l => match ownOf0 x with | some i => some i | none => ownL l
def ownOf : AV → Option Nat
  | .own i => some i
  | .agg cs => ownL cs
  | .tup vs => ownL vs
  | _ => none
theorem ARet.ownX {st : AS} {x r : AV} (d : Nat) {id : Nat} {e : TypeId} {s n : Nat} {sc : Bool} {f : Nat → List AV} {o' : AO} (_hid : ownOf x = some id) (hf : findObj id st.heap = some (.row e s n sc f)) (ho : OEq (.row e s n sc f) o') (hr : AEq (ret2 st.heap id d x) r) : ARet st x r [(d,o')] :=
 .own id d r e s n sc f o' hf ho hr
def addN (k i : Nat) (σ : List (Nat × Nat)) : List (Nat × Nat) := bif tgtB σ i then σ else (k,i) :: σ
def autoC : List AV → List AV → List (Nat × Nat) → List (Nat × Nat)
  | .own k :: xs, .own i :: ys,σ => autoC xs ys (addN k i σ)
  | _ :: xs,_ :: ys,σ => autoC xs ys σ
  | _,_,σ => σ
def autoS (st : AS) : List (Nat × AV) → List (Nat × Nat) → List (Nat × Nat)
  | [],σ => σ
  | (t, .own i) :: l,σ => autoS st l (match ofL st.sl t with | .own k => addN k i σ | _ => σ)
  | (t, .box i _) :: l,σ => autoS st l (match ofL st.sl t with | .box k _ => addN k i σ | _ => σ)
  | _ :: l,σ => autoS st l σ
def backN (i : Nat) : List (Nat × Nat) → Nat
  | [] => i
  | (k,j) :: r => bif Nat.beq i j then k else backN i r
def autoH (st : AS) : List (Nat × AO) → List (Nat × Nat) → List (Nat × Nat)
  | [],σ => σ
  | (i, .box _ ys) :: l,σ => autoH st l (match findObj (backN i σ) st.heap with | some (.box _ xs) => autoC xs ys σ | _ => σ)
  | _ :: l,σ => autoH st l σ
def autoN (st : AS) (l : List (Nat × AV)) (h : List (Nat × AO)) : List (Nat × Nat) := autoH st h (autoS st l [])
theorem LeR.mk' {st : AS} (σ : List (Nat × Nat)) (l : List (Nat × AV)) (h : List (Nat × AO)) (b : Nat) (nd : nodupB (σ.map (·.2)) = true) (ht : LeT (st.ren σ) l) (hh : LeH (st.ren σ) h) (hn : nodupB (h.map (·.1)) = true) : LeR σ st ⟨l,h,(st.ren σ).back,b⟩ :=
 ⟨nd,let k := LeS.mk' l h ht hh hn; ⟨k.tm,k.hp,k.nd,k.bk⟩⟩
theorem LeR.auto {st : AS} (l : List (Nat × AV)) (h : List (Nat × AO)) (b : Nat) (nd : nodupB ((autoN st l h).map (·.2)) = true) (ht : LeT (st.ren (autoN st l h)) l) (hh : LeH (st.ren (autoN st l h)) h) (hn : nodupB (h.map (·.1)) = true) : LeR (autoN st l h) st ⟨l,h,(st.ren (autoN st l h)).back,b⟩ :=
 LeR.mk' _ l h b nd ht hh hn
theorem ARet.hd {st : AS} {x r : AV} (h : hd2 (see2 st.heap x) (fun y => AEq y r)) : ARet st x r [] := .plain _ (by rw [hd2_eq] at h; exact h)
structure AEqI (x y : AV) : Prop where
 h : AEq x y
theorem ARet.hdI {st : AS} {x r : AV} (h : hd2 (see2 st.heap x) (fun y => AEqI y r)) : ARet st x r [] := .plain _ (by rw [hd2_eq] at h; exact h.h)
theorem AEq.int {k : IntKind} {n m : Int} (h : n = m) : AEq (.v (.int k n)) (.v (.int k m)) := by rw [h]; exact AEq.refl _
theorem AEq.str {x y : ByteArray} (h : x = y) : AEq (.v (.string x)) (.v (.string y)) := by rw [h]; exact AEq.refl _
theorem AEq.of {x y : AV} (h : x = y) : AEq x y := by rw [h]; exact AEq.refl _
theorem AEq.sl {s n n' : Nat} {sc : Bool} {f f' : Nat → List AV} (hn : n = n') (hf : ∀ i,i < n → f i = f' i) : AEq (.sl s n sc f) (.sl s n' sc f') := by
 subst hn
 intro X u h
 cases C2.inv_sl h with
 | sl _ _ _ _ A c us hs0 hnc hcc hl hfl hsc hu' hr =>
   rw [flat_congr hf] at hsc hu'
   exact .sl s n sc f' A c us hs0 hnc hcc hl (fun i hi => by rw [← hf i hi]; exact hfl i hi) hsc hu' hr
theorem OEq.row {e : TypeId} {s n n' : Nat} {sc : Bool} {f f' : Nat → List AV} (hn : n = n') (hf : ∀ i,i < n → f i = f' i) : OEq (.row e s n sc f) (.row e s n' sc f') := by
 subst hn
 rintro X id ⟨us,hown,hs,hfl,hsc,ha⟩
 rw [flat_congr hf] at hsc ha
 exact ⟨us,hown,hs,fun i hi => by rw [← hf i hi]; exact hfl i hi,hsc,ha⟩
theorem MRet.auto {hin : List (Nat × AO)} {st : AS} {x r : AV} {hout : List (Nat × AO)} (nd : nodupB ((autoN st [] hout).map (·.2)) = true) (fx : fixedB hout (st.ren (autoN st [] hout)).back 0 hin = true) (hp : LeH (st.ren (autoN st [] hout)) hout)
  (hn : nodupB (hout.map (·.1)) = true) (hc : closedH hout hout = true) (hr : AEq (retM2 (st.ren (autoN st [] hout)).heap hout (ren2 (autoN st [] hout) x)) r) : ∃ σ,MRet hin σ st x r hout := ⟨_,nd,fx,hp,hn,hc,hr⟩
theorem Wr.b64 {b : UInt8} {K : Int → Prop} (h : K (b.toNat : Int)) : Wr (b.toNat : Int) K .i64 := by have := UInt8.toNat_lt b; exact .i64 (by omega) (by omega) h
theorem Wr.bu64 {b : UInt8} {K : Int → Prop} (h : K (b.toNat : Int)) : Wr (b.toNat : Int) K .u64 := by have := UInt8.toNat_lt b; exact .u64 (by omega) (by omega) h
theorem Wr.bu32 {b : UInt8} {K : Int → Prop} (h : K (b.toNat : Int)) : Wr (b.toNat : Int) K .u32 := by have := UInt8.toNat_lt b; exact .u32 (by omega) (by omega) h
theorem Wr.bu8 {b : UInt8} {K : Int → Prop} (h : K (b.toNat : Int)) : Wr (b.toNat : Int) K .u8 := by have := UInt8.toNat_lt b; exact .u8 (by omega) (by omega) h
theorem OEq.box1 {t : TypeId} {k : IntKind} {x y : Int} (h : x = y) : OEq (.box t [.v (.int k x)]) (.box t [.v (.int k y)]) := by rw [h]; exact OEq.refl _
def elsF {α : Type} [Inhabited α] (c : α → List AV) (l : List α) : Nat → List AV := fun i => c (l.getD i default)
theorem els_app {α : Type} [Inhabited α] {c : α → List AV} {l l' : List α} {n : Nat} (hn : n = l.length) : ∀ i,appF n (elsF c l) (elsF c l') i = elsF c (l ++ l') i := by
 intro i
 subst hn
 unfold appF elsF
 cases hb : Nat.ble l.length i with
 | true =>
   have := Nat.le_of_ble_eq_true hb
   simp only [cond_true]
   congr 1
   rw [List.getD,List.getD,List.getElem?_append_right this]
 | false =>
   have : i < l.length := Nat.lt_of_not_le fun h => by rw [Nat.ble_eq_true_of_le h] at hb; cases hb
   simp only [cond_false]
   congr 1
   rw [List.getD,List.getD,List.getElem?_append_left this]
theorem els_app1 {α : Type} [Inhabited α] {c : α → List AV} {l : List α} {x : α} {g : Nat → List AV} {n : Nat} (hn : n = l.length) (hg : g 0 = c x) : ∀ i,i < n + 1 → appF n (elsF c l) g i = elsF c (l ++ [x]) i := by
 intro i hi
 rw [← els_app hn]
 unfold appF
 cases hb : Nat.ble n i with
 | true =>
   have := Nat.le_of_ble_eq_true hb
   have e : i - n = 0 := by omega
   simp only [cond_true,e,hg]
   rfl
 | false => rfl
def bC (b : UInt8) : List AV := [.v (.int .u8 (b.toNat : Int))]
abbrev bytesF (bs : List UInt8) : Nat → List AV := elsF bC bs
def byteOf' (n : Int) : UInt8 := UInt8.ofNat n.toNat
theorem byteOf'_nat {n : Int} (h0 : 0 ≤ n) (h1 : n ≤ 255) : ((byteOf' n).toNat : Int) = n := by
 unfold byteOf'
 rw [UInt8.toNat_ofNat',Nat.mod_eq_of_lt (by omega)]
 omega
def IsB (F : Nat → List AV) (l : List UInt8) : Prop := ∀ i,i < l.length → F i = bytesF l i
theorem IsB.bytes (l : List UInt8) : IsB (bytesF l) l := fun _ _ => rfl
theorem IsB.str (s : ByteArray) : IsB (fun i => [.v (.int .u8 ((s.data.toList.getD i 0).toNat : Int))]) s.data.toList := fun _ _ => rfl
theorem IsB.nil (F : Nat → List AV) : IsB F [] := fun i h => absurd h (by simp)
theorem IsB.app {F G : Nat → List AV} {l l' : List UInt8} {n : Nat} (h : IsB F l) (h' : IsB G l') (hn : n = l.length) : IsB (appF n F G) (l ++ l') := by
 intro i hi
 rw [List.length_append] at hi
 show _ = elsF bC (l ++ l') i
 rw [← els_app hn]
 unfold appF
 cases hb : Nat.ble n i with
 | true =>
   have := Nat.le_of_ble_eq_true hb
   exact h' (i - n) (by omega)
 | false =>
   have : i < n := Nat.lt_of_not_le fun h => by rw [Nat.ble_eq_true_of_le h] at hb; cases hb
   exact h i (by omega)
theorem IsB.one {x : Int} (h0 : 0 ≤ x) (h1 : x ≤ 255) : IsB (chunk 1 [.v (.int .u8 x)]) [byteOf' x] := by
 intro i hi
 have e : i = 0 := by simpa using hi
 subst e
 show [AV.v (.int .u8 x)] = [AV.v (.int .u8 ((byteOf' x).toNat : Int))]
 rw [byteOf'_nat h0 h1]
theorem IsB.two {x y : Int} (h0 : 0 ≤ x) (h1 : x ≤ 255) (k0 : 0 ≤ y) (k1 : y ≤ 255) : IsB (chunk 1 [.v (.int .u8 x), .v (.int .u8 y)]) [byteOf' x,byteOf' y] := by
 intro i hi
 have e : i = 0 ∨ i = 1 := by simp at hi; omega
 rcases e with rfl | rfl
 · show [AV.v (.int .u8 x)] = [AV.v (.int .u8 ((byteOf' x).toNat : Int))]
   rw [byteOf'_nat h0 h1]
 · show [AV.v (.int .u8 y)] = [AV.v (.int .u8 ((byteOf' y).toNat : Int))]
   rw [byteOf'_nat k0 k1]
theorem str_len (s : ByteArray) : s.data.toList.length = s.size := rfl
theorem OEq.isB {e : TypeId} {n : Nat} {sc : Bool} {F : Nat → List AV} {l t : List UInt8} (h : IsB F l) (hn : n = l.length) (ht : l = t) : OEq (.row e 1 n sc F) (.row e 1 t.length sc (bytesF t)) := by
 subst ht
 exact OEq.row hn fun i hi => h i (by omega)
theorem ACall.into {P : Program} {L : Lay} {n : Nat} {f : FuncId} {avs : List AV} {st : AS} {K : AV → AS → Prop} {d : Nat} (lv : Nat) (fn : Func) (c : Code) (hf : P.funcs[f]? = some fn) (hn : (fn.name == "runtime.NumGoroutine") = false) (hb : fn.body = some c) (hsz : Nat.ble avs.length fn.ntmps = true)
  (h : intoK st avs (awpS P L (awp P L n) fn.ntmps lv c (fun e st' => match e with | .exit _ => False | .normal => ares L st' fn.results.toList (fun x => nrmA (st'.out) (K x)) | .ret => ares L st' fn.results.toList (fun x => nrmA (st'.out) (K x))))) : ACall P L (awp P L (n + 1)) d f avs st K :=
 .inl lv fn c hf hn hb hsz h
theorem spec_plain {P : Program} {f : FuncId} {xs : List Value} {r : Value} (he : Enters P f) (h : ∀ w,Calls P f xs.toArray w fun e w' => e = .returned r ∧ Below w.heap.size w w') : ASpec P f (xs.map .v) (.v r) [] := by
 refine ⟨he,fun w keep args _ hargs => ?_⟩
 have e : args = xs := spec_args hargs
 subst e
 exact (h w).mono fun e w' ⟨h1,h2⟩ => ⟨r,fun _ => undef,h1,h2,rfl,(fun p hp => by cases hp),by simp [blocksOf],(fun b hb => by simp [blocksOf] at hb)⟩
where
 spec_args {X : CX} : ∀ {xs us : List Value},All2 (C1 X) (xs.map .v) us → us = xs
   | [],us,h => by
     have := h.1
     simp at this
     exact List.eq_nil_of_length_eq_zero this.symm
   | x :: xs,[],h => by have := h.1; simp at this
   | x :: xs,u :: us,h => by
     have h0 : u = x := h.2 0 _ _ rfl rfl
     have := spec_args (xs := xs) (us := us) ⟨by simpa using h.1,fun i a b ha hb => h.2 (i + 1) a b (by simpa using ha) (by simpa using hb)⟩
     rw [h0,this]
end Go.Proofs.Ytmldeejaghflnaa
namespace Go.Proofs.Ytmldeejaghflnaa
open Go.RowKit
theorem ASpec.thaw {P : Program} {f : FuncId} {avs : List AV} {r : AV} {d : Nat} {e : TypeId} {s n : Nat} {sc : Bool} {g : Nat → List AV} (hs : ASpec P f avs r [(d, .row e s n sc g)]) : ASpec P f avs (thaw2 d (.sl s n sc g) r) [] := by
 refine ⟨hs.1,fun w keep args hk ha => (hs.2 w keep args hk ha).mono ?_⟩
 rintro e0 w' ⟨u,ρ,h1,h2,h3,h4,h5,h6⟩
 obtain ⟨us,hown,hs0,hfl,hsc,hall⟩ := h4 _ (List.mem_singleton.2 rfl)
 have hown : w'.ownsRow 0 e s (ρ d) n us := hown
 have hall : All2 (PC w' (keepOf (base0 w keep) w' ρ [(d, .row e s n sc g)])) (flat n g) us := hall
 have hkk : ∀ b,keepOf (base0 w keep) w' ρ [(d, .row e s n sc g)] b → keepOf (base0 w keep) w' ρ [] b := fun b h => ⟨h.1,h.2.1,fun h' => by simp [blocksOf] at h'⟩
 have hrow : PC w' (keepOf (base0 w keep) w' ρ []) (.sl s n sc g) (ρ d) := by
  have ha' := hall.imp fun _ _ => PC.mono hkk (fun _ _ => rfl)
  rcases hown.2 with ⟨hv,hz⟩ | ⟨b,cap,cur,hv,hB,hh,hnc,hcm,_⟩
  · rw [hv]
    subst hz
    exact .sl s 0 sc g none 0 us hs0 (Nat.le_refl _) (by simp [maxLen]) hown.1 hfl hsc ha'.2 (.inl rfl)
  · rw [hv]
    refine .sl s n sc g _ cap us hs0 hnc hcm hown.1 hfl hsc ha'.2 (.inr ⟨b,0,rfl,⟨(Array.getElem?_eq_some_iff.1 hh).1,fun hlt => ?_,fun h' => by simp [blocksOf] at h'⟩,fun j u hj => ?_⟩)
    · have := h6 b (mem_blocks.2 ⟨_,List.mem_singleton.2 rfl,by rw [hv]; exact List.mem_cons_self⟩)
      exact absurd (show b < w.heap.size from hlt) (by omega)
    · have := hown.cells (g := b) (by rw [hv]; rfl) j u hj
      rwa [Addr.add_lit] at this
 exact ⟨u,ρ,h1,h2,C2.thaw (X := cxOf (base0 w keep) w' ρ [(d, .row e s n sc g)]) (Y := cxOf (base0 w keep) w' ρ []) hkk (fun _ _ => rfl) rfl (by show PC _ _ _ (hdV (ρ d)); rw [hdV_own hown]; exact hrow) h3,fun p hp => (by cases hp),by simp [blocksOf],fun b hb => by simp [blocksOf] at hb⟩
theorem ALoop.unr {body : (AExit → AS → Prop) → AS → Prop} {Q : AExit → AS → Prop} {st : AS} (t n : Nat) (_ht : st.tmps t = .v (.int .i64 0)) (h : aunroll body Q n st) : ALoop body Q st := .rounds n h
inductive Ch : List AV → List AV → Prop where
  | nil : Ch [] []
  | same {x : AV} {xs ys : List AV} : Ch xs ys → Ch (x :: xs) (x :: ys)
  | of {x y : AV} {xs ys : List AV} (h : ∀ (X : CX) (u : Value),C1 X x u → C1 X y u) : Ch xs ys → Ch (x :: xs) (y :: ys)
theorem Ch.all {X : CX} : ∀ {xs ys : List AV} {us : List Value},Ch xs ys → All2 (C1 X) xs us → All2 (C1 X) ys us
  | _,_,_, .nil,h => h
  | _,_,[], .same _,h => by have := h.1; simp at this
  | _,_,[], .of _ _,h => by have := h.1; simp at this
  | _,_,u :: us, .same k,h => All2.cons (h.2 0 _ _ rfl rfl) (Ch.all k ⟨by simpa using h.1,fun i a b ha hb => h.2 (i + 1) a b (by simpa using ha) (by simpa using hb)⟩)
  | _,_,u :: us, .of h0 k,h => All2.cons (h0 X u (h.2 0 _ _ rfl rfl)) (Ch.all k ⟨by simpa using h.1,fun i a b ha hb => h.2 (i + 1) a b (by simpa using ha) (by simpa using hb)⟩)
theorem ASpec.args {P : Program} {f : FuncId} {avs bvs : List AV} {r : AV} {h : List (Nat × AO)} (hs : ASpec P f bvs r h) (hc : Ch avs bvs) : ASpec P f avs r h :=
 ⟨hs.1,fun w keep args hk ha => hs.2 w keep args hk (Ch.all hc ha)⟩
namespace K1
variable {A B p : Prop}
theorem a (h : A) (k : p := by first | assumption | omega) : Spl p A B := .yes k h
theorem b (h : B) (k : ¬ p := by first | assumption | omega) : Spl p A B := .no k h
theorem c {n : Int} {K : Int → Prop} (h : K n) (k0 : -9223372036854775808 ≤ n := by omega) (k1 : n ≤ 9223372036854775807 := by omega) : Wr n K .i64 := .i64 k0 k1 h
theorem d {x : AV} (h : A) (k : det1 x = true := by rfl) : Still x x A := .mk rfl k h
theorem e {n : Int} {m : Nat} (h : A) (k0 : 0 ≤ n := by omega) (k1 : n < (m : Int) := by omega) : InB n m A := .mk (inB_mk k0 k1) h
theorem f (h : A) (k : p := by first | omega | exact ⟨by first | omega | (dsimp only; omega),by first | omega | (dsimp only; omega)⟩) : Req p A := .mk k h
theorem g {n : Int} {m : Nat} {K : Nat → Prop} (h : K n.toNat) (k0 : 0 ≤ n := by omega) (k1 : n < (m : Int) := by omega) : InA n m K := .mk (inB_mk k0 k1) h
theorem u8 {n : Int} {K : Int → Prop} (h : K n) (k0 : 0 ≤ n := by omega) (k1 : n ≤ 255 := by omega) : Wr n K .u8 := .u8 k0 k1 h
theorem u64 {n : Int} {K : Int → Prop} (h : K n) (k0 : 0 ≤ n := by omega) (k1 : n ≤ 18446744073709551615 := by omega) : Wr n K .u64 := .u64 k0 k1 h
theorem u32 {n : Int} {K : Int → Prop} (h : K n) (k0 : 0 ≤ n := by omega) (k1 : n ≤ 4294967295 := by omega) : Wr n K .u32 := .u32 k0 k1 h
theorem h {x y : Int} {K : Int → Prop} (z : K (x / y)) (k0 : 0 ≤ x := by omega) (k1 : 0 < y := by omega) : Dv x y K := .pos k0 k1 z
theorem i {x y : Int} {K : Int → Prop} (z : K (x % y)) (k0 : 0 ≤ x := by omega) (k1 : 0 < y := by omega) : Rm x y K := .pos k0 k1 z
theorem j [Decidable p] (h : A) (k : p := by first | assumption | omega) : BSpl (decide p) A B := .decY k h
theorem k [Decidable p] (h : B) (k : ¬ p := by first | assumption | omega) : BSpl (decide p) A B := .decN k h
theorem l {x : Bool} (h : A) (k : x = true := by assumption) : BSpl x A B := .yes k h
theorem n {x : Bool} (h : B) (k : x = false := by assumption) : BSpl x A B := .no k h
theorem q {W : Walk} {N id : Nat} {ops : Array Oper} {K : AS → Prop} {st : AS} (h : awpL Try.prog lay W N ops.toList K ops.toList st) (h1 : Region.lexB .any ops = true := by kernel_rfl) (h2 : ops.toList.all (fun o => quietB o.op) = true := by rfl) : ADraw Try.prog lay W N id ops K st := .quiet follows_ok h1 h2 h
end K1
end Go.Proofs.Ytmldeejaghflnaa

/-
 Objects that are told as a whole: opened into their parts at a function's door,and closed at its end (MSpec.opn); what a slice's header says when its row is gone (ACall.hdr).
-/
namespace Go.Proofs.Ytmldeejaghflnaa
open Go.RowKit
def Opens (o : OB) (j : Nat) {Y : Type} (hs : Y → List (Nat × AO)) : Prop :=
 ∀ (w : World) (k : Nat → Prop) (v : Value),o.R w k v → ∃ (y : Y) (ρ : Nat → Value),hdV (ρ j) = hdV v ∧ (blocksOf ρ (hs y)).Perm (blks v) ∧ ∀ p ∈ hs y,ObjOk ⟨w,k,ρ⟩ p.1 p.2
def Closes (hs : List (Nat × AO)) (j : Nat) (o : OB) : Prop :=
 ∀ (w : World) (k : Nat → Prop) (ρ : Nat → Value),(blocksOf ρ hs).Nodup → (∀ p ∈ hs,ObjOk ⟨w,k,ρ⟩ p.1 p.2) → ∃ us,o.R w k (.tuple us) ∧ hdV (.tuple us) = hdV (ρ j) ∧ ∀ b ∈ blks (.tuple us),b ∈ blocksOf ρ hs
def refQ0 (q : Nat → Bool) (j : Nat) : AV → Bool
  | .own i => q i || Nat.beq i j
  | .box i _ => q i || Nat.beq i j
  | .eown i .. => q i
  | .osl i .. => q i || Nat.beq i j
  | .cf _ i _ => q i || Nat.beq i j
  | _ => true
def refQ1 (q : Nat → Bool) (j : Nat) : AV → Bool
  | .agg cs => cs.all (refQ0 q j)
  | .fn _ cs => cs.all (refQ0 q j)
  | x => refQ0 q j x
def refQ2 (q : Nat → Bool) (j : Nat) : AV → Bool
  | .tup vs => vs.all (refQ1 q j)
  | x => refQ1 q j x
section
variable {X Y : CX} {q : Nat → Bool} {j : Nat} (hk : ∀ b,X.keep b → Y.keep b) (hm : Y.w = X.w) (hρ : ∀ i,q i = true → Y.ρ i = X.ρ i) (hj : hdV (Y.ρ j) = hdV (X.ρ j))
include hk hm hρ hj
theorem C0.refQ {av : AV} {u : Value} (hr : refQ0 q j av = true) (hc : C0 X av u) : C0 Y av u := by
 have hmm : ∀ b,X.keep b → Y.w.heap[b]? = X.w.heap[b]? := fun _ _ => by rw [hm]
 have hh : ∀ i,(q i || Nat.beq i j) = true → hdV (Y.ρ i) = hdV (X.ρ i) := fun i h => by
  simp only [Bool.or_eq_true] at h
  rcases h with h | h
  · rw [hρ i h]
  · rw [Nat.eq_of_beq_eq_true h]; exact hj
 cases av with
 | own id => exact (show u = hdV (X.ρ id) from hc).trans (hh id hr).symm
 | eown id s i k => obtain ⟨b,n,c,h1,h2⟩ := hc; exact ⟨b,n,c,(hρ id hr).trans h1,h2⟩
 | osl id s i k => exact Or.imp (fun ⟨b,c,h1,h2⟩ => ⟨b,c,(congrArg blk1 (hh id hr)).trans h1,h2⟩) _root_.id hc
 | box id off => obtain ⟨b,h1,h2⟩ := hc; exact ⟨b,(hh id hr).trans h1,h2⟩
 | cf gg id off => obtain ⟨b,h1,h2⟩ := hc; exact ⟨b,(hh id hr).trans h1,h2⟩
 | el cs k =>
   obtain ⟨b,o,us,e,kb,ha,hcell⟩ := hc
   exact ⟨b,o,us,e,hk b kb,ha.imp (fun _ _ => PC.mono hk hmm),fun j y hj => (World.cell?_of_block (hmm b kb)).trans (hcell j y hj)⟩
 | sl s n sc f => exact PC.mono hk hmm hc
 | v x => exact hc
 | junk => trivial
 | agg cs => exact hc
 | tup cs => exact hc
 | fn g caps => exact hc
theorem C1.refQ {av : AV} {u : Value} (hr : refQ1 q j av = true) (hc : C1 X av u) : C1 Y av u := by
 cases av with
 | agg cs => obtain ⟨us,e,ha⟩ := hc; exact ⟨us,e,ha.impB hr fun _ _ q k => C0.refQ hk hm hρ hj q k⟩
 | fn g cs => obtain ⟨us,e,ha⟩ := hc; exact ⟨us,e,ha.impB hr fun _ _ q k => C0.refQ hk hm hρ hj q k⟩
 | own id => exact C1.of0 (C0.refQ hk hm hρ hj (av := .own id) hr hc)
 | eown id s i k => exact C1.of0 (C0.refQ hk hm hρ hj (av := .eown id s i k) hr hc)
 | osl id s i k => exact C1.of0 (C0.refQ hk hm hρ hj (av := .osl id s i k) hr hc)
 | box id k => exact C1.of0 (C0.refQ hk hm hρ hj (av := .box id k) hr hc)
 | cf gg id k => exact C1.of0 (C0.refQ hk hm hρ hj (av := .cf gg id k) hr hc)
 | el cs k => exact C1.of0 (C0.refQ hk hm hρ hj (av := .el cs k) hr hc)
 | sl s n sc f => exact C1.of0 (C0.refQ hk hm hρ hj (av := .sl s n sc f) hr hc)
 | v x => exact hc
 | junk => trivial
 | tup cs => exact hc
theorem C2.refQ {av : AV} {u : Value} (hr : refQ2 q j av = true) (hc : C2 X av u) : C2 Y av u := by
 cases av with
 | tup vs => obtain ⟨us,e,ha⟩ := hc; exact ⟨us,e,ha.impB hr fun _ _ q k => C1.refQ hk hm hρ hj q k⟩
 | agg cs => exact C2.of1 (C1.refQ hk hm hρ hj (av := .agg cs) hr hc)
 | fn g cs => exact C2.of1 (C1.refQ hk hm hρ hj (av := .fn g cs) hr hc)
 | own id => exact C2.of1 (C1.refQ hk hm hρ hj (av := .own id) hr hc)
 | eown id s i k => exact C2.of1 (C1.refQ hk hm hρ hj (av := .eown id s i k) hr hc)
 | osl id s i k => exact C2.of1 (C1.refQ hk hm hρ hj (av := .osl id s i k) hr hc)
 | box id k => exact C2.of1 (C1.refQ hk hm hρ hj (av := .box id k) hr hc)
 | cf gg id k => exact C2.of1 (C1.refQ hk hm hρ hj (av := .cf gg id k) hr hc)
 | el cs k => exact C2.of1 (C1.refQ hk hm hρ hj (av := .el cs k) hr hc)
 | sl s n sc f => exact C2.of1 (C1.refQ hk hm hρ hj (av := .sl s n sc f) hr hc)
 | v x => exact hc
 | junk => trivial
end
theorem single_blocks (ρ : Nat → Value) (p : Nat × AO) : blocksOf ρ [p] = blks (ρ p.1) := by rw [blocks_cons]; simp [blocksOf]
theorem MSpec.opn {P : Program} {f : FuncId} {o o' : OB} {j : Nat} {Y : Type} {hs : Y → List (Nat × AO)} {avs : List AV} {r : AV} {ho : List (Nat × AO)} (hE : Enters P f) (hO : Opens o j hs)
  (h : ∀ y,∃ hs',Closes hs' j o' ∧ hasN j (hs y) = true ∧ hasN j hs' = true ∧ MSpec P f (hs y) avs r (hs' ++ ho))
  (hb : (avs.all (refQ1 (fun _ => false) j) && refQ2 (fun i => hasN i ho) j r && closedH ho ho && !(hasN j ho)) = true) : MSpec P f [(j, .obs o)] avs r ((j, .obs o') :: ho) := by
 simp only [Bool.and_eq_true,Bool.not_eq_true'] at hb
 obtain ⟨⟨⟨hav,hrr⟩,hcl⟩,hne⟩ := hb
 refine ⟨hE,fun w keep ρ args hkeep hobj hnd hbl hargs => ?_⟩
 obtain ⟨us,eu,hR⟩ := hobj _ (List.mem_singleton.2 rfl)
 have eu : ρ j = .tuple us := eu
 have hR : o.R w keep (ρ j) := hR
 have hsb := single_blocks ρ (j, .obs o)
 rw [hsb] at hnd hbl
 obtain ⟨y,ρ',hhd,hperm,hok⟩ := hO w keep (ρ j) hR
 obtain ⟨hs',hC,hj1,hj2,hM⟩ := h y
 have hmem : ∀ b,b ∈ blocksOf ρ' (hs y) ↔ b ∈ blks (ρ j) := fun b => hperm.mem_iff
 refine (hM.2 w keep ρ' args hkeep hok (hperm.nodup_iff.2 hnd) (fun b hb => hbl b ((hmem b).1 hb)) (hargs.impB hav fun _ _ q k => C1.refQ (X := ⟨w,keep,ρ⟩) (Y := ⟨w,keep,ρ'⟩) (fun _ h => h) rfl (fun _ h => by cases h) hhd q k)).mono ?_
 rintro e w' ⟨u,ρ3,rfl,hbel,hfix,hc,hout,hnd',hnew⟩
 rw [blocks_append,List.nodup_append] at hnd'
 obtain ⟨hn1,hn2,hn3⟩ := hnd'
 obtain ⟨vs,hR',hhd',hbs⟩ := hC w' (keepOf ⟨w,keep,fun b => b ∈ blocksOf ρ' (hs y)⟩ w' ρ3 (hs' ++ ho)) ρ3 hn1 (fun p hp => hout p (List.mem_append_left _ hp))
 let ρ4 : Nat → Value := fun i => if i = j then .tuple vs else ρ3 i
 have e4j : ρ4 j = .tuple vs := by simp [ρ4]
 have e4 : ∀ i,hasN i ho = true → ρ4 i = ρ3 i := fun i hi => by
  have : i ≠ j := by rintro rfl; rw [hne] at hi; cases hi
  simp [ρ4,this]
 have hb4 : blocksOf ρ4 ((j, .obs o') :: ho) = blks (.tuple vs) ++ blocksOf ρ3 ho := by
  rw [blocks_cons,blocks_congr fun p hp => e4 p.1 (hasN_mem.2 ⟨p,hp,rfl⟩)]
  show blks (ρ4 j) ++ _ = _
  rw [e4j]
 have hsub4 : ∀ b,b ∈ blocksOf ρ4 ((j, .obs o') :: ho) → b ∈ blocksOf ρ3 (hs' ++ ho) := fun b hb => by
  rw [hb4] at hb
  rw [blocks_append]
  exact (List.mem_append.1 hb).elim (fun h => List.mem_append_left _ (hbs b h)) (fun h => List.mem_append_right _ h)
 have hk4 : ∀ b,keepOf ⟨w,keep,fun b => b ∈ blocksOf ρ' (hs y)⟩ w' ρ3 (hs' ++ ho) b → keepOf ⟨w,keep,fun b => b ∈ blocksOf ρ [(j, .obs o)]⟩ w' ρ4 ((j, .obs o') :: ho) b := by
  rintro b ⟨h1,h2,h3⟩
  exact ⟨h1,fun hlt => (h2 hlt).imp id fun h => (by show b ∈ blocksOf ρ [(j, .obs o)]; rw [hsb]; exact (hmem b).1 h),fun h => h3 (hsub4 b h)⟩
 refine ⟨u,ρ4,rfl,⟨hbel.os,hbel.tape,hbel.output,hbel.size,fun k hk hM' => hbel.block k hk fun h => hM' (by rw [hsb]; exact (hmem k).1 h)⟩,?_,?_,?_,?_,?_⟩
 · intro p hp q hq eq
   obtain rfl := List.mem_singleton.1 hp
   refine .inr ⟨⟨vs,e4j⟩,⟨us,eu⟩,?_⟩
   show hdV (ρ4 j) = hdV (ρ j)
   rw [e4j,hhd',← hhd]
   obtain ⟨p',hp',ep⟩ := hasN_mem.1 hj1
   obtain ⟨q',hq',eq'⟩ := hasN_mem.1 hj2
   have := (hfix p' hp' q' (List.mem_append_left _ hq') (eq'.trans ep.symm)).hd
   rw [ep] at this
   exact this
 · exact C2.refQ (X := cxOf ⟨w,keep,fun b => b ∈ blocksOf ρ' (hs y)⟩ w' ρ3 (hs' ++ ho)) (Y := cxOf ⟨w,keep,fun b => b ∈ blocksOf ρ [(j, .obs o)]⟩ w' ρ4 ((j, .obs o') :: ho)) hk4 rfl e4 (by show hdV (ρ4 j) = hdV (ρ3 j); rw [e4j,hhd']) hrr hc
 · intro p hp
   rcases List.mem_cons.1 hp with rfl | hp
   · refine ⟨vs,e4j,?_⟩
     show o'.R w' _ (ρ4 j)
     rw [e4j]
     exact o'.mono hk4 (fun _ _ => rfl) (fun _ _ => rfl) hR'
   · exact ObjOk.over (X := cxOf ⟨w,keep,fun b => b ∈ blocksOf ρ' (hs y)⟩ w' ρ3 (hs' ++ ho)) (Y := cxOf ⟨w,keep,fun b => b ∈ blocksOf ρ [(j, .obs o)]⟩ w' ρ4 ((j, .obs o') :: ho)) hk4 rfl e4 (hasN_mem.2 ⟨p,hp,rfl⟩) (closedH_mem hcl p hp) (hout p (List.mem_append_right _ hp))
 · rw [hb4,List.nodup_append]
   exact ⟨(o'.lt hR').2.2,hn2,fun a ha b hb => hn3 a (hbs a ha) b hb⟩
 · intro b hb
   rcases hnew b (hsub4 b hb) with h | h
   · exact .inl h
   · exact .inr (by rw [hsb]; exact (hmem b).1 h)
theorem MSpec.cls {P : Program} {f : FuncId} {o' : OB} {j : Nat} {avs : List AV} {r : AV} {hs' ho : List (Nat × AO)} (hC : Closes hs' j o') (hM : MSpec P f [] avs r (hs' ++ ho))
  (hb : (refQ2 (fun i => hasN i ho) j r && closedH ho ho && !(hasN j ho)) = true) : MSpec P f [] avs r ((j, .obs o') :: ho) := by
 simp only [Bool.and_eq_true,Bool.not_eq_true'] at hb
 obtain ⟨⟨hrr,hcl⟩,hne⟩ := hb
 refine ⟨hM.1,fun w keep ρ args hkeep hobj hnd hbl hargs => (hM.2 w keep ρ args hkeep hobj hnd hbl hargs).mono ?_⟩
 rintro e w' ⟨u,ρ3,rfl,hbel,hfix,hc,hout,hnd',hnew⟩
 rw [blocks_append,List.nodup_append] at hnd'
 obtain ⟨hn1,hn2,hn3⟩ := hnd'
 obtain ⟨vs,hR',hhd',hbs⟩ := hC w' (keepOf ⟨w,keep,fun b => b ∈ blocksOf ρ []⟩ w' ρ3 (hs' ++ ho)) ρ3 hn1 (fun p hp => hout p (List.mem_append_left _ hp))
 let ρ4 : Nat → Value := fun i => if i = j then .tuple vs else ρ3 i
 have e4j : ρ4 j = .tuple vs := by simp [ρ4]
 have e4 : ∀ i,hasN i ho = true → ρ4 i = ρ3 i := fun i hi => by
  have : i ≠ j := by rintro rfl; rw [hne] at hi; cases hi
  simp [ρ4,this]
 have hb4 : blocksOf ρ4 ((j, .obs o') :: ho) = blks (.tuple vs) ++ blocksOf ρ3 ho := by
  rw [blocks_cons,blocks_congr fun p hp => e4 p.1 (hasN_mem.2 ⟨p,hp,rfl⟩)]
  show blks (ρ4 j) ++ _ = _
  rw [e4j]
 have hsub4 : ∀ b,b ∈ blocksOf ρ4 ((j, .obs o') :: ho) → b ∈ blocksOf ρ3 (hs' ++ ho) := fun b hb => by
  rw [hb4] at hb
  rw [blocks_append]
  exact (List.mem_append.1 hb).elim (fun h => List.mem_append_left _ (hbs b h)) (fun h => List.mem_append_right _ h)
 have hk4 : ∀ b,keepOf ⟨w,keep,fun b => b ∈ blocksOf ρ []⟩ w' ρ3 (hs' ++ ho) b → keepOf ⟨w,keep,fun b => b ∈ blocksOf ρ []⟩ w' ρ4 ((j, .obs o') :: ho) b :=
  fun b ⟨h1,h2,h3⟩ => ⟨h1,h2,fun h => h3 (hsub4 b h)⟩
 refine ⟨u,ρ4,rfl,hbel,(fun p hp => by cases hp),?_,?_,?_,fun b hb => hnew b (hsub4 b hb)⟩
 · exact C2.refQ (X := cxOf ⟨w,keep,fun b => b ∈ blocksOf ρ []⟩ w' ρ3 (hs' ++ ho)) (Y := cxOf ⟨w,keep,fun b => b ∈ blocksOf ρ []⟩ w' ρ4 ((j, .obs o') :: ho)) hk4 rfl e4 (by show hdV (ρ4 j) = hdV (ρ3 j); rw [e4j,hhd']) hrr hc
 · intro p hp
   rcases List.mem_cons.1 hp with rfl | hp
   · refine ⟨vs,e4j,?_⟩
     show o'.R w' _ (ρ4 j)
     rw [e4j]
     exact o'.mono hk4 (fun _ _ => rfl) (fun _ _ => rfl) hR'
   · exact ObjOk.over (X := cxOf ⟨w,keep,fun b => b ∈ blocksOf ρ []⟩ w' ρ3 (hs' ++ ho)) (Y := cxOf ⟨w,keep,fun b => b ∈ blocksOf ρ []⟩ w' ρ4 ((j, .obs o') :: ho)) hk4 rfl e4 (hasN_mem.2 ⟨p,hp,rfl⟩) (closedH_mem hcl p hp) (hout p (List.mem_append_right _ hp))
 · rw [hb4,List.nodup_append]
   exact ⟨(o'.lt hR').2.2,hn2,fun a ha b hb => hn3 a (hbs a ha) b hb⟩
def packR {α : Type} (hs : α → List (Nat × AO)) (w : World) (k : Nat → Prop) (v : Value) : Prop :=
 ∃ (x : α) (ρ : Nat → Value) (us : List Value),v = .tuple (hdV (ρ 0) :: us).toArray ∧ us.flatMap blk1 = blocksOf ρ (hs x) ∧ (blocksOf ρ (hs x)).Nodup ∧ hasN 0 (hs x) = true ∧ (hdV (ρ 0)).oneCell' = true ∧ ∀ p ∈ hs x,ObjOk ⟨w,k,ρ⟩ p.1 p.2
theorem blks_tup (x : Value) (us : List Value) : blks (.tuple (x :: us).toArray) = us.flatMap blk1 := by simp [blks]
def OB.pack {α : Type} (hs : α → List (Nat × AO)) : OB where
 R := packR hs
 mono := by
  rintro w w' k k' v hk hm hb ⟨x,ρ,us,rfl,hbl,hnd,hn,h1,hok⟩
  rw [blks_tup,hbl] at hb
  exact ⟨x,ρ,us,rfl,hbl,hnd,hn,h1,fun p hp => ObjOk.same (X := ⟨w,k,ρ⟩) (Y := ⟨w',k',ρ⟩) hk hm rfl (fun b hb' => hb b (mem_blocks.2 ⟨p,hp,hb'⟩)) (hok p hp)⟩
 lt := by
  rintro w k v ⟨x,ρ,us,rfl,hbl,hnd,hn,h1,hok⟩
  rw [blks_tup,hbl]
  refine ⟨fun b hb => ?_,h1,hnd⟩
  obtain ⟨p,hp,hb'⟩ := mem_blocks.1 hb
  exact (hok p hp).lt b hb'
theorem Opens.pack {α : Type} (hs : α → List (Nat × AO)) : Opens (OB.pack hs) 0 hs := by
 rintro w k v ⟨x,ρ,us,rfl,hbl,hnd,hn,h1,hok⟩
 exact ⟨x,ρ,rfl,by rw [blks_tup,hbl],hok⟩
theorem flat_ptr (l : List Nat) : (l.map fun b => Value.pointer (some ⟨b,0,none⟩)).flatMap blk1 = l := by
 induction l with
 | nil => rfl
 | cons x l ih => rw [List.map_cons,List.flatMap_cons,ih]; rfl
theorem Closes.pack {α : Type} (hs : α → List (Nat × AO)) (x : α) (hn : hasN 0 (hs x) = true) (h1 : ∀ (X : CX),(∀ p ∈ hs x,ObjOk X p.1 p.2) → (hdV (X.ρ 0)).oneCell' = true) : Closes (hs x) 0 (OB.pack hs) := by
 intro w k ρ hnd hok
 refine ⟨_,⟨x,ρ,(blocksOf ρ (hs x)).map fun b => .pointer (some ⟨b,0,none⟩),rfl,flat_ptr _,hnd,hn,h1 ⟨w,k,ρ⟩ hok,hok⟩,rfl,fun b hb => ?_⟩
 rw [blks_tup,flat_ptr] at hb
 exact hb
theorem Opens.imp {o : OB} {j : Nat} {Y Z : Type} {hs : Y → List (Nat × AO)} {gs : Z → List (Nat × AO)} (h : Opens o j hs) (hi : ∀ (X : CX) y,(blocksOf X.ρ (hs y)).Nodup → (∀ p ∈ hs y,ObjOk X p.1 p.2) → ∃ z ρ',hdV (ρ' j) = hdV (X.ρ j) ∧ (blocksOf ρ' (gs z)).Perm (blocksOf X.ρ (hs y)) ∧ ∀ p ∈ gs z,ObjOk ⟨X.w,X.keep,ρ'⟩ p.1 p.2) : Opens o j gs := by
 intro w k v hR
 obtain ⟨y,ρ,h1,h2,h3⟩ := h w k v hR
 obtain ⟨z,ρ',g1,g2,g3⟩ := hi ⟨w,k,ρ⟩ y (h2.nodup_iff.2 (o.lt hR).2.2) h3
 exact ⟨z,ρ',g1.trans h1,g2.trans h2,g3⟩
theorem Closes.imp {o : OB} {j : Nat} {hs gs : List (Nat × AO)} (h : Closes gs j o) (hi : ∀ (X : CX),(blocksOf X.ρ hs).Nodup → (∀ p ∈ hs,ObjOk X p.1 p.2) → ∃ ρ',hdV (ρ' j) = hdV (X.ρ j) ∧ (blocksOf ρ' gs).Nodup ∧ (∀ b ∈ blocksOf ρ' gs,b ∈ blocksOf X.ρ hs) ∧ ∀ p ∈ gs,ObjOk ⟨X.w,X.keep,ρ'⟩ p.1 p.2) : Closes hs j o := by
 intro w k ρ hnd hok
 obtain ⟨ρ',g1,g2,g3,g4⟩ := hi ⟨w,k,ρ⟩ hnd hok
 obtain ⟨us,a1,a2,a3⟩ := h w k ρ' g2 g4
 exact ⟨us,a1,a2.trans g1,fun b hb => g3 b (a3 b hb)⟩
end Go.Proofs.Ytmldeejaghflnaa

/-
 Plain Lean,no program in sight: what an event is,which events may be,and which bytes they are.
-/
namespace Go.Proofs.Ytmldeejaghflnaa
structure Clk where
 (c0 c1 c2 c3 c4 : Int)
def Clk.get (c : Clk) (r : Int) : Int := if r = 0 then c.c0 else if r = 1 then c.c1 else if r = 2 then c.c2 else if r = 3 then c.c3 else c.c4
structure Ev where
 (r n : Int) (c : Clk) (h k : Int) (key : ByteArray) (l : Int) (v : ByteArray)
structure Ed where
 (k : Int) (key : ByteArray) (l : Int) (v : ByteArray)
def Ev.ed (e : Ev) : Ed := ⟨e.k,e.key,e.l,e.v⟩
def withinB (n a b : Int) : Bool := decide (a ≤ n) && decide (n ≤ b)
def isLong (k : Int) : Bool := k != 1 && k != 2
def hasB (c : Clk) (r n : Int) : Bool := decide (0 ≤ r ∧ r < 5 ∧ 1 ≤ n ∧ n ≤ c.get r)
def belowB (a b : Ev) : Bool := hasB b.c a.r a.n
def lettersB (s : ByteArray) : Bool := s.data.toList.all fun b => decide (97 ≤ b.toNat ∧ b.toNat ≤ 122)
def keyE (s : ByteArray) : Int := if 1 ≤ s.size ∧ s.size ≤ 8 ∧ lettersB s = true then 0 else 10
def labelE (n : Int) : Int := if 0 ≤ n ∧ n < 2 then 0 else 11
def valueE (s : ByteArray) : Int := if 1 ≤ s.size ∧ s.size ≤ 12 then 0 else 12
def editE (e : Ed) : Int :=
 if e.k < 1 ∨ 5 < e.k then 1
 else if keyE e.key ≠ 0 then keyE e.key
 else if e.k = 1 ∨ e.k = 2 then (if e.l ≠ 0 then 11 else if e.v.size ≠ 0 then 12 else 0)
 else if labelE e.l ≠ 0 then labelE e.l
 else valueE e.v
def okN (n : Int) : Bool := withinB n 0 1048576
def mayE (e : Ev) : Int :=
 if !(withinB e.r 0 4 && withinB e.n 1 1048576 && withinB e.h 1 16777216) then 1
 else if !(okN e.c.c0 && okN e.c.c1 && okN e.c.c2 && okN e.c.c3 && okN e.c.c4) then 1
 else if e.c.get e.r != e.n - 1 then 1
 else editE e.ed
def vputF : Nat → Nat → List UInt8
  | 0,n => [UInt8.ofNat n]
  | f + 1,n => if n < 128 then [UInt8.ofNat n] else UInt8.ofNat (n % 128 + 128) :: vputF f (n / 128)
def vput (n : Nat) : List UInt8 := vputF 9 n
def vputI (n : Int) : List UInt8 := vput n.toNat
def others (e : Ev) : List Int :=
 (if e.r ≠ 0 then [e.c.c0] else []) ++ (if e.r ≠ 1 then [e.c.c1] else []) ++ (if e.r ≠ 2 then [e.c.c2] else []) ++ (if e.r ≠ 3 then [e.c.c3] else []) ++ (if e.r ≠ 4 then [e.c.c4] else [])
def byteOf (n : Int) : UInt8 := UInt8.ofNat n.toNat
def words (s : ByteArray) : List UInt8 := UInt8.ofNat s.size :: s.data.toList
def evBytes (e : Ev) : List UInt8 :=
 [byteOf e.k,byteOf e.r] ++ vputI e.n ++ (others e).flatMap vputI ++ vputI e.h ++ words e.key ++ (if isLong e.k then byteOf e.l :: words e.v else [])
def evOut (e : Ev) : List UInt8 := if mayE e = 0 then evBytes e else []
theorem vputF_pos (f n : Nat) : 1 ≤ (vputF f n).length := by
 cases f with
 | zero => simp [vputF]
 | succ f => unfold vputF; split <;> simp
theorem vputF_le (f n : Nat) : (vputF f n).length ≤ f + 1 := by
 induction f generalizing n with
 | zero => simp [vputF]
 | succ f ih => unfold vputF; split <;> simp; exact ih _
theorem vput_round {acc t : List UInt8} {f m : Nat} (h : acc ++ vputF f m = t) (hm : m < 128 ^ (f + 1)) (h128 : 128 ≤ m) :
  ∃ f',(acc ++ [UInt8.ofNat (m % 128 + 128)]) ++ vputF f' (m / 128) = t ∧ m / 128 < 128 ^ (f' + 1) := by
 cases f with
 | zero => simp at hm; omega
 | succ f =>
   refine ⟨f,?_,?_⟩
   · rw [← h]
     simp [vputF,Nat.not_lt.2 h128]
   · rw [Nat.pow_succ] at hm
     exact Nat.div_lt_of_lt_mul (by omega)
theorem vput_last {acc t : List UInt8} {f m : Nat} (h : acc ++ vputF f m = t) (hm : m < 128) : acc ++ [UInt8.ofNat m] = t := by
 rw [← h]
 cases f with
 | zero => rfl
 | succ f => simp [vputF,hm]
theorem vput_start (n : Nat) (h : n ≤ 4294967296) : ([] : List UInt8) ++ vputF 9 n = vput n ∧ n < 128 ^ (9 + 1) := ⟨rfl,by
 have : 128 ^ (9 + 1) = 1180591620717411303424 := by decide
 omega⟩
end Go.Proofs.Ytmldeejaghflnaa

/-
 Plain Lean: what an event that may be is like.
-/
namespace Go.Proofs.Ytmldeejaghflnaa
theorem withinB_true {n a b : Int} (h : withinB n a b = true) : a ≤ n ∧ n ≤ b := by simpa [withinB] using h
theorem withinB_of {n a b : Int} (h : a ≤ n ∧ n ≤ b) : withinB n a b = true := by simp [withinB,h.1,h.2]
structure MayB (e : Ev) : Prop where
 r0 : 0 ≤ e.r
 r4 : e.r ≤ 4
 n1 : 1 ≤ e.n
 n2 : e.n ≤ 1048576
 h1 : 1 ≤ e.h
 h2 : e.h ≤ 16777216
 a0 : 0 ≤ e.c.c0 ∧ e.c.c0 ≤ 1048576
 a1 : 0 ≤ e.c.c1 ∧ e.c.c1 ≤ 1048576
 a2 : 0 ≤ e.c.c2 ∧ e.c.c2 ≤ 1048576
 a3 : 0 ≤ e.c.c3 ∧ e.c.c3 ≤ 1048576
 a4 : 0 ≤ e.c.c4 ∧ e.c.c4 ≤ 1048576
 own : e.c.get e.r = e.n - 1
 ed : editE e.ed = 0
theorem mayE_zero {e : Ev} (h : mayE e = 0) : MayB e := by
 unfold mayE at h
 split at h
 · cases h
 · rename_i g1
   split at h
   · cases h
   · rename_i g2
     split at h
     · cases h
     · rename_i g3
       simp only [Bool.not_eq_true,Bool.not_eq_false',Bool.and_eq_true,okN] at g1 g2
       simp only [bne_iff_ne,ne_eq,Decidable.not_not] at g3
       obtain ⟨⟨hr,hn⟩,hh⟩ := g1
       obtain ⟨⟨⟨⟨h0,h1⟩,h2⟩,h3⟩,h4⟩ := g2
       exact ⟨(withinB_true hr).1,(withinB_true hr).2,(withinB_true hn).1,(withinB_true hn).2,(withinB_true hh).1,(withinB_true hh).2,withinB_true h0,withinB_true h1,withinB_true h2,withinB_true h3,withinB_true h4,g3,h⟩
theorem editE_zero {e : Ed} (h : editE e = 0) : 1 ≤ e.k ∧ e.k ≤ 5 ∧ 1 ≤ e.key.size ∧ e.key.size ≤ 8 ∧ lettersB e.key = true ∧ (isLong e.k = true → 0 ≤ e.l ∧ e.l ≤ 1 ∧ 1 ≤ e.v.size ∧ e.v.size ≤ 12) ∧ (isLong e.k = false → e.l = 0 ∧ e.v.size = 0) := by
 unfold editE at h
 by_cases h1 : e.k < 1 ∨ 5 < e.k
 · rw [if_pos h1] at h; cases h
 · rw [if_neg h1] at h
   by_cases h2 : keyE e.key ≠ 0
   · rw [if_pos h2] at h; exact absurd h h2
   · rw [if_neg h2] at h
     have hk : keyE e.key = 0 := by simpa using h2
     unfold keyE at hk
     split at hk
     · rename_i hk'
       refine ⟨by omega,by omega,hk'.1,hk'.2.1,hk'.2.2,?_,?_⟩
       · intro hl
         simp only [isLong,Bool.and_eq_true,bne_iff_ne,ne_eq] at hl
         rw [if_neg (by omega)] at h
         by_cases h3 : labelE e.l ≠ 0
         · rw [if_pos h3] at h; exact absurd h h3
         · rw [if_neg h3] at h
           have h4 : labelE e.l = 0 := by simpa using h3
           unfold labelE at h4
           unfold valueE at h
           split at h4
           · split at h
             · rename_i a b; exact ⟨by omega,by omega,b.1,b.2⟩
             · cases h
           · cases h4
       · intro hl
         simp only [isLong,Bool.and_eq_false_iff,bne_eq_false_iff_eq] at hl
         rw [if_pos hl] at h
         by_cases h3 : e.l ≠ 0
         · rw [if_pos h3] at h; cases h
         · rw [if_neg h3] at h
           by_cases h4 : e.v.size ≠ 0
           · rw [if_pos h4] at h; cases h
           · exact ⟨by simpa using h3,by simpa using h4⟩
     · cases hk
theorem mayE_of {e : Ev} (m : MayB e) : mayE e = 0 := by
 unfold mayE okN
 rw [withinB_of ⟨m.r0,m.r4⟩,withinB_of ⟨m.n1,m.n2⟩,withinB_of ⟨m.h1,m.h2⟩,withinB_of m.a0,withinB_of m.a1,withinB_of m.a2,withinB_of m.a3,withinB_of m.a4]
 have := m.own
 simp [this,m.ed]
end Go.Proofs.Ytmldeejaghflnaa

/-
 What package text and the small functions of package event compute.
-/
namespace Go.Proofs.Ytmldeejaghflnaa
open Go.RowKit
def Clk.cs (c : Clk) : List AV := [.v (.int .i64 c.c0), .v (.int .i64 c.c1), .v (.int .i64 c.c2), .v (.int .i64 c.c3), .v (.int .i64 c.c4)]
def Clk.av (c : Clk) : AV := .agg c.cs
def Ev.cs (e : Ev) : List AV := [.v (.int .i64 e.r), .v (.int .i64 e.n), .v (.int .i64 e.c.c0), .v (.int .i64 e.c.c1), .v (.int .i64 e.c.c2), .v (.int .i64 e.c.c3), .v (.int .i64 e.c.c4), .v (.int .i64 e.h), .v (.int .i64 e.k), .v (.string e.key), .v (.int .i64 e.l), .v (.string e.v)]
def Ev.av (e : Ev) : AV := .agg e.cs
def Ed.av (e : Ed) : AV := .agg [.v (.int .i64 e.k), .v (.string e.key), .v (.int .i64 e.l), .v (.string e.v)]
theorem lettersB_iff (s : ByteArray) : lettersB s = true ↔ ∀ i (h : i < s.size),97 ≤ (s[i]'h).toNat ∧ (s[i]'h).toNat ≤ 122 := by
 unfold lettersB
 rw [List.all_eq_true]
 constructor
 · intro h i hi
   have := h s[i] (by
    show s.data[i]'hi ∈ s.data.toList
    exact Array.mem_toList_iff.2 (Array.getElem_mem _))
   simpa using this
 · intro h b hb
   obtain ⟨i,hi,rfl⟩ := Array.getElem_of_mem (Array.mem_toList_iff.1 hb)
   have h1 : 97 ≤ (s.data[i]'hi).toNat ∧ (s.data[i]'hi).toNat ≤ 122 := h i hi
   simpa using h1
theorem keyE_ok {s : ByteArray} (h1 : 1 ≤ s.size) (h2 : s.size ≤ 8) (h : ∀ i (h : i < s.size),97 ≤ (s[i]'h).toNat ∧ (s[i]'h).toNat ≤ 122) : keyE s = 0 := by
 unfold keyE
 rw [if_pos ⟨h1,h2,(lettersB_iff s).2 h⟩]
theorem keyE_no {s : ByteArray} {i : Nat} (hi : i < s.size) (h : ¬ (97 ≤ (s[i]'hi).toNat ∧ (s[i]'hi).toNat ≤ 122)) : keyE s = 10 := by
 unfold keyE
 rw [if_neg (fun hh => h ((lettersB_iff s).1 hh.2.2 i hi))]
theorem keyE_size {s : ByteArray} (h : ¬ (1 ≤ s.size ∧ s.size ≤ 8)) : keyE s = 10 := by
 unfold keyE
 rw [if_neg (fun hh => h ⟨hh.1,hh.2.1⟩)]
set_option maxHeartbeats 1000000 in
theorem key_any (s : ByteArray) (w : World) :
  Calls Try.prog 102 #[.string s] w fun e w' => e = .returned (.int .i64 (keyE s)) ∧ Below w.heap.size w w' := by
 by_cases h1 : 1 ≤ s.size
 · by_cases h2 : s.size ≤ 8
   · go_enter Try.func102,Try.ntmps102
     go_wp2
     go_loopw [] (fun w' => ∃ pos : Nat,w' = w.iter s pos ∧ ∀ i (h : i < s.size),i < pos → 97 ≤ (s[i]'h).toNat ∧ (s[i]'h).toNat ≤ 122) (fun w' => s.size - w'.iterPos w.heap.size)
     case atStart => exact ⟨0,rfl,fun i _ h => by omega⟩
     case round =>
      obtain ⟨pos,rfl,hl⟩ := hrel
      have HL := Lib.hid hl
      clear hl
      by_cases hp : pos < s.size
      · by_cases ha : (s[pos]'hp).toNat < 128
        · have hnx : ∀ ty,(Instr.next (.pointer (some ⟨w.heap.size,0,none⟩)) true ty).run Try.prog (w.iter s pos) = _ := fun ty => run_next_ascii w s pos ty hp ha
          by_cases h97 : 97 ≤ (s[pos]'hp).toNat
          · by_cases h122 : (s[pos]'hp).toNat ≤ 122
            · go_wp2
              go_roundw
              case rel =>
               exact ⟨pos + 1,rfl,fun i h hi => by
                by_cases e : i = pos
                · subst e; exact ⟨h97,h122⟩
                · exact HL.out i h (by omega)⟩
              case measure =>
               simp
               omega
            · go_wp2
              go_ret
              exact ⟨ret_int (keyE_no hp (fun hh => h122 hh.2)).symm,(Below.refl _ _).alloc (Nat.le_refl _) _⟩
          · go_wp2
            go_ret
            exact ⟨ret_int (keyE_no hp (fun hh => h97 hh.1)).symm,(Below.refl _ _).alloc (Nat.le_refl _) _⟩
        · have hnx : ∀ ty,(Instr.next (.pointer (some ⟨w.heap.size,0,none⟩)) true ty).run Try.prog (w.iter s pos) = _ := fun ty => run_next_any w s pos ty hp
          have hd := (decode_high s pos hp (by omega)).1
          go_wp2
          go_ret
          exact ⟨ret_int (keyE_no hp (by omega)).symm,(Below.refl _ _).alloc (Nat.le_refl _) _⟩
      · have hnx : ∀ ty,(Instr.next (.pointer (some ⟨w.heap.size,0,none⟩)) true ty).run Try.prog (w.iter s pos) = _ := fun ty => run_next_end w s pos ty hp
        go_wp2
        go_ret
        exact ⟨ret_int (keyE_ok h1 h2 (fun i h => HL.out i h (by omega))).symm,(Below.refl _ _).alloc (Nat.le_refl _) _⟩
   · go_enter Try.func102,Try.ntmps102
     go_wp2
     go_ret
     exact ⟨ret_int (keyE_size (by omega)).symm,Below.refl _ _⟩
 · go_enter Try.func102,Try.ntmps102
   go_wp2
   go_ret
   exact ⟨ret_int (keyE_size (by omega)).symm,Below.refl _ _⟩
theorem key_spec (s : ByteArray) : ASpec Try.prog 102 [.v (.string s)] (.v (.int .i64 (keyE s))) [] :=
 spec_plain (xs := [.string s]) ⟨_,_,Try.func102,rfl,rfl⟩ fun w => key_any s w
theorem label_spec (n : Int) : ASpec Try.prog 104 [.v (.int .i64 n)] (.v (.int .i64 (labelE n))) [] := by
 refine aspec_of lay_ok 261 Try.func104 rfl rfl rfl ?_
 repeat' ((conv => whnf); first | refine K1.a ?_ | refine K1.b ?_ | refine K1.c ?_ | refine K1.d ?_ | refine K1.e ?_ | refine K1.f ?_ | refine Spl.mk (fun _ => ?_) (fun _ => ?_) | refine SNil.mk (fun _ => ?_) ?_ | refine K1.g ?_ | refine ASl.frz ?_ | refine Wr.b64 ?_ | refine Wr.bu64 ?_ | refine Wr.bu32 ?_ | refine Wr.bu8 ?_ | refine K1.u8 ?_ | refine K1.u64 ?_ | refine K1.u32 ?_ | refine K1.h ?_ | refine K1.i ?_ | refine K1.q ?_ | refine K1.j ?_ | refine K1.k ?_ | refine BSpl.dec (fun _ => ?_) (fun _ => ?_) | refine K1.l ?_ | refine K1.n ?_ | refine BSpl.mk (fun _ => ?_) (fun _ => ?_))
 all_goals (refine ARet.int rfl ?_; unfold labelE; (first | rw [if_pos (by omega)] | rw [if_neg (by omega)]))
theorem value_spec (s : ByteArray) : ASpec Try.prog 103 [.v (.string s)] (.v (.int .i64 (valueE s))) [] := by
 refine aspec_of lay_ok 1029 Try.func103 rfl rfl rfl ?_
 repeat' ((conv => whnf); first | refine K1.a ?_ | refine K1.b ?_ | refine K1.c ?_ | refine K1.d ?_ | refine K1.e ?_ | refine K1.f ?_ | refine Spl.mk (fun _ => ?_) (fun _ => ?_) | refine SNil.mk (fun _ => ?_) ?_ | refine K1.g ?_ | refine ASl.frz ?_ | refine Wr.b64 ?_ | refine Wr.bu64 ?_ | refine Wr.bu32 ?_ | refine Wr.bu8 ?_ | refine K1.u8 ?_ | refine K1.u64 ?_ | refine K1.u32 ?_ | refine K1.h ?_ | refine K1.i ?_ | refine K1.q ?_ | refine K1.j ?_ | refine K1.k ?_ | refine BSpl.dec (fun _ => ?_) (fun _ => ?_) | refine K1.l ?_ | refine K1.n ?_ | refine BSpl.mk (fun _ => ?_) (fun _ => ?_))
 all_goals (refine ARet.int rfl ?_; unfold valueE; (first | rw [if_pos (by omega)] | rw [if_neg (by omega)]))
theorem size_zero {s : ByteArray} (h : s = ⟨#[]⟩) : s.size = 0 := by rw [h]; rfl
theorem size_pos {s : ByteArray} (h : ¬ s = ⟨#[]⟩) : s.size ≠ 0 := fun e => h (by
 cases s with
 | mk d =>
   have : d = #[] := Array.eq_empty_of_size_eq_zero e
   rw [this])
set_option maxRecDepth 100000 in
theorem edit_spec (e : Ed) : ASpec Try.prog 99 [e.av] (.v (.int .i64 (editE e))) [] := by
 refine aspec_of lay_ok 142338035743 Try.func99 rfl rfl rfl ?_
 repeat' ((conv => whnf); first | refine K1.a ?_ | refine K1.b ?_ | refine K1.c ?_ | refine K1.d ?_ | refine K1.e ?_ | refine K1.f ?_ | refine ACall.plain _ _ (key_spec _) (SubL.cons (.eq _) .nil) rfl ?_ | refine ACall.plain _ _ (label_spec _) (SubL.cons (.eq _) .nil) rfl ?_ | refine ACall.plain _ _ (value_spec _) (SubL.cons (.eq _) .nil) rfl ?_ | refine Spl.mk (fun _ => ?_) (fun _ => ?_) | refine SNil.mk (fun _ => ?_) ?_ | refine K1.g ?_ | refine ASl.frz ?_ | refine Wr.b64 ?_ | refine Wr.bu64 ?_ | refine Wr.bu32 ?_ | refine Wr.bu8 ?_ | refine K1.u8 ?_ | refine K1.u64 ?_ | refine K1.u32 ?_ | refine K1.h ?_ | refine K1.i ?_ | refine K1.q ?_ | refine K1.j ?_ | refine K1.k ?_ | refine BSpl.dec (fun _ => ?_) (fun _ => ?_) | refine K1.l ?_ | refine K1.n ?_ | refine BSpl.mk (fun _ => ?_) (fun _ => ?_))
 all_goals (refine ARet.int rfl ?_; unfold editE; try have h0 := size_pos ‹_›)
 all_goals grind [size_zero]
theorem within_spec (n a b : Int) : ASpec Try.prog 95 [.v (.int .i64 n), .v (.int .i64 a), .v (.int .i64 b)] (.v (.bool (decide (a ≤ n ∧ n ≤ b)))) [] := by
 refine aspec_of lay_ok 71 Try.func95 rfl rfl rfl ?_
 repeat' ((conv => whnf); first | refine K1.a ?_ | refine K1.b ?_ | refine K1.c ?_ | refine K1.d ?_ | refine K1.e ?_ | refine K1.f ?_ | refine Spl.mk (fun _ => ?_) (fun _ => ?_) | refine SNil.mk (fun _ => ?_) ?_ | refine K1.g ?_ | refine ASl.frz ?_ | refine Wr.b64 ?_ | refine Wr.bu64 ?_ | refine Wr.bu32 ?_ | refine Wr.bu8 ?_ | refine K1.u8 ?_ | refine K1.u64 ?_ | refine K1.u32 ?_ | refine K1.h ?_ | refine K1.i ?_ | refine K1.q ?_ | refine K1.j ?_ | refine K1.k ?_ | refine BSpl.dec (fun _ => ?_) (fun _ => ?_) | refine K1.l ?_ | refine K1.n ?_ | refine BSpl.mk (fun _ => ?_) (fun _ => ?_))
 all_goals (refine ARet.bool rfl ?_; simp [*])
theorem isLong_spec (k : Int) : ASpec Try.prog 83 [.v (.int .i64 k)] (.v (.bool (isLong k))) [] := by
 refine aspec_of lay_ok 5 Try.func83 rfl rfl rfl ?_
 repeat' ((conv => whnf); first | refine K1.a ?_ | refine K1.b ?_ | refine K1.c ?_ | refine K1.d ?_ | refine K1.e ?_ | refine K1.f ?_ | refine Spl.mk (fun _ => ?_) (fun _ => ?_) | refine SNil.mk (fun _ => ?_) ?_ | refine K1.g ?_ | refine ASl.frz ?_ | refine Wr.b64 ?_ | refine Wr.bu64 ?_ | refine Wr.bu32 ?_ | refine Wr.bu8 ?_ | refine K1.u8 ?_ | refine K1.u64 ?_ | refine K1.u32 ?_ | refine K1.h ?_ | refine K1.i ?_ | refine K1.q ?_ | refine K1.j ?_ | refine K1.k ?_ | refine BSpl.dec (fun _ => ?_) (fun _ => ?_) | refine K1.l ?_ | refine K1.n ?_ | refine BSpl.mk (fun _ => ?_) (fun _ => ?_))
 all_goals (refine ARet.bool rfl ?_; simp [isLong, *])
set_option maxRecDepth 100000 in
theorem may_spec (e : Ev) : ASpec Try.prog 80 [e.av] (.v (.int .i64 (mayE e))) [] := by
 obtain ⟨r,n,⟨c0,c1,c2,c3,c4⟩,h,k,key,l,v⟩ := e
 dsimp only [Ev.av,Ev.cs]
 by_cases hr : 0 ≤ r ∧ r ≤ 4
 · rcases (show r = 0 ∨ r = 1 ∨ r = 2 ∨ r = 3 ∨ r = 4 by omega) with rfl | rfl | rfl | rfl | rfl
   all_goals
    refine aspec_of lay_ok 275176751127 Try.func80 rfl rfl rfl ?_
    repeat' ((conv => whnf); first | refine K1.a ?_ | refine K1.b ?_ | refine K1.c ?_ | refine K1.d ?_ | refine K1.e ?_ | refine K1.f ?_ | refine ACall.plain _ _ (within_spec _ _ _) (SubL.cons (.eq _) (SubL.cons (.eq _) (SubL.cons (.eq _) .nil))) rfl ?_ | refine ACall.plain _ _ (edit_spec ⟨k,key,l,v⟩) (SubL.cons (.eq _) .nil) rfl ?_ | refine ALoop.rounds 6 ?_ | refine Spl.mk (fun _ => ?_) (fun _ => ?_) | refine SNil.mk (fun _ => ?_) ?_ | refine K1.g ?_ | refine ASl.frz ?_ | refine Wr.b64 ?_ | refine Wr.bu64 ?_ | refine Wr.bu32 ?_ | refine Wr.bu8 ?_ | refine K1.u8 ?_ | refine K1.u64 ?_ | refine K1.u32 ?_ | refine K1.h ?_ | refine K1.i ?_ | refine K1.q ?_ | refine K1.j ?_ | refine K1.k ?_ | refine BSpl.dec (fun _ => ?_) (fun _ => ?_) | refine K1.l ?_ | refine K1.n ?_ | refine BSpl.mk (fun _ => ?_) (fun _ => ?_))
    all_goals refine ARet.int rfl ?_
    all_goals first | (simp [mayE,okN,withinB,Clk.get,Ev.ed, *]; done) | (simp [mayE,okN,withinB,Clk.get,Ev.ed, *]; omega)
 · refine aspec_of lay_ok 275176751127 Try.func80 rfl rfl rfl ?_
   repeat' ((conv => whnf); first | refine K1.a ?_ | refine K1.b ?_ | refine K1.c ?_ | refine K1.d ?_ | refine K1.e ?_ | refine K1.f ?_ | refine ACall.plain _ _ (within_spec _ _ _) (SubL.cons (.eq _) (SubL.cons (.eq _) (SubL.cons (.eq _) .nil))) rfl ?_ | refine ACall.plain _ _ (edit_spec ⟨k,key,l,v⟩) (SubL.cons (.eq _) .nil) rfl ?_ | refine ALoop.rounds 6 ?_ | refine Spl.mk (fun _ => ?_) (fun _ => ?_) | refine SNil.mk (fun _ => ?_) ?_ | refine K1.g ?_ | refine ASl.frz ?_ | refine Wr.b64 ?_ | refine Wr.bu64 ?_ | refine Wr.bu32 ?_ | refine Wr.bu8 ?_ | refine K1.u8 ?_ | refine K1.u64 ?_ | refine K1.u32 ?_ | refine K1.h ?_ | refine K1.i ?_ | refine K1.q ?_ | refine K1.j ?_ | refine K1.k ?_ | refine BSpl.dec (fun _ => ?_) (fun _ => ?_) | refine K1.l ?_ | refine K1.n ?_ | refine BSpl.mk (fun _ => ?_) (fun _ => ?_))
   all_goals refine ARet.int rfl ?_
   all_goals (simp [mayE,withinB]; omega)
end Go.Proofs.Ytmldeejaghflnaa

/-
 A record,or a frame: its parts,and which may be.
-/
namespace Go.Proofs.Ytmldeejaghflnaa
open Go.RowKit
structure Rc where
 (k r u : Int) (c : Clk) (ev : List Ev)
instance : Inhabited Ev := ⟨⟨0,0,⟨0,0,0,0,0⟩,0,0,⟨#[]⟩,0,⟨#[]⟩⟩⟩
abbrev evF (l : List Ev) : Nat → List AV := elsF Ev.cs l
def Rc.cs (x : Rc) : List AV := [.v (.int .i64 x.k), .v (.int .i64 x.r), .v (.int .i64 x.u), .v (.int .i64 x.c.c0), .v (.int .i64 x.c.c1), .v (.int .i64 x.c.c2), .v (.int .i64 x.c.c3), .v (.int .i64 x.c.c4), .sl 12 x.ev.length true (evF x.ev)]
def Rc.av (x : Rc) : AV := .agg x.cs
def clk0 : Clk := ⟨0,0,0,0,0⟩
def rcU (k : Int) : Bool := k == 3 || k == 4
def rcE (k : Int) : Bool := k == 1 || k == 2 || k == 5 || k == 4
def rcC (k : Int) : Bool := k == 6
def rcK (k : Int) : Bool := decide (1 ≤ k ∧ k ≤ 6)
def okC (c : Clk) : Bool := okN c.c0 && okN c.c1 && okN c.c2 && okN c.c3 && okN c.c4
def clkZ (c : Clk) : Bool := decide (c.c0 = 0 ∧ c.c1 = 0 ∧ c.c2 = 0 ∧ c.c3 = 0 ∧ c.c4 = 0)
theorem clkZ_iff (c : Clk) : clkZ c = true ↔ c = clk0 := by
 obtain ⟨a,b,d,e,f⟩ := c
 simp [clkZ,clk0]
def mayR (x : Rc) : Bool :=
 rcK x.k && decide (0 ≤ x.r) && decide (x.r < 5) && okN x.u && decide (x.ev.length ≤ 4096) && okC x.c && (rcU x.k || decide (x.u = 0)) && (rcC x.k || clkZ x.c) && (rcE x.k || decide (x.ev.length = 0)) &&
  x.ev.all (fun e => decide (mayE e = 0)) && (decide (x.k ≠ 1) || decide (x.ev.length = 1))
end Go.Proofs.Ytmldeejaghflnaa

/-
 A shelf (layer 15),told as a whole: by how many are not kept any more and which are; what New,Base,Len,From do.
-/
namespace Go.Proofs.Ytmldeejaghflnaa
open Go.RowKit
structure Shf where
 (base : Int) (kept : List Ev)
def Shf.len (s : Shf) : Int := s.base + (s.kept.length : Int)
def shB (most base : Int) (m : AV) : AO := .box 125 [.v (.int .i64 most), .v (.int .i64 base),m]
def evRow (l : List Ev) : AO := .row 66 12 l.length true (evF l)
def shHs (most : Int) (s : Shf) (_ : Unit) : List (Nat × AO) := [(0,shB most s.base (.own 9)),(9,evRow s.kept)]
def shO (most : Int) (s : Shf) : OB := OB.pack (shHs most s)
theorem boxO_one {X : CX} {i : Nat} {t : TypeId} {cs : List AV} (h : ObjOk X i (.box t cs)) : (hdV (X.ρ i)).oneCell' = true := by
 obtain ⟨b,us,e,_⟩ := h
 rw [e]
 rfl
theorem sh_close (most : Int) (s : Shf) : Closes (shHs most s ()) 0 (shO most s) := Closes.pack (shHs most s) () rfl fun _ hok => boxO_one (hok _ List.mem_cons_self)
def atV (ρ : Nat → Value) (j : Nat) (v : Value) : Nat → Value := fun i => if i = j then v else ρ i
theorem sh_close8 (most : Int) (s : Shf) : Closes [(0,shB most s.base (.own 8)),(8,evRow s.kept)] 0 (shO most s) :=
 Closes.imp (sh_close most s) fun X hnd hok => by
  have h0 := hok _ List.mem_cons_self
  have h8 := hok (8,evRow s.kept) (List.mem_cons_of_mem _ List.mem_cons_self)
  have e : blocksOf (atV X.ρ 9 (X.ρ 8)) (shHs most s ()) = blocksOf X.ρ [(0,shB most s.base (.own 8)),(8,evRow s.kept)] := rfl
  refine ⟨atV X.ρ 9 (X.ρ 8),rfl,by rw [e]; exact hnd,fun b hb => by rw [e] at hb; exact hb,fun p hp => ?_⟩
  simp only [shHs,List.mem_cons,List.not_mem_nil,or_false] at hp
  rcases hp with rfl | rfl
  · obtain ⟨b,us,h1,h2,h3,h4⟩ := h0
    exact ⟨b,us,h1,h2,h3,fun i x u hx hu => by
     match i,hx with
     | 0,hx => cases hx; exact h4 0 _ u rfl hu
     | 1,hx => cases hx; exact h4 1 _ u rfl hu
     | 2,hx => cases hx; exact h4 2 _ u rfl hu⟩
  · exact h8
theorem sh_new (most base : Int) : Closes [(0,shB most base (.v (.slice none 0 0)))] 0 (shO most ⟨base,[]⟩) :=
 Closes.imp (sh_close most ⟨base,[]⟩) fun X hnd hok => by
  have h0 := hok _ List.mem_cons_self
  have e : blocksOf (atV X.ρ 9 (.slice none 0 0)) (shHs most ⟨base,[]⟩ ()) = blocksOf X.ρ [(0,shB most base (.v (.slice none 0 0)))] := rfl
  refine ⟨atV X.ρ 9 (.slice none 0 0),rfl,by rw [e]; exact hnd,fun b hb => by rw [e] at hb; exact hb,fun p hp => ?_⟩
  simp only [shHs,List.mem_cons,List.not_mem_nil,or_false] at hp
  rcases hp with rfl | rfl
  · obtain ⟨b,us,h1,h2,h3,h4⟩ := h0
    exact ⟨b,us,h1,h2,h3,fun i x u hx hu => by
     match i,hx with
     | 0,hx => cases hx; exact h4 0 _ u rfl hu
     | 1,hx => cases hx; exact h4 1 _ u rfl hu
     | 2,hx => cases hx; exact h4 2 _ u rfl hu⟩
  · exact ⟨[],World.ownsRow_nil X.w _ _ _,by omega,fun i hi => absurd hi (by simp),(fun _ x hx => by cases hx),All2.nil⟩
theorem sh_opn {f : FuncId} {most : Int} {s s' : Shf} {avs : List AV} {r : AV} {ho : List (Nat × AO)} (hE : Enters Try.prog f) (h : MSpec Try.prog f [(0,shB most s.base (.own 9)),(9,evRow s.kept)] avs r ([(0,shB most s'.base (.own 9)),(9,evRow s'.kept)] ++ ho))
  (hb : (avs.all (refQ1 (fun _ => false) 0) && refQ2 (fun i => hasN i ho) 0 r && closedH ho ho && !(hasN 0 ho)) = true) : MSpec Try.prog f [(0, .obs (shO most s))] avs r ((0, .obs (shO most s')) :: ho) :=
 MSpec.opn hE (Opens.pack (shHs most s)) (fun _ => ⟨_,sh_close most s',rfl,rfl,h⟩) hb
theorem sh_opn8 {f : FuncId} {most : Int} {s s' : Shf} {avs : List AV} {r : AV} {ho : List (Nat × AO)} (hE : Enters Try.prog f) (h : MSpec Try.prog f [(0,shB most s.base (.own 9)),(9,evRow s.kept)] avs r ([(0,shB most s'.base (.own 8)),(8,evRow s'.kept)] ++ ho))
  (hb : (avs.all (refQ1 (fun _ => false) 0) && refQ2 (fun i => hasN i ho) 0 r && closedH ho ho && !(hasN 0 ho)) = true) : MSpec Try.prog f [(0, .obs (shO most s))] avs r ((0, .obs (shO most s')) :: ho) :=
 MSpec.opn hE (Opens.pack (shHs most s)) (fun _ => ⟨_,sh_close8 most s',rfl,rfl,h⟩) hb
theorem sh_new_m (most : Int) : MSpec Try.prog 61 [] [.v (.int .i64 most)] (.box 0 0) [(0, .obs (shO most ⟨0,[]⟩))] := by
 refine MSpec.cls (hs' := [(0,shB most 0 (.v (.slice none 0 0)))]) (ho := []) (sh_new most 0) ?_ rfl
 dsimp only [shB,List.append_nil]
 refine mspec_of lay_ok 5 10 Try.func61 rfl rfl rfl ?_
 repeat' ((conv => whnf); first | refine K1.a ?_ | refine K1.b ?_ | refine K1.c ?_ | refine K1.d ?_ | refine K1.e ?_ | refine K1.f ?_ | refine Spl.mk (fun _ => ?_) (fun _ => ?_) | refine SNil.mk (fun _ => ?_) ?_ | refine K1.g ?_ | refine ASl.frz ?_ | refine Wr.b64 ?_ | refine Wr.bu64 ?_ | refine Wr.bu32 ?_ | refine Wr.bu8 ?_ | refine K1.u8 ?_ | refine K1.u64 ?_ | refine K1.u32 ?_ | refine K1.h ?_ | refine K1.i ?_ | refine K1.q ?_ | refine K1.j ?_ | refine K1.k ?_ | refine BSpl.dec (fun _ => ?_) (fun _ => ?_) | refine K1.l ?_ | refine K1.n ?_ | refine BSpl.mk (fun _ => ?_) (fun _ => ?_))
 all_goals (conv => whnf)
 exact ⟨[(10,0)],rfl,rfl,⟨⟨_,rfl,OEq.refl _⟩,trivial⟩,rfl,rfl,AEq.refl _⟩
theorem sh_base_m (most : Int) (s : Shf) : MSpec Try.prog 41 [(0, .obs (shO most s))] [.box 0 0] (.v (.int .i64 s.base)) [(0, .obs (shO most s))] := by
 refine sh_opn (ho := []) ⟨_,_,Try.func41,rfl,rfl⟩ ?_ rfl
 dsimp only [shB,evRow,List.append_nil]
 refine mspec_of lay_ok 5 10 Try.func41 rfl rfl rfl ?_
 repeat' ((conv => whnf); first | refine K1.a ?_ | refine K1.b ?_ | refine K1.c ?_ | refine K1.d ?_ | refine K1.e ?_ | refine K1.f ?_ | refine Spl.mk (fun _ => ?_) (fun _ => ?_) | refine SNil.mk (fun _ => ?_) ?_ | refine K1.g ?_ | refine ASl.frz ?_ | refine Wr.b64 ?_ | refine Wr.bu64 ?_ | refine Wr.bu32 ?_ | refine Wr.bu8 ?_ | refine K1.u8 ?_ | refine K1.u64 ?_ | refine K1.u32 ?_ | refine K1.h ?_ | refine K1.i ?_ | refine K1.q ?_ | refine K1.j ?_ | refine K1.k ?_ | refine BSpl.dec (fun _ => ?_) (fun _ => ?_) | refine K1.l ?_ | refine K1.n ?_ | refine BSpl.mk (fun _ => ?_) (fun _ => ?_))
 all_goals (conv => whnf)
 exact ⟨[],rfl,rfl,⟨⟨_,rfl,OEq.refl _⟩,⟨_,rfl,OEq.refl _⟩,trivial⟩,rfl,rfl,AEq.refl _⟩
theorem sh_len_m (most : Int) (s : Shf) (h0 : 0 ≤ s.base) (h1 : s.base ≤ 1000000000000) (h2 : s.kept.length ≤ 1048576) : MSpec Try.prog 42 [(0, .obs (shO most s))] [.box 0 0] (.v (.int .i64 s.len)) [(0, .obs (shO most s))] := by
 refine sh_opn (ho := []) ⟨_,_,Try.func42,rfl,rfl⟩ ?_ rfl
 dsimp only [shB,evRow,List.append_nil]
 refine mspec_of lay_ok 5 10 Try.func42 rfl rfl rfl ?_
 repeat' ((conv => whnf); first | refine K1.a ?_ | refine K1.b ?_ | refine K1.c ?_ | refine K1.d ?_ | refine K1.e ?_ | refine K1.f ?_ | refine Spl.mk (fun _ => ?_) (fun _ => ?_) | refine SNil.mk (fun _ => ?_) ?_ | refine K1.g ?_ | refine ASl.frz ?_ | refine Wr.b64 ?_ | refine Wr.bu64 ?_ | refine Wr.bu32 ?_ | refine Wr.bu8 ?_ | refine K1.u8 ?_ | refine K1.u64 ?_ | refine K1.u32 ?_ | refine K1.h ?_ | refine K1.i ?_ | refine K1.q ?_ | refine K1.j ?_ | refine K1.k ?_ | refine BSpl.dec (fun _ => ?_) (fun _ => ?_) | refine K1.l ?_ | refine K1.n ?_ | refine BSpl.mk (fun _ => ?_) (fun _ => ?_))
 all_goals (conv => whnf)
 exact ⟨[],rfl,rfl,⟨⟨_,rfl,OEq.refl _⟩,⟨_,rfl,OEq.refl _⟩,trivial⟩,rfl,rfl,AEq.refl _⟩
end Go.Proofs.Ytmldeejaghflnaa
