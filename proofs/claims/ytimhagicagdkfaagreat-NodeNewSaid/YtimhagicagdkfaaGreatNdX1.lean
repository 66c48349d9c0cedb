/-
  Contracts of the walk: AmA.
-/
import Derived.WalkKit
import Derived.Deep.AppendSrc
import Derived.Lib.Hide
import Derived.Deep.Quiet
import Derived.Deep.Draws
import Derived.WalkLawsBesides
import Derived.Laws.IdiomStrings
import Derived.Deep.QuietTactic
import Derived.MapKept
/-
 An abstract machine for the walk,over any program: values that say what they read as (a slice by its cells,a local variable by its name),a small heap of the call's own objects,and what it means that the model's frame and memory are like that. (This file joins 7 texts.)
-/
namespace Go.Proofs.YtimhagicagdkfaaGreat
open Go.RowKit
inductive AV : Type where
  | v (x : Value)
  | agg (cs : List AV)
  | tup (vs : List AV)
  | sl (s n : Nat) (sc : Bool) (f : Nat → List AV)
  | own (id : Nat)
  | eown (id s i k : Nat)
  | osl (id s i m : Nat)
  | box (id off : Nat)
  | cf (g : FuncId) (id off : Nat)
  | el (cs : List AV) (k : Nat)
  | fn (g : FuncId) (caps : List AV)
  | junk
def flat : Nat → (Nat → List AV) → List AV
  | 0,_ => []
  | n + 1,f => f 0 ++ flat n (fun i => f (i + 1))
def blk1 : Value → List Nat
  | .pointer (some a) => [a.block]
  | .slice (some a) _ _ => [a.block]
  | .map (some r) => [r]
  | _ => []
def blks : Value → List Nat
  | .tuple us => us.toList.tail.flatMap blk1
  | v => blk1 v
def hdV : Value → Value
  | .tuple us => us.toList.headD undef
  | v => v
structure OB : Type where
 R : World → (Nat → Prop) → Value → Prop
 mono : ∀ {w w' : World} {k k' : Nat → Prop} {v : Value},(∀ b,k b → k' b) → (∀ b,k b → w'.heap[b]? = w.heap[b]?) → (∀ b ∈ blks v,w'.heap[b]? = w.heap[b]?) → R w k v → R w' k' v
 lt : ∀ {w : World} {k : Nat → Prop} {v : Value},R w k v → (∀ b ∈ blks v,b < w.heap.size) ∧ (hdV v).oneCell' = true ∧ (blks v).Nodup
structure RW : Type where
 e : TypeId
 s : Nat
 n : Nat
 sc : Bool
 f : Nat → List AV
inductive AO : Type where
  | box (t : TypeId) (cs : List AV)
  | row (e : TypeId) (s n : Nat) (sc : Bool) (f : Nat → List AV)
  | mp (t : TypeId) (ks : List (ByteArray × Option Nat)) (rs : List (ByteArray × RW))
  | obs (o : OB)
  | rn (e : TypeId) (cs : List AV)
def ofL : List (Nat × AV) → Nat → AV
  | [],_ => .junk
  | p :: l,t => bif Nat.beq t p.1 then p.2 else ofL l t
def mapS (m : AV → AV) : List (Nat × AV) → List (Nat × AV)
  | [] => []
  | (k,v) :: l => (k,m v) :: mapS m l
theorem ofL_mapS {m : AV → AV} (hm : m .junk = .junk) : ∀ (l : List (Nat × AV)) (t : Nat),ofL (mapS m l) t = m (ofL l t)
  | [],_ => hm.symm
  | (k,v) :: l,t => by
    simp only [mapS,ofL]
    cases Nat.beq t k with
    | true => rfl
    | false => exact ofL_mapS hm l t
structure AS where
 sl : List (Nat × AV)
 heap : List (Nat × AO)
 back : List (List (Nat × AV))
 base : Nat
def AS.tmps (st : AS) : Nat → AV := ofL st.sl
structure CX where
 w : World
 keep : Nat → Prop
 ρ : Nat → Value
inductive PC (w : World) (keep : Nat → Prop) : AV → Value → Prop where
  | v (x : Value) (h : x.oneCell' = true) : PC w keep (.v x) x
  | sl (s n : Nat) (sc : Bool) (f : Nat → List AV) (A : Option Addr) (c : Nat) (us : List Value) (hs : 0 < s) (hn : n ≤ c) (hc : c ≤ maxLen) (hl : us.length = n * s) (hf : ∀ i,i < n → (f i).length = s) (hsc : sc = true → ∀ x ∈ flat n f,∃ y,x = .v y)
     (hu : ∀ (i : Nat) (x : AV) (u : Value),(flat n f)[i]? = some x → us[i]? = some u → PC w keep x u)
     (hr : n = 0 ∨ ∃ b o,A = some ⟨b,o,none⟩ ∧ keep b ∧ ∀ (j : Nat) (u : Value),us[j]? = some u → w.cell? ⟨b,o + j,none⟩ = some u) : PC w keep (.sl s n sc f) (.slice A n c)
def All2 (R : AV → Value → Prop) (xs : List AV) (us : List Value) : Prop := xs.length = us.length ∧ ∀ (i : Nat) (x : AV) (u : Value),xs[i]? = some x → us[i]? = some u → R x u
def million : Nat := 1000000
def cfV (g : FuncId) (p : Value) : Value := bif Nat.blt g million then .func (.func g) #[] #[p] else .func (.func (Nat.sub g million)) #[p] #[]
def C0 (X : CX) : AV → Value → Prop
  | .own id,u => u = hdV (X.ρ id)
  | .eown id s i k,u => ∃ b n c,X.ρ id = .slice (some ⟨b,0,none⟩) n c ∧ u = .pointer (some ⟨b,i * s + k,none⟩)
  | .osl id s i m,u => (∃ b c,blk1 (hdV (X.ρ id)) = [b] ∧ m ≤ c ∧ u = .slice (some ⟨b,i * s,none⟩) m c) ∨ (m = 0 ∧ ∃ A c,u = .slice A 0 c)
  | .box id off,u => ∃ b,hdV (X.ρ id) = .pointer (some ⟨b,0,none⟩) ∧ u = .pointer (some ⟨b,off,none⟩)
  | .cf g id off,u => ∃ b,hdV (X.ρ id) = .pointer (some ⟨b,0,none⟩) ∧ u = cfV g (.pointer (some ⟨b,off,none⟩))
  | .el cs k,u => ∃ b o us,u = .pointer (some ⟨b,o + k,none⟩) ∧ X.keep b ∧ All2 (PC X.w X.keep) cs us ∧ ∀ (j : Nat) (y : Value),us[j]? = some y → X.w.cell? ⟨b,o + j,none⟩ = some y
  | .junk,_ => True
  | .v x,u => u = x
  | .sl s n sc f,u => PC X.w X.keep (.sl s n sc f) u
  | .agg _,_ => False
  | .tup _,_ => False
  | .fn _ _,_ => False
def C1 (X : CX) : AV → Value → Prop
  | .agg cs,u => ∃ us,u = .agg us.toArray ∧ All2 (C0 X) cs us
  | .fn g caps,u => ∃ us,u = .func (.func g) #[] us.toArray ∧ All2 (C0 X) caps us
  | av,u => C0 X av u
def C2 (X : CX) : AV → Value → Prop
  | .tup vs,u => ∃ us,u = .tuple us.toArray ∧ All2 (C1 X) vs us
  | av,u => C1 X av u
def scrub0 (d : Nat) : AV → AV
  | .v x => .v x
  | .agg cs => .agg cs
  | .tup vs => .tup vs
  | .sl s n sc f => .sl s n sc f
  | .own id => bif Nat.beq id d then .junk else .own id
  | .eown id s i k => bif Nat.beq id d then .junk else .eown id s i k
  | .osl id s i k => bif Nat.beq id d then .junk else .osl id s i k
  | .box id off => bif Nat.beq id d then .junk else .box id off
  | .cf g id off => bif Nat.beq id d then .junk else .cf g id off
  | .el cs k => .el cs k
  | .fn g cs => .fn g cs
  | .junk => .junk
def scrub1 (d : Nat) : AV → AV
  | .v x => .v x
  | .agg cs => .agg (cs.map (scrub0 d))
  | .tup vs => .tup vs
  | .sl s n sc f => .sl s n sc f
  | .own id => bif Nat.beq id d then .junk else .own id
  | .eown id s i k => bif Nat.beq id d then .junk else .eown id s i k
  | .osl id s i k => bif Nat.beq id d then .junk else .osl id s i k
  | .box id off => bif Nat.beq id d then .junk else .box id off
  | .cf g id off => bif Nat.beq id d then .junk else .cf g id off
  | .el cs k => .el cs k
  | .fn g cs => .fn g (cs.map (scrub0 d))
  | .junk => .junk
def scrub2 (d : Nat) : AV → AV
  | .v x => .v x
  | .agg cs => .agg (cs.map (scrub0 d))
  | .tup vs => .tup (vs.map (scrub1 d))
  | .sl s n sc f => .sl s n sc f
  | .own id => bif Nat.beq id d then .junk else .own id
  | .eown id s i k => bif Nat.beq id d then .junk else .eown id s i k
  | .osl id s i k => bif Nat.beq id d then .junk else .osl id s i k
  | .box id off => bif Nat.beq id d then .junk else .box id off
  | .cf g id off => bif Nat.beq id d then .junk else .cf g id off
  | .el cs k => .el cs k
  | .fn g cs => .fn g (cs.map (scrub0 d))
  | .junk => .junk
def scrubK (d : Nat) : List (ByteArray × Option Nat) → List (ByteArray × Option Nat)
  | [] => []
  | (k,some i) :: l => (k,bif Nat.beq i d then none else some i) :: scrubK d l
  | (k,none) :: l => (k,none) :: scrubK d l
def AO.scrub (d : Nat) : AO → AO
  | .box t cs => .box t (cs.map (scrub0 d))
  | .row e s n sc f => .row e s n sc f
  | .mp t ks rs => .mp t (scrubK d ks) rs
  | .obs o => .obs o
  | .rn e cs => .rn e (cs.map (scrub0 d))
def HdEq (u v : Value) : Prop := u = v ∨ ((∃ us,u = .tuple us) ∧ (∃ vs,v = .tuple vs) ∧ hdV u = hdV v)
theorem HdEq.hd {u v : Value} (h : HdEq u v) : hdV u = hdV v := by
 rcases h with rfl | h
 · rfl
 · exact h.2.2
theorem HdEq.sl {u : Value} {a : Option Addr} {n c : Nat} (h : HdEq u (.slice a n c)) : u = .slice a n c := by
 rcases h with rfl | ⟨_,⟨vs,e⟩,_⟩
 · rfl
 · cases e
theorem HdEq.refl (u : Value) : HdEq u u := .inl rfl
structure Ext (d : Nat) (X Y : CX) : Prop where
 keep : ∀ b,X.keep b → Y.keep b
 mem : ∀ b,X.keep b → Y.w.heap[b]? = X.w.heap[b]?
 ρ : ∀ i,i ≠ d → HdEq (Y.ρ i) (X.ρ i)
theorem PC.mono {w w' : World} {k k' : Nat → Prop} (hk : ∀ b,k b → k' b) (hm : ∀ b,k b → w'.heap[b]? = w.heap[b]?) {av : AV} {u : Value} (h : PC w k av u) : PC w' k' av u := by
 induction h with
 | v x h => exact .v x h
 | sl s n sc f A c us hs hn hc hl hf hsc hu hr ih =>
   refine .sl s n sc f A c us hs hn hc hl hf hsc ih ?_
   rcases hr with h0 | ⟨b,o,e,kb,hcell⟩
   · exact .inl h0
   · exact .inr ⟨b,o,e,hk b kb,fun j u hj => (World.cell?_of_block (hm b kb)).trans (hcell j u hj)⟩
theorem All2.imp {R S : AV → Value → Prop} {xs : List AV} {us : List Value} (h : All2 R xs us) (hi : ∀ x u,R x u → S x u) : All2 S xs us := ⟨h.1,fun i x u hx hu => hi x u (h.2 i x u hx hu)⟩
theorem All2.mapl {R S : AV → Value → Prop} {g : AV → AV} {xs : List AV} {us : List Value} (h : All2 R xs us) (hi : ∀ x u,R x u → S (g x) u) : All2 S (xs.map g) us := by
 refine ⟨by simpa using h.1,fun i x u hx hu => ?_⟩
 rw [List.getElem?_map] at hx
 cases hx' : xs[i]? with
 | none => rw [hx'] at hx; cases hx
 | some y => rw [hx'] at hx; cases hx; exact hi y u (h.2 i y u hx' hu)
theorem All2.nil {R : AV → Value → Prop} : All2 R [] [] := ⟨rfl,fun i x u h => by simp at h⟩
theorem All2.cons {R : AV → Value → Prop} {x : AV} {u : Value} {xs : List AV} {us : List Value} (h0 : R x u) (h : All2 R xs us) : All2 R (x :: xs) (u :: us) := by
 refine ⟨by simpa using h.1,fun i y z hy hz => ?_⟩
 cases i with
 | zero => simp at hy hz; subst hy hz; exact h0
 | succ i => exact h.2 i y z (by simpa using hy) (by simpa using hz)
theorem All2.app {R : AV → Value → Prop} {xs ys : List AV} {us vs : List Value} (h : All2 R xs us) (k : All2 R ys vs) : All2 R (xs ++ ys) (us ++ vs) := by
 refine ⟨by simp [h.1,k.1],fun i y z hy hz => ?_⟩
 by_cases hi : i < xs.length
 · rw [List.getElem?_append_left hi] at hy
   rw [List.getElem?_append_left (by rw [← h.1]; exact hi)] at hz
   exact h.2 i y z hy hz
 · rw [List.getElem?_append_right (by omega)] at hy
   rw [List.getElem?_append_right (by rw [← h.1]; omega),← h.1] at hz
   exact k.2 _ y z hy hz
theorem All2.drop {R : AV → Value → Prop} {xs : List AV} {us : List Value} (h : All2 R xs us) (k : Nat) : All2 R (xs.drop k) (us.drop k) :=
 ⟨by simp [h.1],fun i x u hx hu => h.2 (k + i) x u (by simpa using hx) (by simpa using hu)⟩
theorem All2.take {R : AV → Value → Prop} {xs : List AV} {us : List Value} (h : All2 R xs us) (k : Nat) : All2 R (xs.take k) (us.take k) := by
 refine ⟨by simp [h.1],fun i x u hx hu => ?_⟩
 rw [List.getElem?_take] at hx hu
 split at hx
 · rename_i hi; rw [if_pos hi] at hu; exact h.2 i x u hx hu
 · cases hx
theorem All2.get {R : AV → Value → Prop} {xs : List AV} {us : List Value} (h : All2 R xs us) {i : Nat} {x : AV} (hx : xs[i]? = some x) : ∃ u,us[i]? = some u ∧ R x u := by
 have hi : i < xs.length := by
  rcases Nat.lt_or_ge i xs.length with h' | h'
  · exact h'
  · rw [List.getElem?_eq_none h'] at hx; cases hx
 have hu : us[i]? = some (us[i]'(by rw [← h.1]; exact hi)) := List.getElem?_eq_getElem _
 exact ⟨_,hu,h.2 i x _ hx hu⟩
theorem All2.set {R : AV → Value → Prop} {xs : List AV} {us : List Value} (h : All2 R xs us) (i : Nat) {x : AV} {u : Value} (hr : R x u) : All2 R (xs.set i x) (us.set i u) := by
 refine ⟨by simp [h.1],fun j y z hy hz => ?_⟩
 rw [List.getElem?_set] at hy hz
 by_cases e : i = j
 · subst e
   simp only [if_true] at hy hz
   split at hy
   · rename_i hlt; rw [if_pos (by rw [← h.1]; exact hlt)] at hz; cases hy; cases hz; exact hr
   · cases hy
 · rw [if_neg e] at hy hz
   exact h.2 j y z hy hz
section
variable {d : Nat} {X Y : CX}
theorem beq_false {i d : Nat} (h : i ≠ d) : Nat.beq i d = false := by
 rw [Bool.eq_false_iff]; intro e; exact h (Nat.eq_of_beq_eq_true e)
theorem C0.ext (hE : Ext d X Y) {av : AV} {u : Value} (h : C0 X av u) : C0 Y (scrub0 d av) u := by
 cases av with
 | own id =>
   by_cases e : id = d
   · subst e; simp [scrub0,C0]
   · simp only [scrub0,beq_false e,cond_false,C0] at h ⊢
     rw [(hE.ρ id e).hd]; exact h
 | eown id s i k =>
   by_cases e : id = d
   · subst e; simp [scrub0,C0]
   · simp only [scrub0,beq_false e,cond_false,C0] at h ⊢
     obtain ⟨b,n,c,h1,h2⟩ := h
     have h3 := hE.ρ id e
     rw [h1] at h3
     exact ⟨b,n,c,h3.sl,h2⟩
 | osl id s i k =>
   by_cases e : id = d
   · subst e; simp [scrub0,C0]
   · simp only [scrub0,beq_false e,cond_false,C0] at h ⊢
     rw [(hE.ρ id e).hd]; exact h
 | box id off =>
   by_cases e : id = d
   · subst e; simp [scrub0,C0]
   · simp only [scrub0,beq_false e,cond_false,C0] at h ⊢
     rw [(hE.ρ id e).hd]; exact h
 | cf g id off =>
   by_cases e : id = d
   · subst e; simp [scrub0,C0]
   · simp only [scrub0,beq_false e,cond_false,C0] at h ⊢
     rw [(hE.ρ id e).hd]; exact h
 | el cs k =>
   obtain ⟨b,o,us,e,kb,ha,hc⟩ := h
   exact ⟨b,o,us,e,hE.keep b kb,ha.imp (fun _ _ => PC.mono hE.keep hE.mem),fun j y hj => (World.cell?_of_block (hE.mem b kb)).trans (hc j y hj)⟩
 | sl s n sc f => exact PC.mono hE.keep hE.mem h
 | v x => exact h
 | junk => trivial
 | agg cs => exact h
 | tup cs => exact h
 | fn g caps => exact h
theorem C1.ext (hE : Ext d X Y) {av : AV} {u : Value} (h : C1 X av u) : C1 Y (scrub1 d av) u := by
 cases av with
 | agg cs => obtain ⟨us,e,ha⟩ := h; exact ⟨us,e,ha.mapl fun _ _ => C0.ext hE⟩
 | fn g cs => obtain ⟨us,e,ha⟩ := h; exact ⟨us,e,ha.mapl fun _ _ => C0.ext hE⟩
 | own id =>
   have := C0.ext hE (av := .own id) h
   show C1 Y (scrub0 d (.own id)) u
   revert this
   simp only [scrub0]
   cases Nat.beq id d <;> exact fun h => h
 | eown id s i k =>
   have := C0.ext hE (av := .eown id s i k) h
   show C1 Y (scrub0 d (.eown id s i k)) u
   revert this
   simp only [scrub0]
   cases Nat.beq id d <;> exact fun h => h
 | osl id s i k =>
   have := C0.ext hE (av := .osl id s i k) h
   show C1 Y (scrub0 d (.osl id s i k)) u
   revert this
   simp only [scrub0]
   cases Nat.beq id d <;> exact fun h => h
 | box id off =>
   have := C0.ext hE (av := .box id off) h
   show C1 Y (scrub0 d (.box id off)) u
   revert this
   simp only [scrub0]
   cases Nat.beq id d <;> exact fun h => h
 | cf g id off =>
   have := C0.ext hE (av := .cf g id off) h
   show C1 Y (scrub0 d (.cf g id off)) u
   revert this
   simp only [scrub0]
   cases Nat.beq id d <;> exact fun h => h
 | el cs k => exact C0.ext hE (av := .el cs k) h
 | sl s n sc f => exact C0.ext hE (av := .sl s n sc f) h
 | v x => exact h
 | junk => trivial
 | tup cs => exact h
theorem C2.ext (hE : Ext d X Y) {av : AV} {u : Value} (h : C2 X av u) : C2 Y (scrub2 d av) u := by
 cases av with
 | tup vs => obtain ⟨us,e,ha⟩ := h; exact ⟨us,e,ha.mapl fun _ _ => C1.ext hE⟩
 | agg cs => exact C1.ext hE (av := .agg cs) h
 | fn g cs => exact C1.ext hE (av := .fn g cs) h
 | own id =>
   have := C1.ext hE (av := .own id) h
   show C2 Y (scrub0 d (.own id)) u
   have h2 : C1 Y (scrub0 d (.own id)) u := this
   revert h2
   simp only [scrub0]
   cases Nat.beq id d <;> exact fun h => h
 | eown id s i k =>
   have h2 : C1 Y (scrub0 d (.eown id s i k)) u := C1.ext hE (av := .eown id s i k) h
   show C2 Y (scrub0 d (.eown id s i k)) u
   revert h2
   simp only [scrub0]
   cases Nat.beq id d <;> exact fun h => h
 | osl id s i k =>
   have h2 : C1 Y (scrub0 d (.osl id s i k)) u := C1.ext hE (av := .osl id s i k) h
   show C2 Y (scrub0 d (.osl id s i k)) u
   revert h2
   simp only [scrub0]
   cases Nat.beq id d <;> exact fun h => h
 | box id off =>
   have h2 : C1 Y (scrub0 d (.box id off)) u := C1.ext hE (av := .box id off) h
   show C2 Y (scrub0 d (.box id off)) u
   revert h2
   simp only [scrub0]
   cases Nat.beq id d <;> exact fun h => h
 | cf g id off =>
   have h2 : C1 Y (scrub0 d (.cf g id off)) u := C1.ext hE (av := .cf g id off) h
   show C2 Y (scrub0 d (.cf g id off)) u
   revert h2
   simp only [scrub0]
   cases Nat.beq id d <;> exact fun h => h
 | el cs k => exact C1.ext hE (av := .el cs k) h
 | sl s n sc f => exact C1.ext hE (av := .sl s n sc f) h
 | v x => exact h
 | junk => trivial
theorem C0.same (hk : ∀ b,X.keep b → Y.keep b) (hm : ∀ b,X.keep b → Y.w.heap[b]? = X.w.heap[b]?) (hρ : Y.ρ = X.ρ) {av : AV} {u : Value} (h : C0 X av u) : C0 Y av u := by
 cases av with
 | own id => simp only [C0] at h ⊢; rw [hρ]; exact h
 | eown id s i k => simp only [C0] at h ⊢; rw [hρ]; exact h
 | osl id s i k => simp only [C0] at h ⊢; rw [hρ]; exact h
 | box id off => simp only [C0] at h ⊢; rw [hρ]; exact h
 | cf g id off => simp only [C0] at h ⊢; rw [hρ]; exact h
 | el cs k =>
   obtain ⟨b,o,us,e,kb,ha,hc⟩ := h
   exact ⟨b,o,us,e,hk b kb,ha.imp (fun _ _ => PC.mono hk hm),fun j y hj => (World.cell?_of_block (hm b kb)).trans (hc j y hj)⟩
 | sl s n sc f => exact PC.mono hk hm h
 | v x => exact h
 | junk => trivial
 | agg cs => exact h
 | tup cs => exact h
 | fn g caps => exact h
theorem C1.same (hk : ∀ b,X.keep b → Y.keep b) (hm : ∀ b,X.keep b → Y.w.heap[b]? = X.w.heap[b]?) (hρ : Y.ρ = X.ρ) {av : AV} {u : Value} (h : C1 X av u) : C1 Y av u := by
 cases av with
 | agg cs => obtain ⟨us,e,ha⟩ := h; exact ⟨us,e,ha.imp fun _ _ => C0.same hk hm hρ⟩
 | fn g cs => obtain ⟨us,e,ha⟩ := h; exact ⟨us,e,ha.imp fun _ _ => C0.same hk hm hρ⟩
 | own id => exact C0.same hk hm hρ (av := .own id) h
 | eown id s i k => exact C0.same hk hm hρ (av := .eown id s i k) h
 | osl id s i k => exact C0.same hk hm hρ (av := .osl id s i k) h
 | box id off => exact C0.same hk hm hρ (av := .box id off) h
 | cf g id off => exact C0.same hk hm hρ (av := .cf g id off) h
 | el cs k => exact C0.same hk hm hρ (av := .el cs k) h
 | sl s n sc f => exact C0.same hk hm hρ (av := .sl s n sc f) h
 | v x => exact h
 | junk => trivial
 | tup cs => exact h
theorem C2.same (hk : ∀ b,X.keep b → Y.keep b) (hm : ∀ b,X.keep b → Y.w.heap[b]? = X.w.heap[b]?) (hρ : Y.ρ = X.ρ) {av : AV} {u : Value} (h : C2 X av u) : C2 Y av u := by
 cases av with
 | tup vs => obtain ⟨us,e,ha⟩ := h; exact ⟨us,e,ha.imp fun _ _ => C1.same hk hm hρ⟩
 | agg cs => exact C1.same hk hm hρ (av := .agg cs) h
 | fn g cs => exact C1.same hk hm hρ (av := .fn g cs) h
 | own id => exact C1.same hk hm hρ (av := .own id) h
 | eown id s i k => exact C1.same hk hm hρ (av := .eown id s i k) h
 | osl id s i k => exact C1.same hk hm hρ (av := .osl id s i k) h
 | box id off => exact C1.same hk hm hρ (av := .box id off) h
 | cf g id off => exact C1.same hk hm hρ (av := .cf g id off) h
 | el cs k => exact C1.same hk hm hρ (av := .el cs k) h
 | sl s n sc f => exact C1.same hk hm hρ (av := .sl s n sc f) h
 | v x => exact h
 | junk => trivial
end
theorem C2.of0 {X : CX} {av : AV} {u : Value} (h : C0 X av u) : C2 X av u := by
 cases av <;> first | exact h | exact h.elim
theorem C2.of1 {X : CX} {av : AV} {u : Value} (h : C1 X av u) : C2 X av u := by
 cases av <;> first | exact h | exact (show False from h).elim
theorem C1.of0 {X : CX} {av : AV} {u : Value} (h : C0 X av u) : C1 X av u := by
 cases av <;> first | exact h | exact h.elim
theorem C0.ofPC {X : CX} {av : AV} {u : Value} (h : PC X.w X.keep av u) : C0 X av u := by
 cases h with
 | v x h => rfl
 | sl s n sc f A c us hs hn hc hl hf hsc hu hr => exact .sl s n sc f A c us hs hn hc hl hf hsc hu hr
def blocksOf (ρ : Nat → Value) (h : List (Nat × AO)) : List Nat := h.flatMap fun p => blks (ρ p.1)
structure Base where
 w : World
 keep : Nat → Prop
 mu : Nat → Prop
 ds : List Deferred
abbrev baseM (w : World) (keep mu : Nat → Prop) : Base := ⟨w,keep,mu,[]⟩
abbrev base0 (w : World) (keep : Nat → Prop) : Base := baseM w keep fun _ => False
def keepOf (g : Base) (w : World) (ρ : Nat → Value) (h : List (Nat × AO)) (b : Nat) : Prop := b < w.heap.size ∧ (b < g.w.heap.size → g.keep b ∨ g.mu b) ∧ b ∉ blocksOf ρ h
structure BelowM (M : Nat → Prop) (B : Nat) (w w' : World) : Prop where
 os : w'.os = w.os
 tape : w'.tape = w.tape
 output : w'.output = w.output
 size : w.heap.size ≤ w'.heap.size
 block : ∀ k,k < B → ¬ M k → w'.heap[k]? = w.heap[k]?
theorem BelowM.refl (M : Nat → Prop) (B : Nat) (w : World) : BelowM M B w w := ⟨rfl,rfl,rfl,Nat.le_refl _,fun _ _ _ => rfl⟩
theorem BelowM.trans {M : Nat → Prop} {B : Nat} {a b c : World} (h : BelowM M B a b) (k : BelowM M B b c) : BelowM M B a c :=
 ⟨k.os.trans h.os,k.tape.trans h.tape,k.output.trans h.output,Nat.le_trans h.size k.size,fun i hi hm => (k.block i hi hm).trans (h.block i hi hm)⟩
theorem BelowM.of {M : Nat → Prop} {B : Nat} {w w' : World} (h : Below B w w') : BelowM M B w w' := ⟨h.os,h.tape,h.output,h.size,fun k hk _ => h.block k hk⟩
theorem BelowM.less {M : Nat → Prop} {B : Nat} {w w' : World} (h : BelowM M B w w') (hM : ∀ k,¬ M k) : Below B w w' := ⟨h.os,h.tape,h.output,h.size,fun k hk => h.block k hk (hM k)⟩
theorem BelowM.then {M : Nat → Prop} {B B' : Nat} {a b c : World} (h : BelowM M B a b) (k : Below B' b c) (hB : B ≤ B') : BelowM M B a c := h.trans (.of (k.mono hB))
theorem BelowM.write {M : Nat → Prop} {B b : Nat} {a w w' : World} (h : BelowM M B a w) (hb : B ≤ b ∨ M b) (k : Below b w w') (hm : ∀ i,i ≠ b → w'.heap[i]? = w.heap[i]?) : BelowM M B a w' :=
 h.trans ⟨k.os,k.tape,k.output,k.size,fun i hi hM => hm i (by rintro rfl; rcases hb with hb | hb; omega; exact hM hb)⟩
theorem BelowM.alloc {M : Nat → Prop} {B : Nat} {a w : World} (h : BelowM M B a w) (hB : B ≤ w.heap.size) (o : Obj) : BelowM M B a (w.alloc o) := h.then ((Below.refl _ _).alloc (Nat.le_refl _) o) hB
theorem BelowM.grown {M : Nat → Prop} {B : Nat} {a w w' : World} {row : Option Nat} (h : BelowM M B a w) (hg : w.grownBy w' row) (hB : B ≤ w.heap.size) (hr : ∀ k,row = some k → B ≤ k ∨ M k) : BelowM M B a w' :=
 h.trans ⟨hg.os,hg.tape,hg.output,hg.size,fun k hk hM => hg.block k (by omega) (fun e => by rcases hr k e.symm with h | h; omega; exact hM h)⟩
def cxOf (g : Base) (w : World) (ρ : Nat → Value) (h : List (Nat × AO)) : CX := ⟨w,keepOf g w ρ h,ρ⟩
def hdρ (ρ : Nat → Value) : Nat → Value := fun i => hdV (ρ i)
def MpIs (ρ : Nat → Value) : List (ByteArray × Option Nat) → List Value → Prop
  | [],vs => vs = []
  | (_,o) :: l,vs => ∃ v r,vs = v :: r ∧ (∀ i,o = some i → v = ρ i) ∧ MpIs ρ l r
def mpEs : List ByteArray → List Value → List (Value × Value)
  | k :: l,v :: r => (match v with | .slice none _ _ => mpEs l r | v => (.string k,v) :: mpEs l r)
  | _,_ => []
theorem scrubK_keys (d : Nat) : ∀ ks : List (ByteArray × Option Nat),(scrubK d ks).map (·.1) = ks.map (·.1)
  | [] => rfl
  | (k,some i) :: l => by simp [scrubK,scrubK_keys d l]
  | (k,none) :: l => by simp [scrubK,scrubK_keys d l]
theorem MpIs.imp {ρ ρ' : Nat → Value} : ∀ {ks : List (ByteArray × Option Nat)} {vs : List Value},(∀ p ∈ ks,∀ i,p.2 = some i → ρ' i = ρ i) → MpIs ρ ks vs → MpIs ρ' ks vs
  | [],_,_,k => k
  | (k,o) :: l,vs,h,⟨v,r,e,hi,hr⟩ => ⟨v,r,e,fun j hj => by rw [h (k,o) List.mem_cons_self j hj]; exact hi j hj,MpIs.imp (fun p hp => h p (List.mem_cons_of_mem _ hp)) hr⟩
theorem MpIs.scrub {ρ ρ' : Nat → Value} {d : Nat} (h : ∀ i,i ≠ d → ρ' i = ρ i) : ∀ {ks : List (ByteArray × Option Nat)} {vs : List Value},MpIs ρ ks vs → MpIs ρ' (scrubK d ks) vs
  | [],_,k => k
  | (k,some i) :: l,vs,⟨v,r,e,hi,hr⟩ => ⟨v,r,e,fun j hj => by
     by_cases hd : i = d
     · subst hd; simp at hj
     · have : Nat.beq i d = false := by rw [Bool.eq_false_iff]; intro e; exact hd (Nat.eq_of_beq_eq_true e)
       rw [this] at hj
       cases hj
       rw [h _ hd]
       exact hi _ rfl,MpIs.scrub h hr⟩
  | (k,none) :: l,vs,⟨v,r,e,_,hr⟩ => ⟨v,r,e,fun j hj => (by cases hj),MpIs.scrub h hr⟩
def RowOk (X : CX) (v : Value) (e : TypeId) (s n : Nat) (sc : Bool) (f : Nat → List AV) : Prop :=
 ∃ us,X.w.ownsRow 0 e s v n us ∧ 0 < s ∧ (∀ i,i < n → (f i).length = s) ∧ (sc = true → ∀ x ∈ flat n f,∃ y,x = .v y) ∧ All2 (PC X.w X.keep) (flat n f) us
def HidOk (X : CX) : List (ByteArray × RW) → List Value → Prop
  | [],vs => vs = []
  | (_,r) :: l,vs => ∃ v q,vs = v :: q ∧ RowOk X v r.e r.s r.n r.sc r.f ∧ HidOk X l q
def ObjOk (X : CX) (id : Nat) : AO → Prop
  | .box t cs => ∃ b us,X.ρ id = .pointer (some ⟨b,0,none⟩) ∧ X.w.heap[b]? = some (.cells us.toArray t (0,0)) ∧ All2 (C0 X) cs us
  | .row e s n sc f => RowOk X (X.ρ id) e s n sc f
  | .mp _ ks rs => ∃ b es c vs hs,X.ρ id = .tuple (.map (some b) :: .map (some b) :: hs).toArray ∧ X.w.heap[b]? = some (.map es c) ∧ MpIs (hdρ X.ρ) ks vs ∧ HidOk X rs hs ∧ (es.toList.map fun e => (e.key,e.val)).Perm (mpEs (ks.map (·.1) ++ rs.map (·.1)) (vs ++ hs)) ∧ (ks.map (·.1) ++ rs.map (·.1)).Nodup ∧ MapKept.Stamped es c
  | .obs o => ∃ us,X.ρ id = .tuple us ∧ o.R X.w X.keep (X.ρ id)
  | .rn e cs => ∃ us,(X.w.ownsRow 0 e 1 (X.ρ id) cs.length us ∧ ∀ u ∈ us,u.oneCell' = true) ∧ All2 (C0 X) cs us
def BackOk (X : CX) : List (List (Nat × AV)) → List (Array Value) → Prop
  | [],[] => True
  | f :: fs,b :: bs => (∀ t,C2 X (ofL f t) (b.getD t undef)) ∧ BackOk X fs bs
  | _,_ => False
theorem BackOk.map {X Y : CX} {m : AV → AV} (hm : m .junk = .junk) (h : ∀ x u,C2 X x u → C2 Y (m x) u) : ∀ {fs : List (List (Nat × AV))} {bs : List (Array Value)},BackOk X fs bs → BackOk Y (fs.map (mapS m)) bs
  | [],[],_ => trivial
  | _ :: _,_ :: _,k => ⟨fun t => by rw [ofL_mapS hm]; exact h _ _ (k.1 t),BackOk.map hm h k.2⟩
  | [],_ :: _,k => k.elim
  | _ :: _,[],k => k.elim
theorem BackOk.imp {X Y : CX} (h : ∀ x u,C2 X x u → C2 Y x u) : ∀ {fs : List (List (Nat × AV))} {bs : List (Array Value)},BackOk X fs bs → BackOk Y fs bs
  | [],[],_ => trivial
  | _ :: _,_ :: _,k => ⟨fun t => h _ _ (k.1 t),BackOk.imp h k.2⟩
  | [],_ :: _,k => k.elim
  | _ :: _,[],k => k.elim
structure Rel (g : Base) (N : Nat) (bs : List (Array Value)) (ρ : Nat → Value) (a : Act) (w : World) (st : AS) : Prop where
 size : a.tmps.size = N
 defers : a.defers = g.ds
 below : BelowM g.mu g.w.heap.size g.w w
 tmps : ∀ t,C2 (cxOf g w ρ st.heap) (st.tmps t) (a.tmps.getD t undef)
 objs : ∀ p ∈ st.heap,ObjOk (cxOf g w ρ st.heap) p.1 p.2
 apart : (blocksOf ρ st.heap).Nodup
 own : ∀ b,b ∈ blocksOf ρ st.heap → g.w.heap.size ≤ b ∨ g.mu b
 back : BackOk (cxOf g w ρ st.heap) st.back bs
end Go.Proofs.YtimhagicagdkfaaGreat
namespace Go.Proofs.YtimhagicagdkfaaGreat
open Go.RowKit
def upd (d : Nat) (x : AV) (f : Nat → AV) : Nat → AV := fun t => bif Nat.beq t d then x else f t
def AS.put (st : AS) (d : Nat) (x : AV) : AS := ⟨(d,x) :: st.sl,st.heap,st.back,st.base⟩
def gone (d j : Nat) (h : List (Nat × AO)) : List (Nat × AO) := h.filter fun p => !(Nat.beq p.1 d || Nat.beq p.1 j)
def scrubH (d : Nat) (h : List (Nat × AO)) : List (Nat × AO) := h.map fun p => (p.1,p.2.scrub d)
def AS.obj (st : AS) (d j : Nat) (o : AO) : AS := ⟨mapS (scrub2 d) st.sl,(d,o.scrub d) :: scrubH d (gone d j st.heap),st.back.map (mapS (scrub2 d)),Nat.add d 1⟩
def reρ (ρ : Nat → Value) (d : Nat) (u : Value) : Nat → Value := fun i => if i = d then u else ρ i
theorem mem_blocks {ρ : Nat → Value} {h : List (Nat × AO)} {b : Nat} : b ∈ blocksOf ρ h ↔ ∃ p ∈ h,b ∈ blks (ρ p.1) := by simp [blocksOf]
theorem blocks_cons (ρ : Nat → Value) (p : Nat × AO) (h : List (Nat × AO)) : blocksOf ρ (p :: h) = blks (ρ p.1) ++ blocksOf ρ h := rfl
theorem nodup_of_mem {ρ : Nat → Value} : ∀ {h : List (Nat × AO)},(blocksOf ρ h).Nodup → ∀ {p : Nat × AO},p ∈ h → (blks (ρ p.1)).Nodup
  | [],_,p,hp => by cases hp
  | q :: h,hn,p,hp => by
    rw [blocks_cons,List.nodup_append] at hn
    rcases List.mem_cons.1 hp with rfl | hp
    · exact hn.1
    · exact nodup_of_mem hn.2.1 hp
theorem hid_blocks {X : CX} : ∀ {rs : List (ByteArray × RW)} {hs : List Value},HidOk X rs hs → ∀ b ∈ hs.flatMap blk1,b < X.w.heap.size
  | [],_,h,b,hb => by rw [show _ = [] from h] at hb; cases hb
  | (_,r) :: l,_,⟨v,q,e,⟨us,hown,_⟩,hq⟩,b,hb => by
    subst e
    rw [List.flatMap_cons] at hb
    rcases List.mem_append.1 hb with hb | hb
    · rcases hown.2 with ⟨rfl,_⟩ | ⟨g,cap,cur,rfl,hg,hh,r⟩
      · cases hb
      · rw [List.mem_singleton.1 hb]; exact (Array.getElem?_eq_some_iff.1 hh).1
    · exact hid_blocks hq b hb
theorem nodup_tail {ρ : Nat → Value} {p : Nat × AO} {h : List (Nat × AO)} (hn : (blocksOf ρ (p :: h)).Nodup) : (blocksOf ρ h).Nodup := by
 rw [blocks_cons] at hn
 exact (List.nodup_append.1 hn).2.1
theorem blocks_filter_sub {ρ : Nat → Value} {q : Nat × AO → Bool} {h : List (Nat × AO)} {b : Nat} (hb : b ∈ blocksOf ρ (h.filter q)) : b ∈ blocksOf ρ h := by
 rw [mem_blocks] at hb ⊢
 obtain ⟨p,hp,e⟩ := hb
 exact ⟨p,(List.mem_filter.1 hp).1,e⟩
theorem nodup_filter {ρ : Nat → Value} {q : Nat × AO → Bool} : ∀ {h : List (Nat × AO)},(blocksOf ρ h).Nodup → (blocksOf ρ (h.filter q)).Nodup
  | [],_ => by simp [blocksOf]
  | p :: h,hn => by
    have ih := nodup_filter (q := q) (nodup_tail hn)
    rw [List.filter_cons]
    split
    · rw [blocks_cons] at hn ⊢
      rw [List.nodup_append] at hn ⊢
      exact ⟨hn.1,ih,fun x hx y hy => hn.2.2 x hx y (blocks_filter_sub hy)⟩
    · exact ih
theorem blocks_apart {ρ : Nat → Value} {b : Nat} : ∀ {h : List (Nat × AO)},(blocksOf ρ h).Nodup → ∀ p ∈ h,∀ q ∈ h,b ∈ blks (ρ p.1) → b ∈ blks (ρ q.1) → p.1 = q.1
  | [],_,p,hp,_,_,_,_ => by cases hp
  | r :: h,hn,p,hp,q,hq,e1,e2 => by
    have ht := nodup_tail hn
    rw [blocks_cons,List.nodup_append] at hn
    rcases List.mem_cons.1 hp with rfl | hp'
    · rcases List.mem_cons.1 hq with rfl | hq'
      · rfl
      · exact absurd rfl (hn.2.2 b e1 b (mem_blocks.2 ⟨q,hq',e2⟩))
    · rcases List.mem_cons.1 hq with rfl | hq'
      · exact absurd rfl (hn.2.2 b e2 b (mem_blocks.2 ⟨p,hp',e1⟩))
      · exact blocks_apart ht p hp' q hq' e1 e2
theorem blocks_scrub (ρ : Nat → Value) (d : Nat) (h : List (Nat × AO)) : blocksOf ρ (scrubH d h) = blocksOf ρ h := by
 simp [blocksOf,scrubH,List.flatMap_map]
theorem blocks_reρ {ρ : Nat → Value} {d : Nat} {u : Value} {h : List (Nat × AO)} (hd : ∀ p ∈ h,p.1 ≠ d) : blocksOf (reρ ρ d u) h = blocksOf ρ h := by
 induction h with
 | nil => rfl
 | cons p h ih =>
   rw [blocks_cons,blocks_cons,ih (fun q hq => hd q (by simp [hq]))]
   simp [reρ,hd p (by simp)]
theorem ownsRow_block {w w' : World} {B : Nat} {e : TypeId} {s n : Nat} {v : Value} {us : List Value} (h : w.ownsRow B e s v n us) (hm : ∀ b ∈ blks v,w'.heap[b]? = w.heap[b]?) : w'.ownsRow B e s v n us := by
 refine ⟨h.1,?_⟩
 rcases h.2 with hn | ⟨g,cap,cur,rfl,hg,hh,r⟩
 · exact .inl hn
 · exact .inr ⟨g,cap,cur,rfl,hg,(hm g List.mem_cons_self).trans hh,r⟩
theorem hdV_own {w : World} {B : Nat} {e : TypeId} {s n : Nat} {v : Value} {us : List Value} (h : w.ownsRow B e s v n us) : hdV v = v := by
 rcases h.2 with ⟨rfl,_⟩ | ⟨g,cap,cur,rfl,_⟩ <;> rfl
theorem blks_own {w : World} {B : Nat} {e : TypeId} {s n : Nat} {v : Value} {us : List Value} (h : w.ownsRow B e s v n us) : blks v = v.ownBlock.toList := by
 rcases h.2 with ⟨rfl,_⟩ | ⟨g,cap,cur,rfl,_⟩ <;> rfl
theorem blk1_own {w : World} {B : Nat} {e : TypeId} {s n : Nat} {v : Value} {us : List Value} (h : w.ownsRow B e s v n us) : blk1 v = blks v := by
 rcases h.2 with ⟨rfl,_⟩ | ⟨g,cap,cur,rfl,_⟩ <;> rfl
theorem hdV_row {X : CX} {id : Nat} {e : TypeId} {s n : Nat} {sc : Bool} {f : Nat → List AV} (h : ObjOk X id (.row e s n sc f)) : hdV (X.ρ id) = X.ρ id := by
 obtain ⟨us,hown,_⟩ := h
 exact hdV_own hown
theorem nodup_own {w : World} {B : Nat} {e : TypeId} {s n : Nat} {v : Value} {us : List Value} (h : w.ownsRow B e s v n us) : (blks v).Nodup := by
 rcases h.2 with ⟨rfl,_⟩ | ⟨g,cap,cur,rfl,_⟩ <;> simp [blks,blk1]
theorem RowOk.mono {X Y : CX} {v : Value} {e : TypeId} {s n : Nat} {sc : Bool} {f : Nat → List AV} (hk : ∀ b,X.keep b → Y.keep b) (hmk : ∀ b,X.keep b → Y.w.heap[b]? = X.w.heap[b]?) (hm : ∀ b ∈ blks v,Y.w.heap[b]? = X.w.heap[b]?) (h : RowOk X v e s n sc f) : RowOk Y v e s n sc f := by
 obtain ⟨us,ho,hs,hf,hsc,ha⟩ := h
 exact ⟨us,ownsRow_block ho hm,hs,hf,hsc,ha.imp fun _ _ => PC.mono hk hmk⟩
theorem HidOk.mono {X Y : CX} (hk : ∀ b,X.keep b → Y.keep b) (hmk : ∀ b,X.keep b → Y.w.heap[b]? = X.w.heap[b]?) : ∀ {rs : List (ByteArray × RW)} {hs : List Value},(∀ b ∈ hs.flatMap blk1,Y.w.heap[b]? = X.w.heap[b]?) → HidOk X rs hs → HidOk Y rs hs
  | [],_,_,h => h
  | (_,r) :: l,_,hm,⟨v,q,e,hr,hq⟩ => by
    subst e
    rw [List.flatMap_cons] at hm
    have hb : blk1 v = blks v := by obtain ⟨us,ho,_⟩ := hr; exact blk1_own ho
    exact ⟨v,q,rfl,hr.mono hk hmk (fun b hb' => hm b (List.mem_append_left _ (by rw [hb]; exact hb'))),HidOk.mono hk hmk (fun b hb' => hm b (List.mem_append_right _ hb')) hq⟩
theorem ObjOk.move {X Y : CX} {id id' : Nat} {o o' : AO} (hk : ∀ b,X.keep b → Y.keep b) (hmk : ∀ b,X.keep b → Y.w.heap[b]? = X.w.heap[b]?) (hid : Y.ρ id' = X.ρ id) (hm : ∀ b ∈ blks (X.ρ id),Y.w.heap[b]? = X.w.heap[b]?)
  (ho : match o,o' with | .box t cs, .box t' cs' => t' = t ∧ ∀ us,All2 (C0 X) cs us → All2 (C0 Y) cs' us | .row e s n sc f,o' => o' = .row e s n sc f | .mp t ks rs, .mp t' ks' rs' => t' = t ∧ rs' = rs ∧ ks'.map (·.1) = ks.map (·.1) ∧ ∀ vs,MpIs (hdρ X.ρ) ks vs → MpIs (hdρ Y.ρ) ks' vs | .obs o,o' => o' = .obs o | .rn e cs, .rn e' cs' => e' = e ∧ cs'.length = cs.length ∧ ∀ us,All2 (C0 X) cs us → All2 (C0 Y) cs' us | _,_ => False)
  (h : ObjOk X id o) : ObjOk Y id' o' := by
 cases o with
 | box t cs =>
   cases o' with
   | box t' cs' =>
     obtain ⟨rfl,ho⟩ := ho
     obtain ⟨b,us,e,hh,ha⟩ := h
     exact ⟨b,us,by rw [hid]; exact e,(hm b (by rw [e]; exact List.mem_cons_self)).trans hh,ho us ha⟩
   | row => exact ho.elim
   | mp => exact ho.elim
   | obs => exact ho.elim
   | rn => exact ho.elim
 | row e s n sc f =>
   have ho : o' = _ := ho
   subst ho
   show RowOk Y (Y.ρ id') e s n sc f
   rw [hid]
   exact RowOk.mono hk hmk hm h
 | mp t ks rs =>
   cases o' with
   | mp t' ks' rs' =>
     obtain ⟨rfl,rfl,hkk,ho⟩ := ho
     obtain ⟨b,es,c,vs,hs,e,hh,hi,hr,hp,hn⟩ := h
     rw [e] at hm
     exact ⟨b,es,c,vs,hs,by rw [hid]; exact e,(hm b List.mem_cons_self).trans hh,ho vs hi,hr.mono hk hmk (fun b hb => hm b (List.mem_cons_of_mem _ hb)),by rw [hkk]; exact hp,by rw [hkk]; exact hn.1,hn.2⟩
   | row => exact ho.elim
   | box => exact ho.elim
   | obs => exact ho.elim
   | rn => exact ho.elim
 | obs o =>
   have ho : o' = _ := ho
   subst ho
   obtain ⟨us,e,hr⟩ := h
   exact ⟨us,by rw [hid]; exact e,by rw [hid]; exact o.mono hk hmk hm hr⟩
 | rn e cs =>
   cases o' with
   | rn e' cs' =>
     obtain ⟨rfl,hlen,ho⟩ := ho
     obtain ⟨us,⟨hown,hone⟩,ha⟩ := h
     exact ⟨us,⟨by rw [hid,hlen]; exact ownsRow_block hown hm,hone⟩,ho us ha⟩
   | row => exact ho.elim
   | mp => exact ho.elim
   | obs => exact ho.elim
   | box => exact ho.elim
theorem ObjOk.same {X Y : CX} {id : Nat} {o : AO} (hk : ∀ b,X.keep b → Y.keep b) (hmk : ∀ b,X.keep b → Y.w.heap[b]? = X.w.heap[b]?) (hρ : Y.ρ = X.ρ) (hm : ∀ b ∈ blks (X.ρ id),Y.w.heap[b]? = X.w.heap[b]?) (h : ObjOk X id o) : ObjOk Y id o := by
 refine ObjOk.move hk hmk (by rw [hρ]) hm ?_ h
 cases o with
 | box t cs => exact ⟨rfl,fun us ha => ha.imp fun _ _ => C0.same hk hmk hρ⟩
 | row => rfl
 | mp t ks rs => exact ⟨rfl,rfl,rfl,fun vs hv => by rw [hρ]; exact hv⟩
 | obs o => rfl
 | rn e cs => exact ⟨rfl,rfl,fun us ha => ha.imp fun _ _ => C0.same hk hmk hρ⟩
theorem ObjOk.lt {X : CX} {id : Nat} {o : AO} (h : ObjOk X id o) : ∀ b ∈ blks (X.ρ id),b < X.w.heap.size := by
 cases o with
 | box t cs =>
   obtain ⟨b,us,e,hh,ha⟩ := h
   intro c hc
   rw [e] at hc
   rw [List.mem_singleton.1 hc]
   exact (Array.getElem?_eq_some_iff.1 hh).1
 | row e s n sc f =>
   obtain ⟨us,hown,_⟩ := h
   intro c hc
   rcases hown.2 with ⟨hv,_⟩ | ⟨g,cap,cur,hv,hg,hh,r⟩
   · rw [hv] at hc; cases hc
   · rw [hv] at hc; rw [List.mem_singleton.1 hc]; exact (Array.getElem?_eq_some_iff.1 hh).1
 | mp t ks rs =>
   obtain ⟨b,es,c,vs,hs,e,hh,hi,hr,hp,hn⟩ := h
   intro q hq
   rw [e] at hq
   have hq : q ∈ b :: hs.flatMap blk1 := hq
   rcases List.mem_cons.1 hq with rfl | hq
   · exact (Array.getElem?_eq_some_iff.1 hh).1
   · exact hid_blocks hr q hq
 | obs o =>
   obtain ⟨us,e,hr⟩ := h
   exact (o.lt hr).1
 | rn e cs =>
   obtain ⟨us,⟨hown,_⟩,_⟩ := h
   intro c hc
   rcases hown.2 with ⟨hv,_⟩ | ⟨g,cap,cur,hv,hg,hh,r⟩
   · rw [hv] at hc; cases hc
   · rw [hv] at hc; rw [List.mem_singleton.1 hc]; exact (Array.getElem?_eq_some_iff.1 hh).1
theorem ObjOk.ext {X Y : CX} {d id : Nat} {o : AO} (hE : Ext d X Y) (hid : Y.ρ id = X.ρ id) (hm : ∀ b ∈ blks (X.ρ id),Y.w.heap[b]? = X.w.heap[b]?) (h : ObjOk X id o) : ObjOk Y id (o.scrub d) := by
 refine ObjOk.move hE.keep hE.mem hid hm ?_ h
 cases o with
 | box t cs => exact ⟨rfl,fun us ha => ha.mapl fun _ _ => C0.ext hE⟩
 | row => rfl
 | mp t ks rs => exact ⟨rfl,rfl,scrubK_keys d ks,fun vs hv => hv.scrub fun i hi => (hE.ρ i hi).hd⟩
 | obs o => rfl
 | rn e cs => exact ⟨rfl,by simp,fun us ha => ha.mapl fun _ _ => C0.ext hE⟩
theorem mem_gone {d j : Nat} {h : List (Nat × AO)} {p : Nat × AO} : p ∈ gone d j h ↔ p ∈ h ∧ p.1 ≠ d ∧ p.1 ≠ j := by
 unfold gone
 rw [List.mem_filter]
 constructor
 · rintro ⟨h1,h2⟩
   refine ⟨h1,?_,?_⟩ <;> (intro e; simp [e] at h2)
 · rintro ⟨h1,h2,h3⟩
   exact ⟨h1,by simp [beq_false h2,beq_false h3]⟩
section
variable {g : Base} {N : Nat} {bs : List (Array Value)} {ρ : Nat → Value} {a : Act} {w : World} {st : AS}
theorem Rel.put (R : Rel g N bs ρ a w st) {d : Nat} {x : AV} {u : Value} (hd : d < N) (h : C2 (cxOf g w ρ st.heap) x u) : Rel g N bs ρ (a.put (some d) u) w (st.put d x) := by
 refine ⟨?_,R.defers,R.below,fun t => ?_,R.objs,R.apart,R.own,R.back⟩
 · simpa [Act.put] using R.size
 · show C2 _ (upd d x st.tmps t) ((a.tmps.setIfInBounds d u).getD t undef)
   by_cases e : t = d
   · subst e
     have hd' : t < a.tmps.size := by rw [R.size]; exact hd
     have e1 : (a.tmps.setIfInBounds t u).getD t undef = u := by simp [hd']
     rw [e1]
     simp only [upd,Nat.beq_refl,cond_true]
     exact h
   · have e1 : (a.tmps.setIfInBounds d u).getD t undef = a.tmps.getD t undef := by
      simp [Ne.symm e]
     rw [e1]
     simp only [upd,beq_false e,cond_false]
     exact R.tmps t
theorem Rel.world (R : Rel g N bs ρ a w st) {w' : World} (hb : Below w.heap.size w w') : Rel g N bs ρ a w' st := by
 have hk : ∀ b,keepOf g w ρ st.heap b → keepOf g w' ρ st.heap b := fun b h => ⟨Nat.lt_of_lt_of_le h.1 hb.size,h.2⟩
 have hm : ∀ b,keepOf g w ρ st.heap b → w'.heap[b]? = w.heap[b]? := fun b h => hb.block b h.1
 refine ⟨R.size,R.defers,R.below.then hb R.below.size,fun t => C2.same (X := cxOf g w ρ st.heap) (Y := cxOf g w' ρ st.heap) hk hm rfl (R.tmps t),fun p hp => ?_,R.apart,R.own,R.back.imp fun _ _ => C2.same (X := cxOf g w ρ st.heap) (Y := cxOf g w' ρ st.heap) hk hm rfl⟩
 have ho := R.objs p hp
 exact ObjOk.same (X := cxOf g w ρ st.heap) (Y := cxOf g w' ρ st.heap) hk hm rfl (fun b hb' => hb.block b (ho.lt b hb')) ho
theorem Rel.lt_block (R : Rel g N bs ρ a w st) {b : Nat} (h : b ∈ blocksOf ρ st.heap) : b < w.heap.size ∧ (g.w.heap.size ≤ b ∨ g.mu b) := by
 refine ⟨?_,R.own b h⟩
 obtain ⟨p,hp,e⟩ := mem_blocks.1 h
 exact (R.objs p hp).lt b e
theorem Rel.obj (R : Rel g N bs ρ a w st) (d j : Nat) {w' : World} {nv : Value} {o : AO} (hb : BelowM g.mu g.w.heap.size g.w w') (hsz : w.heap.size ≤ w'.heap.size)
  (hmem : ∀ b,b < w.heap.size → (∀ p ∈ st.heap,p.1 = j → ¬ b ∈ blks (ρ j)) → w'.heap[b]? = w.heap[b]?)
  (hnv : ∀ b ∈ blks nv,w.heap.size ≤ b ∨ ∃ p ∈ st.heap,p.1 = j ∧ b ∈ blks (ρ j))
  (hobj : Ext d (cxOf g w ρ st.heap) (cxOf g w' (reρ ρ d nv) (st.obj d j o).heap) → ObjOk (cxOf g w' (reρ ρ d nv) (st.obj d j o).heap) d (o.scrub d)) (hnd : (blks nv).Nodup := by simp [blks,blk1]) :
  Rel g N bs (reρ ρ d nv) a w' (st.obj d j o) := by
 have hgd : ∀ p ∈ gone d j st.heap,p.1 ≠ d := fun p hp => (mem_gone.1 hp).2.1
 have hgs : ∀ p ∈ scrubH d (gone d j st.heap),p.1 ≠ d := by
  intro p hp
  simp only [scrubH,List.mem_map] at hp
  obtain ⟨q,hq,rfl⟩ := hp
  exact hgd q hq
 have hblocks : blocksOf (reρ ρ d nv) (st.obj d j o).heap = blks nv ++ blocksOf ρ (gone d j st.heap) := by
  show blocksOf _ (_ :: _) = _
  rw [blocks_cons,blocks_reρ hgs,blocks_scrub]
  simp [reρ]
 have hsub : ∀ b,b ∈ blocksOf ρ (gone d j st.heap) → b ∈ blocksOf ρ st.heap := fun b h => blocks_filter_sub h
 have hjno : ∀ b,b ∈ blocksOf ρ (gone d j st.heap) → ∀ p ∈ st.heap,p.1 = j → ¬ b ∈ blks (ρ j) := by
  intro b hb p hp hpj e
  obtain ⟨q,hq,hqe⟩ := mem_blocks.1 hb
  have := blocks_apart R.apart q (mem_gone.1 hq).1 p hp hqe (by rw [hpj]; exact e)
  exact (mem_gone.1 hq).2.2 (this.trans hpj)
 have hE : Ext d (cxOf g w ρ st.heap) (cxOf g w' (reρ ρ d nv) (st.obj d j o).heap) := by
  refine ⟨fun b hk => ⟨Nat.lt_of_lt_of_le hk.1 hsz,hk.2.1,?_⟩,fun b hk => hmem b hk.1 fun p hp hpj e => hk.2.2 (mem_blocks.2 ⟨p,hp,by rw [hpj]; exact e⟩),fun i hi => .inl (by simp [cxOf,reρ,hi])⟩
  rw [hblocks,List.mem_append]
  rintro (h | h)
  · rcases hnv b h with hge | ⟨p,hp,hpj,e⟩
    · exact absurd hk.1 (by omega)
    · exact hk.2.2 (mem_blocks.2 ⟨p,hp,by rw [hpj]; exact e⟩)
  · exact hk.2.2 (hsub b h)
 refine ⟨R.size,R.defers,hb,fun t => by rw [show (st.obj d j o).tmps t = scrub2 d (st.tmps t) from ofL_mapS rfl st.sl t]; exact C2.ext hE (R.tmps t),?_,?_,?_,R.back.map rfl fun _ _ => C2.ext hE⟩
 · intro p hp
   rcases List.mem_cons.1 hp with rfl | hp'
   · exact hobj hE
   · simp only [scrubH,List.mem_map] at hp'
     obtain ⟨q,hq,rfl⟩ := hp'
     have hq' := mem_gone.1 hq
     refine ObjOk.ext hE (by simp [cxOf,reρ,hq'.2.1]) (fun b hb => ?_) (R.objs q hq'.1)
     have hm : b ∈ blocksOf ρ (gone d j st.heap) := mem_blocks.2 ⟨q,hq,hb⟩
     exact hmem b (R.lt_block (hsub b hm)).1 (hjno b hm)
 · rw [hblocks,List.nodup_append]
   refine ⟨hnd,nodup_filter R.apart,?_⟩
   · intro x hx y hy e
     subst e
     rcases hnv x hx with hge | ⟨p,hp,hpj,e⟩
     · exact absurd (R.lt_block (hsub x hy)).1 (by omega)
     · exact hjno x hy p hp hpj e
 · intro x hx
   rw [hblocks,List.mem_append] at hx
   rcases hx with hx | hx
   · rcases hnv x hx with hge | ⟨p,hp,hpj,e⟩
     · exact .inl (Nat.le_trans R.below.size hge)
     · exact R.own x (mem_blocks.2 ⟨p,hp,by rw [hpj]; exact e⟩)
   · exact R.own x (hsub x hx)
def setObj (id : Nat) (o : AO) : List (Nat × AO) → List (Nat × AO)
  | [] => []
  | p :: h => bif Nat.beq p.1 id then (p.1,o) :: h else p :: setObj id o h
def findObj (id : Nat) : List (Nat × AO) → Option AO
  | [] => none
  | p :: h => bif Nat.beq p.1 id then some p.2 else findObj id h
theorem findObj_mem {id : Nat} {o : AO} : ∀ {h : List (Nat × AO)},findObj id h = some o → (id,o) ∈ h
  | [],e => by cases e
  | p :: h,e => by
    simp only [findObj] at e
    cases hb : Nat.beq p.1 id with
    | true =>
      rw [hb] at e
      simp only [cond_true,Option.some.injEq] at e
      have := Nat.eq_of_beq_eq_true hb
      rw [← this,← e]
      exact List.mem_cons_self
    | false =>
      rw [hb] at e
      exact List.mem_cons_of_mem _ (findObj_mem e)
theorem blocks_setObj (ρ : Nat → Value) (id : Nat) (o : AO) : ∀ h,blocksOf ρ (setObj id o h) = blocksOf ρ h
  | [] => rfl
  | p :: h => by
    simp only [setObj]
    cases Nat.beq p.1 id with
    | true => simp only [cond_true]; rw [blocks_cons,blocks_cons]
    | false => simp only [cond_false]; rw [blocks_cons,blocks_cons,blocks_setObj ρ id o h]
theorem mem_setObj {id : Nat} {o : AO} {p : Nat × AO} : ∀ {h : List (Nat × AO)},p ∈ setObj id o h → p = (id,o) ∨ p ∈ h
  | [],hp => by cases hp
  | q :: h,hp => by
    simp only [setObj] at hp
    cases hb : Nat.beq q.1 id with
    | true =>
      rw [hb] at hp
      rcases List.mem_cons.1 hp with rfl | hp'
      · left; rw [Nat.eq_of_beq_eq_true hb]
      · right; exact List.mem_cons_of_mem _ hp'
    | false =>
      rw [hb] at hp
      rcases List.mem_cons.1 hp with rfl | hp'
      · right; exact List.mem_cons_self
      · rcases mem_setObj hp' with h' | h'
        · exact .inl h'
        · exact .inr (List.mem_cons_of_mem _ h')
theorem Rel.write (R : Rel g N bs ρ a w st) {id b : Nat} {w' : World} {o o' : AO} (hf : findObj id st.heap = some o) (hbk : b ∈ blks (ρ id)) (hb : Below b w w') (hsz : w'.heap.size = w.heap.size)
  (hmem : ∀ k,k ≠ b → w'.heap[k]? = w.heap[k]?) (hobj : (∀ k,keepOf g w ρ st.heap k → keepOf g w' ρ (setObj id o' st.heap) k) → (∀ k,keepOf g w ρ st.heap k → w'.heap[k]? = w.heap[k]?) → ObjOk (cxOf g w' ρ (setObj id o' st.heap)) id o') :
  Rel g N bs ρ a w' ⟨st.sl,setObj id o' st.heap,st.back,st.base⟩ := by
 have hin : b ∈ blocksOf ρ st.heap := mem_blocks.2 ⟨_,findObj_mem hf,hbk⟩
 have hlt := R.lt_block hin
 have hk : ∀ k,keepOf g w ρ st.heap k → keepOf g w' ρ (setObj id o' st.heap) k := fun k h => ⟨by rw [hsz]; exact h.1,h.2.1,by rw [blocks_setObj]; exact h.2.2⟩
 have hm : ∀ k,keepOf g w ρ st.heap k → w'.heap[k]? = w.heap[k]? := fun k h => hmem k fun e => h.2.2 (by rw [e]; exact hin)
 refine ⟨R.size,R.defers,R.below.write hlt.2 hb hmem,fun t => C2.same (X := cxOf g w ρ st.heap) (Y := cxOf g w' ρ (setObj id o' st.heap)) hk hm rfl (R.tmps t),fun p hp => ?_,by rw [blocks_setObj]; exact R.apart,by rw [blocks_setObj]; exact R.own,R.back.imp fun _ _ => C2.same (X := cxOf g w ρ st.heap) (Y := cxOf g w' ρ (setObj id o' st.heap)) hk hm rfl⟩
 by_cases hpid : p.1 = id
 · rcases mem_setObj hp with rfl | hp'
   · exact hobj hk hm
   · rw [hpid,← mem_setObj_same R hf hbk hp hpid]
     exact hobj hk hm
 · rcases mem_setObj hp with rfl | hp'
   · exact absurd rfl hpid
   · have ho := R.objs p hp'
     have hne : ∀ k ∈ blks (ρ p.1),k ≠ b := by
      intro k hk' e
      subst e
      exact hpid (blocks_apart R.apart p hp' _ (findObj_mem hf) hk' hbk)
     exact ObjOk.same (X := cxOf g w ρ st.heap) (Y := cxOf g w' ρ (setObj id o' st.heap)) hk hm rfl (fun k hk' => hmem k (hne k hk')) ho
where
 mem_setObj_same {id b : Nat} {o o' : AO} {p : Nat × AO} (R : Rel g N bs ρ a w st) (hf : findObj id st.heap = some o) (hbk : b ∈ blks (ρ id)) (hp : p ∈ setObj id o' st.heap) (hpid : p.1 = id) : o' = p.2 := by
  have key : ∀ h : List (Nat × AO),(blocksOf ρ h).Nodup → p ∈ setObj id o' h → findObj id h = some o → o' = p.2 := by
   intro h
   induction h with
   | nil => intro _ hp; cases hp
   | cons q h ih =>
     intro hn hp hfq
     simp only [setObj] at hp
     simp only [findObj] at hfq
     cases hb : Nat.beq q.1 id with
     | true =>
       rw [hb] at hp
       rcases List.mem_cons.1 hp with rfl | hp'
       · rfl
       · have hq := Nat.eq_of_beq_eq_true hb
         rw [blocks_cons,List.nodup_append] at hn
         exact absurd rfl (hn.2.2 b (by rw [hq]; exact hbk) b (mem_blocks.2 ⟨p,hp',by rw [hpid]; exact hbk⟩))
     | false =>
       rw [hb] at hp hfq
       rcases List.mem_cons.1 hp with rfl | hp'
       · rw [hpid] at hb; simp at hb
       · exact ih (nodup_tail hn) hp' hfq
  exact key st.heap R.apart hp hf
end
end Go.Proofs.YtimhagicagdkfaaGreat
namespace Go.Proofs.YtimhagicagdkfaaGreat
open Go.RowKit
inductive TK : Type where
  | bool | str | int (k : IntKind) | ptr (e : TypeId) | slice (e : TypeId) | array (n : Nat) (e : TypeId) | struct (fs : List (Nat × TypeId)) | map (k e : TypeId) | other
structure TI where
 size : Nat
 bytes : Nat
 zero : List Value
 kind : TK
def kindOf : TypeDesc → TK
  | .bool => .bool
  | .int k => .int k
  | .string => .str
  | .pointer e => .ptr e
  | .slice e => .slice e
  | .array n e => .array n e
  | .struct fs => .struct (fs.toList.map fun f => (f.offset,f.type))
  | .map k e => .map k e
  | _ => .other
def TI.isAgg (i : TI) : Bool := match i.kind with | .array _ _ => true | .struct _ => true | _ => false
def factOf (P : Program) (t : TypeId) : Option TI :=
 match P.info? t,P.underlying t with
 | some i,some d => i.zero.map fun z => ⟨i.size,i.bytes,z.cells.toList,kindOf d⟩
 | _,_ => none
abbrev Lay := List (TypeId × TI)
def layGet : Lay → TypeId → Option TI
  | [],_ => none
  | p :: l,t => bif Nat.beq p.1 t then some p.2 else layGet l t
def LayOk (P : Program) (L : Lay) : Prop := ∀ t i,layGet L t = some i → factOf P t = some i
theorem layOk_of {P : Program} {L : Lay} (h : (L.map fun p => factOf P p.1) = (L.map fun p => some p.2)) : LayOk P L := by
 induction L with
 | nil => intro t i e; cases e
 | cons p L ih =>
   intro t i e
   simp only [List.map_cons,List.cons.injEq] at h
   simp only [layGet] at e
   cases hb : Nat.beq p.1 t with
   | true =>
     rw [hb] at e
     simp only [cond_true,Option.some.injEq] at e
     rw [← Nat.eq_of_beq_eq_true hb,← e]
     exact h.1
   | false =>
     rw [hb] at e
     exact ih h.2 t i e
inductive Req (p A : Prop) : Prop where
  | mk : p → A → Req p A
inductive Spl (p A B : Prop) : Prop where
  | mk : (p → A) → (¬ p → B) → Spl p A B
theorem Spl.yes {p A B : Prop} (h : p) (a : A) : Spl p A B := ⟨fun _ => a,fun n => absurd h n⟩
theorem Spl.no {p A B : Prop} (h : ¬ p) (b : B) : Spl p A B := ⟨fun y => absurd y h,fun _ => b⟩
theorem chk {b : Bool} {A : Prop} (h : b = true) (a : A) : (bif b then A else False) := by rw [h]; exact a
inductive Wr (n : Int) (K : Int → Prop) : IntKind → Prop where
  | i64 : -9223372036854775808 ≤ n → n ≤ 9223372036854775807 → K n → Wr n K .i64
  | u64 : 0 ≤ n → n ≤ 18446744073709551615 → K n → Wr n K .u64
  | u32 : 0 ≤ n → n ≤ 4294967295 → K n → Wr n K .u32
  | u8 : 0 ≤ n → n ≤ 255 → K n → Wr n K .u8
  | raw (k : IntKind) : K (k.wrap n) → Wr n K k
def ofVal : Value → AV
  | .agg cs => .agg (cs.toList.map .v)
  | x => .v x
def AS.ev (st : AS) : Operand → AV
  | .tmp t => st.tmps t
  | .const x => ofVal x
  | .func g => .fn g []
  | .global _ => .junk
def cfOf (g : FuncId) (c : AV) : Option (List AV) := match c with
  | .box id off => bif Nat.blt g million then some [.cf g id off] else none
  | _ => none
def AV.cells? : AV → Option (List AV)
  | .agg cs => some cs
  | .tup _ => none
  | .fn g caps => (match caps with | [] => some [.v (.func (.func g) #[] #[])] | c :: r => (match r with | [] => cfOf g c | _ :: _ => none))
  | x => some [x]
def refnV (y : Value) : AV := match y with
  | .func (.func g) fs us => bif fs.toList.isEmpty && us.toList.isEmpty then .fn g [] else .v (.func (.func g) fs us)
  | y => .v y
def AV.refn (x : AV) : AV := match x with
  | .v y => refnV y
  | .cf g id off => bif Nat.blt g million then .fn g [.box id off] else .cf g id off
  | x => x
theorem refn_ok {X : CX} {x : AV} {u : Value} (h : C2 X x u) : C2 X x.refn u := by
 cases x with
 | v y =>
   show C2 X (refnV y) u
   unfold refnV
   split
   · rename_i g fs us
     cases hb : fs.toList.isEmpty && us.toList.isEmpty with
     | false => exact h
     | true =>
       have hb := Bool.and_eq_true_iff.1 hb
       have h1 : fs = #[] := by simpa using hb.1
       have h2 : us = #[] := by simpa using hb.2
       subst h1 h2
       have h : u = .func (.func g) #[] #[] := h
       exact ⟨[],h,rfl,fun i x u hx => by simp at hx⟩
   · exact h
 | cf g id off =>
   show C2 X (bif Nat.blt g million then .fn g [.box id off] else .cf g id off) u
   cases hb : Nat.blt g million with
   | true =>
     obtain ⟨b,h1,rfl⟩ := h
     exact ⟨[.pointer (some ⟨b,off,none⟩)],by unfold cfV; rw [hb]; rfl,All2.cons ⟨b,h1,rfl⟩ All2.nil⟩
   | false => exact h
 | _ => exact h
def oneB (h : List (Nat × AO)) : AV → Bool
  | .v x => x.oneCell'
  | .sl .. => true
  | .own id => match findObj id h with | some (.row ..) => true | some (.mp ..) => true | some (.obs _) => true | some (.rn ..) => true | _ => false
  | .eown .. => true
  | .osl .. => true
  | .box .. => true
  | .cf .. => true
  | .el .. => true
  | _ => false
def pureB : AV → Bool
  | .v x => x.oneCell'
  | .sl .. => true
  | _ => false
def isV : AV → Bool
  | .v _ => true
  | _ => false
def splice (cs : List AV) (k : Nat) (xs : List AV) : List AV := cs.take k ++ (xs ++ cs.drop (k + xs.length))
def ld (i : TI) (cs : List AV) (k : Nat) (K : AV → Prop) : Prop :=
 bif i.isAgg then (bif Nat.ble (k + i.size) cs.length then K (.agg ((cs.drop k).take i.size)) else False)
 else (bif Nat.ble (k + 1) cs.length then K (cs.getD k .junk) else False)
def inB (n : Int) (m : Nat) : Bool := decide (0 ≤ n) && decide (n < (m : Int))
structure InB (n : Int) (m : Nat) (A : Prop) : Prop where
 mk ::
 ok : inB n m = true
 k : A
theorem InB_eq (n : Int) (m : Nat) (A : Prop) : InB n m A = (bif inB n m then A else False) := by
 cases h : inB n m with
 | true => exact propext ⟨fun k => k.k,fun k => ⟨h,k⟩⟩
 | false => exact propext ⟨fun k => (by have := k.ok; rw [h] at this; cases this),fun k => k.elim⟩
theorem inB_mk {n : Int} {m : Nat} (h0 : 0 ≤ n) (h1 : n < (m : Int)) : inB n m = true := by simp [inB,h0,h1]
inductive InA (n : Int) (m : Nat) (K : Nat → Prop) : Prop where
  | mk (ok : inB n m = true) (k : K n.toNat) : InA n m K
  | lit (c : Nat) (e : n = (c : Int)) (hc : Nat.blt c m = true) (k : K c) : InA n m K
theorem InA_eq (n : Int) (m : Nat) (K : Nat → Prop) : InA n m K = (bif inB n m then K n.toNat else False) := by
 cases h : inB n m with
 | true =>
   refine propext ⟨fun k => ?_,fun k => .mk h k⟩
   cases k with
   | mk _ k => exact k
   | lit c e _ k => subst e; exact k
 | false =>
   refine propext ⟨fun k => ?_,fun k => k.elim⟩
   cases k with
   | mk ok _ => rw [h] at ok; cases ok
   | lit c e hc _ =>
     subst e
     have hc : c < m := Nat.blt_eq.mp hc
     rw [inB_mk (by omega) (by omega)] at h
     cases h
def aload (L : Lay) (st : AS) (t : TypeId) (p : AV) (K : AV → Prop) : Prop :=
 match layGet L t,p with
 | some i, .box id k => match findObj id st.heap with | some (.box _ cs) => ld i cs k K | _ => False
 | some i, .el cs k => ld i cs k K
 | some i, .eown id s j k => match findObj id st.heap with | some (.row _ s' n _ f) => bif Nat.beq s s' then (bif Nat.ble (j + 1) n then ld i (f j) k K else False) else False | some (.rn _ cs) => bif Nat.beq s 1 then ld i cs (j + k) K else False | _ => False
 | _,_ => False
def astore (L : Lay) (st : AS) (t : TypeId) (p x : AV) (K : AS → Prop) : Prop :=
 match layGet L t,p,x.cells? with
 | some i, .box id k,some xs =>
   bif Nat.beq xs.length i.size && xs.all (oneB st.heap) then
    (match findObj id st.heap with
    | some (.box t' cs) => bif Nat.ble (k + xs.length) cs.length then K ⟨st.sl,setObj id (.box t' (splice cs k xs)) st.heap,st.back,st.base⟩ else False
    | _ => False)
   else False
 | some i, .eown id s j k,some xs =>
   bif Nat.beq xs.length i.size && xs.all pureB then
    (match findObj id st.heap with
    | some (.row e s' n sc f) =>
      bif Nat.beq s s' && Nat.ble (k + xs.length) s then (bif Nat.ble (j + 1) n then K ⟨st.sl,setObj id (.row e s n (sc && xs.all isV) (fun m => bif Nat.beq m j then splice (f j) k xs else f m)) st.heap,st.back,st.base⟩ else False) else False
    | _ => False)
   else False
 | _,_,_ => False
def afieldAddr (L : Lay) (t : TypeId) (p : AV) (i : Nat) (K : AV → Prop) : Prop :=
 match layGet L t with
 | some ti => match ti.kind with
   | .struct fs => match fs[i]? with
     | some (o,ft) => match layGet L ft with
       | some fi => bif Nat.ble 1 fi.size then (match p with | .box id k => K (.box id (k + o)) | .el cs k => K (.el cs (k + o)) | .eown id s j k => K (.eown id s j (k + o)) | _ => False) else False
       | none => False
     | none => False
   | _ => False
 | none => False
def afield (L : Lay) (t : TypeId) (x : AV) (i : Nat) (K : AV → Prop) : Prop :=
 match layGet L t,x with
 | some ti, .agg cs => match ti.kind with
   | .struct fs => match fs[i]? with
     | some (o,ft) => match layGet L ft with | some fi => ld fi cs o K | none => False
     | none => False
   | _ => False
 | _,_ => False
def aindexAddr (L : Lay) (st : AS) (t : TypeId) (x ix : AV) (K : AV → Prop) : Prop :=
 match layGet L t,ix with
 | some ti, .v (.int _ n) => match ti.kind with
   | .slice e => match layGet L e with
     | some ei => match x with
       | .sl s m _ f => bif Nat.beq s ei.size then (InB n m (K (.el (f n.toNat) 0))) else False
       | .own id => match findObj id st.heap with
         | some (.row _ s m _ _) => bif Nat.beq s ei.size then (InB n m (K (.eown id s n.toNat 0))) else False
         | some (.rn _ cs) => bif Nat.beq 1 ei.size then InA n cs.length (fun q => K (.eown id 1 q 0)) else False
         | _ => False
       | _ => False
     | none => False
   | .array m e => match layGet L e with
     | some ei => InA n m (fun q => match x with | .box id k => K (.box id (k + q * ei.size)) | .el cs k => K (.el cs (k + q * ei.size)) | .eown id s j k => K (.eown id s j (k + q * ei.size)) | _ => False)
     | none => False
   | _ => False
 | _,_ => False
def aindex (L : Lay) (t : TypeId) (x ix : AV) (K : AV → Prop) : Prop :=
 match layGet L t,ix with
 | some ti, .v (.int _ n) => match ti.kind,x with
   | .array m e, .agg cs => match layGet L e with | some ei => InA n m (fun q => ld ei cs (q * ei.size) K) | none => False
   | .str, .v (.string s) => InB n s.size (K (.v (.int .u8 ((s.data.toList.getD n.toNat 0).toNat : Int))))
   | _,_ => False
 | _,_ => False
def aextract (x : AV) (i : Nat) (K : AV → Prop) : Prop := match x with | .tup vs => (match vs[i]? with | some y => K y | none => False) | _ => False
def fillA (h : List (Nat × AO)) (place : Nat → Option (Nat × Nat)) : List AV → List (Nat × AV) → Option (List AV)
  | cs,[] => some cs
  | cs,(i,x) :: r => match place i,x.cells? with
    | some (o,s),some xs => bif Nat.beq xs.length s && Nat.ble (o + xs.length) cs.length && xs.all (oneB h) then fillA h place (splice cs o xs) r else none
    | _,_ => none
def placesOf (L : Lay) : List (Nat × TypeId) → Option (List (Nat × Nat))
  | [] => some []
  | (o,t) :: r => match layGet L t,placesOf L r with | some i,some l => some ((o,i.size) :: l) | _,_ => none
def abuild (L : Lay) (h0 : List (Nat × AO)) (t : TypeId) (parts : List (Nat × AV)) (K : AV → Prop) : Prop :=
 match layGet L t with
 | some ti => match ti.kind with
   | .struct fs => match placesOf L fs with
     | some pl => match fillA h0 (pl[·]?) (ti.zero.map .v) parts with | some cs => K (.agg cs) | none => False
     | none => False
   | .array _ e => match layGet L e with
     | some ei => match fillA h0 (fun i => some (i * ei.size,ei.size)) (ti.zero.map .v) parts with | some cs => K (.agg cs) | none => False
     | none => False
   | _ => False
 | none => False
def repL (z : List AV) : Nat → List AV
  | 0 => []
  | n + 1 => z ++ repL z n
def chunk (s : Nat) (cs : List AV) (i : Nat) : List AV := (cs.drop (i * s)).take s
def abuildSlice (L : Lay) (d : Nat) (st : AS) (t : TypeId) (len : Nat) (parts : List (Nat × AV)) (K : AV → AS → Prop) : Prop :=
 match layGet L t with
 | some ti => match ti.kind with
   | .slice e => match layGet L e with
     | some ei =>
       bif Nat.ble 1 ei.size && Nat.beq ei.zero.length ei.size && Nat.ble (len * ei.size) 65536 then
        (match fillA st.heap (fun i => some (i * ei.size,ei.size)) (repL (ei.zero.map .v) len) parts with
        | some cs => bif cs.all pureB then K (.own d) (st.obj d d (.row e ei.size len (cs.all isV) (chunk ei.size cs))) else (bif Nat.beq ei.size 1 && Nat.beq cs.length len && cs.all (oneB st.heap) then K (.own d) (st.obj d d (.rn e cs)) else False)
        | none => False)
       else False
     | none => False
   | _ => False
 | none => False
def acmp (op : BinOp) (a b : Int) (K : AV → Prop) : Prop :=
 match op with
 | .eql => Spl (a = b) (K (.v (.bool true))) (K (.v (.bool false)))
 | .neq => Spl (a = b) (K (.v (.bool false))) (K (.v (.bool true)))
 | .lss => Spl (a < b) (K (.v (.bool true))) (K (.v (.bool false)))
 | .leq => Spl (a ≤ b) (K (.v (.bool true))) (K (.v (.bool false)))
 | .gtr => Spl (b < a) (K (.v (.bool true))) (K (.v (.bool false)))
 | .geq => Spl (b ≤ a) (K (.v (.bool true))) (K (.v (.bool false)))
 | _ => False
inductive Dv (a b : Int) (K : Int → Prop) : Prop where
  | pos : 0 ≤ a → 0 < b → K (a / b) → Dv a b K
  | raw : b ≠ 0 → K (a.tdiv b) → Dv a b K
inductive Rm (a b : Int) (K : Int → Prop) : Prop where
  | pos : 0 ≤ a → 0 < b → K (a % b) → Rm a b K
  | raw : b ≠ 0 → K (a.tmod b) → Rm a b K
def aint (op : BinOp) (k : IntKind) (a b : Int) (K : AV → Prop) : Prop :=
 match op with
 | .add => Wr (a + b) (fun n => K (.v (.int k n))) k
 | .sub => Wr (a - b) (fun n => K (.v (.int k n))) k
 | .mul => Wr (a * b) (fun n => K (.v (.int k n))) k
 | .quo => Dv a b (fun q => Wr q (fun n => K (.v (.int k n))) k)
 | .rem => Rm a b (fun n => K (.v (.int k n)))
 | .and => K (.v (.int k (k.wrap (BitVec.ofInt k.bits a &&& BitVec.ofInt k.bits b).toNat)))
 | .or => K (.v (.int k (k.wrap (BitVec.ofInt k.bits a ||| BitVec.ofInt k.bits b).toNat)))
 | .xor => K (.v (.int k (k.wrap (BitVec.ofInt k.bits a ^^^ BitVec.ofInt k.bits b).toNat)))
 | .shl => False
 | .shr => False
 | .andNot => False
 | op => acmp op a b K
def ashift (op : BinOp) (k : IntKind) (a b : Int) (K : AV → Prop) : Prop :=
 match op with
 | .shl => Req (0 ≤ b) (Wr (a * 2 ^ min b.toNat k.bits) (fun n => K (.v (.int k n))) k)
 | .shr => Req (0 ≤ b) (K (.v (.int k (a.fdiv (2 ^ min b.toNat k.bits)))))
 | _ => False
def astr (op : BinOp) (a b : ByteArray) (K : AV → Prop) : Prop :=
 match op with
 | .add => Req (((a.size + b.size : Nat) : Int) ≤ 9223372036854775807) (K (.v (.string (a ++ b))))
 | .eql => Spl (a = b) (K (.v (.bool true))) (K (.v (.bool false)))
 | .neq => Spl (a = b) (K (.v (.bool false))) (K (.v (.bool true)))
 | .lss => Spl (Op.bytesLess a.toList b.toList = true) (K (.v (.bool true))) (K (.v (.bool false)))
 | .geq => Spl (Op.bytesLess a.toList b.toList = true) (K (.v (.bool false))) (K (.v (.bool true)))
 | .leq => Spl (Op.bytesLess a.toList b.toList = true ∨ a = b) (K (.v (.bool true))) (K (.v (.bool false)))
 | .gtr => Spl (Op.bytesLess a.toList b.toList = true ∨ a = b) (K (.v (.bool false))) (K (.v (.bool true)))
 | _ => False
def EqFact (P : Program) (t : TypeId) (us vs : List Value) (p : Prop) : Prop :=
 P.eqGuardType P.depth t = false ∧ ∀ w : World,∃ b : Bool,(b = true ↔ p) ∧ (Op.equal t (.agg us.toArray) (.agg vs.toArray)).run P w = .ok b w
inductive EqA (P : Program) (t : TypeId) (cs ds : List AV) (A B : Prop) : Prop where
  | mk (us vs : List Value) (p : Prop) (hu : cs = us.map .v) (hv : ds = vs.map .v) (hp : EqFact P t us vs p) : Spl p A B → EqA P t cs ds A B
structure SNil (n : Nat) (A B : Prop) : Prop where
 y : n = 0 → A
 n : B
def abin (P : Program) (L : Lay) (op : BinOp) (t : TypeId) (x y : AV) (K : AV → Prop) : Prop :=
 match x,y with
 | .v (.int k a), .v (.int k' b) => (match op with
   | .shl => ashift .shl k a b K
   | .shr => ashift .shr k a b K
   | op => bif decide (k = k') then aint op k a b K else False)
 | .v (.string a), .v (.string b) => astr op a b K
 | .v (.bool a), .v (.bool b) => match layGet L t with
   | some i => (match i.kind,op with
     | .bool, .eql => K (.v (.bool (a == b)))
     | .bool, .neq => K (.v (.bool (!(a == b))))
     | _,_ => False)
   | none => False
 | .agg cs, .agg ds => (match op with
   | .eql => EqA P t cs ds (K (.v (.bool true))) (K (.v (.bool false)))
   | .neq => EqA P t cs ds (K (.v (.bool false))) (K (.v (.bool true)))
   | _ => False)
 | .box _ _, .v (.pointer none) => match layGet L t with
   | some i => (match i.kind,op with
     | .ptr _, .eql => K (.v (.bool false))
     | .ptr _, .neq => K (.v (.bool true))
     | _,_ => False)
   | none => False
 | .v (.pointer none), .v (.pointer none) => match layGet L t with
   | some i => (match i.kind,op with
     | .ptr _, .eql => K (.v (.bool true))
     | .ptr _, .neq => K (.v (.bool false))
     | _,_ => False)
   | none => False
 | .v (.slice none 0 0), .v (.slice none 0 0) => match layGet L t with
   | some i => (match i.kind,op with
     | .slice _, .eql => K (.v (.bool true))
     | .slice _, .neq => K (.v (.bool false))
     | _,_ => False)
   | none => False
 | .sl _ n _ _, .v (.slice none 0 0) => match layGet L t with
   | some i => (match i.kind,op with
     | .slice _, .eql => SNil n (K (.v (.bool true))) (K (.v (.bool false)))
     | .slice _, .neq => SNil n (K (.v (.bool false))) (K (.v (.bool true)))
     | _,_ => False)
   | none => False
 | _,_ => False
def aun (op : UnOp) (x : AV) (K : AV → Prop) : Prop :=
 match op,x with
 | .not, .v (.bool b) => K (.v (.bool (!b)))
 | .neg, .v (.int k n) => Wr (0 - n) (fun n => K (.v (.int k n))) k
 | .xor, .v (.int k n) => aint .xor k (if k.signed then -1 else k.max) n K
 | _,_ => False
inductive Bs (n : Nat) (f : Nat → List AV) (K : List UInt8 → Prop) : Prop where
  | mk (bs : List UInt8) (hn : n = bs.length) (hf : ∀ i,i < n → f i = [.v (.int .u8 ((bs.getD i 0).toNat : Int))]) : K bs → Bs n f K
def aconvert (L : Lay) (st : AS) (src dst : TypeId) (x : AV) (K : AV → Prop) : Prop :=
 match layGet L src,layGet L dst with
 | some si,some di => match si.kind,di.kind,x with
   | _, .int k, .v (.int _ n) => Wr n (fun n => K (.v (.int k n))) k
   | _, .str, .v (.string s) => K (.v (.string s))
   | .slice e, .str, .sl _ n _ f => match layGet L e with | some ei => (match ei.kind with | .int .u8 => Bs n f (fun bs => K (.v (.string ⟨bs.toArray⟩))) | _ => False) | none => False
   | .slice e, .str, .own id => match findObj id st.heap with
     | some (.row _ _ n _ f) => match layGet L e with | some ei => (match ei.kind with | .int .u8 => Bs n f (fun bs => K (.v (.string ⟨bs.toArray⟩))) | _ => False) | none => False
     | _ => False
   | _,_,_ => False
 | _,_ => False
def thaw0 (i0 : Nat) (a : AV) : AV → AV
  | .v x => .v x
  | .agg cs => .agg cs
  | .tup vs => .tup vs
  | .sl s n sc f => .sl s n sc f
  | .own id => bif Nat.beq id i0 then a else .own id
  | .eown id s i k => .eown id s i k
  | .osl id s i k => .osl id s i k
  | .box id off => .box id off
  | .cf g id off => .cf g id off
  | .el cs k => .el cs k
  | .fn g cs => .fn g cs
  | .junk => .junk
def thaw1 (i0 : Nat) (a : AV) : AV → AV
  | .v x => .v x
  | .agg cs => .agg (cs.map (thaw0 i0 a))
  | .tup vs => .tup vs
  | .sl s n sc f => .sl s n sc f
  | .own id => bif Nat.beq id i0 then a else .own id
  | .eown id s i k => .eown id s i k
  | .osl id s i k => .osl id s i k
  | .box id off => .box id off
  | .cf g id off => .cf g id off
  | .el cs k => .el cs k
  | .fn g cs => .fn g (cs.map (thaw0 i0 a))
  | .junk => .junk
def thaw2 (i0 : Nat) (a : AV) : AV → AV
  | .v x => .v x
  | .agg cs => .agg (cs.map (thaw0 i0 a))
  | .tup vs => .tup (vs.map (thaw1 i0 a))
  | .sl s n sc f => .sl s n sc f
  | .own id => bif Nat.beq id i0 then a else .own id
  | .eown id s i k => .eown id s i k
  | .osl id s i k => .osl id s i k
  | .box id off => .box id off
  | .cf g id off => .cf g id off
  | .el cs k => .el cs k
  | .fn g cs => .fn g (cs.map (thaw0 i0 a))
  | .junk => .junk
def AO.thaw (id : Nat) (a : AV) : AO → AO
  | .box t cs => .box t (cs.map (thaw0 id a))
  | .row e s n sc f => .row e s n sc f
  | .mp t ks rs => .mp t (scrubK id ks) rs
  | .obs o => .obs o
  | .rn e cs => .rn e (cs.map (thaw0 id a))
def AS.freeze (st : AS) (id s n : Nat) (sc : Bool) (f : Nat → List AV) : AS :=
 ⟨mapS (thaw2 id (.sl s n sc f)) st.sl,(st.heap.filter fun p => !Nat.beq p.1 id).map fun p => (p.1,p.2.thaw id (.sl s n sc f)),st.back.map (mapS (thaw2 id (.sl s n sc f))),st.base⟩
def AS.freezeBox (st : AS) (id : Nat) : AS := ⟨mapS (scrub2 id) st.sl,scrubH id (st.heap.filter fun p => !Nat.beq p.1 id),st.back.map (mapS (scrub2 id)),st.base⟩
def acut (s n : Nat) (sc : Bool) (f : Nat → List AV) (lo hi : Option AV) (K : AV → Prop) : Prop :=
 match lo,hi with
 | none,none => K (.sl s n sc f)
 | none,some (.v (.int _ h)) => InB h (n + 1) (K (.sl s h.toNat sc f))
 | some (.v (.int _ l)),none => InB l (n + 1) (K (.sl s (n - l.toNat) sc (fun i => f (l.toNat + i))))
 | some (.v (.int _ l)),some (.v (.int _ h)) => InB h (n + 1) ((InB l (h.toNat + 1) (K (.sl s (h.toNat - l.toNat) sc (fun i => f (l.toNat + i))))))
 | _,_ => False
def acutS (b : ByteArray) (lo hi : Option AV) (K : AV → Prop) : Prop :=
 match lo,hi with
 | none,none => K (.v (.string b))
 | none,some (.v (.int _ h)) => InB h (b.size + 1) (K (.v (.string (b.extract 0 h.toNat))))
 | some (.v (.int _ l)),none => InB l (b.size + 1) (K (.v (.string (b.extract l.toNat b.size))))
 | some (.v (.int _ l)),some (.v (.int _ h)) => InB h (b.size + 1) ((InB l (h.toNat + 1) (K (.v (.string (b.extract l.toNat h.toNat))))))
 | _,_ => False
def abnd (n : Nat) (lo hi : Option AV) (K : Nat → Nat → Prop) : Prop :=
 match lo,hi with
 | none,none => K 0 n
 | none,some (.v (.int _ h)) => InB h (n + 1) (K 0 h.toNat)
 | some (.v (.int _ l)),none => InB l (n + 1) (K l.toNat n)
 | some (.v (.int _ l)),some (.v (.int _ h)) => InB h (n + 1) (InB l (h.toNat + 1) (K l.toNat h.toNat))
 | _,_ => False
inductive ASl (A B C : Prop) : Prop where
  | frz (h : A) : ASl A B C
  | part (h : B) : ASl A B C
  | cut (h : C) : ASl A B C
def litL (n m : Nat) (K : Nat → Prop) : Prop := bif Nat.beq n m then K m else K n
def litB (b : Bool) (X Y : Prop) : Prop := bif b then X else Y
theorem litL_eq (n m : Nat) (K : Nat → Prop) : litL n m K = K n := by
 unfold litL
 cases h : Nat.beq n m with
 | true => rw [Nat.eq_of_beq_eq_true h]; rfl
 | false => rfl
theorem litB_eq {b : Bool} {X Y Z : Prop} (h1 : X = Z) (h2 : Y = Z) : litB b X Y = Z := by cases b; exact h2; exact h1
def forceLit (n : Nat) (K : Nat → Prop) : Prop :=
 litB (Nat.ble 64 n) (litB (Nat.ble 96 n) (litB (Nat.ble 112 n) (litB (Nat.ble 120 n) (litB (Nat.ble 124 n) (litB (Nat.ble 126 n) (litB (Nat.ble 127 n) (litL n 127 K) (litL n 126 K)) (litB (Nat.ble 125 n) (litL n 125 K) (litL n 124 K))) (litB (Nat.ble 122 n) (litB (Nat.ble 123 n) (litL n 123 K) (litL n 122 K)) (litB (Nat.ble 121 n) (litL n 121 K) (litL n 120 K)))) (litB (Nat.ble 116 n) (litB (Nat.ble 118 n) (litB (Nat.ble 119 n) (litL n 119 K) (litL n 118 K)) (litB (Nat.ble 117 n) (litL n 117 K) (litL n 116 K))) (litB (Nat.ble 114 n) (litB (Nat.ble 115 n) (litL n 115 K) (litL n 114 K)) (litB (Nat.ble 113 n) (litL n 113 K) (litL n 112 K))))) (litB (Nat.ble 104 n) (litB (Nat.ble 108 n) (litB (Nat.ble 110 n) (litB (Nat.ble 111 n) (litL n 111 K) (litL n 110 K)) (litB (Nat.ble 109 n) (litL n 109 K) (litL n 108 K))) (litB (Nat.ble 106 n) (litB (Nat.ble 107 n) (litL n 107 K) (litL n 106 K)) (litB (Nat.ble 105 n) (litL n 105 K) (litL n 104 K)))) (litB (Nat.ble 100 n) (litB (Nat.ble 102 n) (litB (Nat.ble 103 n) (litL n 103 K) (litL n 102 K)) (litB (Nat.ble 101 n) (litL n 101 K) (litL n 100 K))) (litB (Nat.ble 98 n) (litB (Nat.ble 99 n) (litL n 99 K) (litL n 98 K)) (litB (Nat.ble 97 n) (litL n 97 K) (litL n 96 K)))))) (litB (Nat.ble 80 n) (litB (Nat.ble 88 n) (litB (Nat.ble 92 n) (litB (Nat.ble 94 n) (litB (Nat.ble 95 n) (litL n 95 K) (litL n 94 K)) (litB (Nat.ble 93 n) (litL n 93 K) (litL n 92 K))) (litB (Nat.ble 90 n) (litB (Nat.ble 91 n) (litL n 91 K) (litL n 90 K)) (litB (Nat.ble 89 n) (litL n 89 K) (litL n 88 K)))) (litB (Nat.ble 84 n) (litB (Nat.ble 86 n) (litB (Nat.ble 87 n) (litL n 87 K) (litL n 86 K)) (litB (Nat.ble 85 n) (litL n 85 K) (litL n 84 K))) (litB (Nat.ble 82 n) (litB (Nat.ble 83 n) (litL n 83 K) (litL n 82 K)) (litB (Nat.ble 81 n) (litL n 81 K) (litL n 80 K))))) (litB (Nat.ble 72 n) (litB (Nat.ble 76 n) (litB (Nat.ble 78 n) (litB (Nat.ble 79 n) (litL n 79 K) (litL n 78 K)) (litB (Nat.ble 77 n) (litL n 77 K) (litL n 76 K))) (litB (Nat.ble 74 n) (litB (Nat.ble 75 n) (litL n 75 K) (litL n 74 K)) (litB (Nat.ble 73 n) (litL n 73 K) (litL n 72 K)))) (litB (Nat.ble 68 n) (litB (Nat.ble 70 n) (litB (Nat.ble 71 n) (litL n 71 K) (litL n 70 K)) (litB (Nat.ble 69 n) (litL n 69 K) (litL n 68 K))) (litB (Nat.ble 66 n) (litB (Nat.ble 67 n) (litL n 67 K) (litL n 66 K)) (litB (Nat.ble 65 n) (litL n 65 K) (litL n 64 K))))))) (litB (Nat.ble 32 n) (litB (Nat.ble 48 n) (litB (Nat.ble 56 n) (litB (Nat.ble 60 n) (litB (Nat.ble 62 n) (litB (Nat.ble 63 n) (litL n 63 K) (litL n 62 K)) (litB (Nat.ble 61 n) (litL n 61 K) (litL n 60 K))) (litB (Nat.ble 58 n) (litB (Nat.ble 59 n) (litL n 59 K) (litL n 58 K)) (litB (Nat.ble 57 n) (litL n 57 K) (litL n 56 K)))) (litB (Nat.ble 52 n) (litB (Nat.ble 54 n) (litB (Nat.ble 55 n) (litL n 55 K) (litL n 54 K)) (litB (Nat.ble 53 n) (litL n 53 K) (litL n 52 K))) (litB (Nat.ble 50 n) (litB (Nat.ble 51 n) (litL n 51 K) (litL n 50 K)) (litB (Nat.ble 49 n) (litL n 49 K) (litL n 48 K))))) (litB (Nat.ble 40 n) (litB (Nat.ble 44 n) (litB (Nat.ble 46 n) (litB (Nat.ble 47 n) (litL n 47 K) (litL n 46 K)) (litB (Nat.ble 45 n) (litL n 45 K) (litL n 44 K))) (litB (Nat.ble 42 n) (litB (Nat.ble 43 n) (litL n 43 K) (litL n 42 K)) (litB (Nat.ble 41 n) (litL n 41 K) (litL n 40 K)))) (litB (Nat.ble 36 n) (litB (Nat.ble 38 n) (litB (Nat.ble 39 n) (litL n 39 K) (litL n 38 K)) (litB (Nat.ble 37 n) (litL n 37 K) (litL n 36 K))) (litB (Nat.ble 34 n) (litB (Nat.ble 35 n) (litL n 35 K) (litL n 34 K)) (litB (Nat.ble 33 n) (litL n 33 K) (litL n 32 K)))))) (litB (Nat.ble 16 n) (litB (Nat.ble 24 n) (litB (Nat.ble 28 n) (litB (Nat.ble 30 n) (litB (Nat.ble 31 n) (litL n 31 K) (litL n 30 K)) (litB (Nat.ble 29 n) (litL n 29 K) (litL n 28 K))) (litB (Nat.ble 26 n) (litB (Nat.ble 27 n) (litL n 27 K) (litL n 26 K)) (litB (Nat.ble 25 n) (litL n 25 K) (litL n 24 K)))) (litB (Nat.ble 20 n) (litB (Nat.ble 22 n) (litB (Nat.ble 23 n) (litL n 23 K) (litL n 22 K)) (litB (Nat.ble 21 n) (litL n 21 K) (litL n 20 K))) (litB (Nat.ble 18 n) (litB (Nat.ble 19 n) (litL n 19 K) (litL n 18 K)) (litB (Nat.ble 17 n) (litL n 17 K) (litL n 16 K))))) (litB (Nat.ble 8 n) (litB (Nat.ble 12 n) (litB (Nat.ble 14 n) (litB (Nat.ble 15 n) (litL n 15 K) (litL n 14 K)) (litB (Nat.ble 13 n) (litL n 13 K) (litL n 12 K))) (litB (Nat.ble 10 n) (litB (Nat.ble 11 n) (litL n 11 K) (litL n 10 K)) (litB (Nat.ble 9 n) (litL n 9 K) (litL n 8 K)))) (litB (Nat.ble 4 n) (litB (Nat.ble 6 n) (litB (Nat.ble 7 n) (litL n 7 K) (litL n 6 K)) (litB (Nat.ble 5 n) (litL n 5 K) (litL n 4 K))) (litB (Nat.ble 2 n) (litB (Nat.ble 3 n) (litL n 3 K) (litL n 2 K)) (litB (Nat.ble 1 n) (litL n 1 K) (litL n 0 K)))))))
theorem forceLit_eq (n : Nat) (K : Nat → Prop) : forceLit n K = K n := by
 unfold forceLit
 repeat' (first | exact litL_eq _ _ _ | apply litB_eq)
def nameOf (st : AS) (K : Nat → Prop) : Prop := match st with | ⟨_,_,_,b⟩ => forceLit b K
theorem nameOf_eq (st : AS) (K : Nat → Prop) : nameOf st K = K st.base := by cases st; exact forceLit_eq _ _
def aslice (L : Lay) (st : AS) (t : TypeId) (x : AV) (lo hi mx : Option AV) (K : AV → AS → Prop) : Prop :=
 match mx,layGet L t with
 | none,some ti => match ti.kind,x with
   | .slice e, .sl s n sc f => (match layGet L e with | some ei => bif Nat.beq s ei.size then acut s n sc f lo hi (fun y => K y st) else False | none => False)
   | .slice e, .v (.slice none 0 0) => (match layGet L e with | some _ => abnd 0 lo hi (fun _ _ => K (.v (.slice none 0 0)) st) | none => False)
   | .slice e, .own id => (match findObj id st.heap with | some (.row e' s n sc f) => (match layGet L e with | some ei => bif Nat.beq s ei.size then ASl (acut s n sc f lo hi (fun y => K y (st.freeze id s n sc f))) (abnd n lo hi (fun l h => K (.osl id s l (h - l)) st)) (abnd n lo hi (fun l h => bif Nat.beq l 0 then nameOf st (fun d => K (.own d) (st.obj d id (.row e' s h sc f))) else False)) else False | none => False) | _ => False)
   | .str, .v (.string b) => acutS b lo hi (fun y => K y st)
   | .array m e, .box id k => ASl (match lo,hi,k,findObj id st.heap,layGet L e with
     | none,none,0,some (.box _ cs),some ei => bif Nat.ble 1 ei.size && Nat.beq cs.length (m * ei.size) && Nat.ble m 65536 && cs.all pureB then K (.sl ei.size m (cs.all isV) (chunk ei.size cs)) (st.freezeBox id) else False
     | _,_,_,_,_ => False) (match lo,hi,layGet L e with | none,none,some _ => K (.osl id 1 k m) st | _,_,_ => False) False
   | _,_ => False
 | _,_ => False
def srcOf (L : Lay) (st : AS) (s : Nat) (t : TypeId) (x : AV) : Option (Nat × Bool × (Nat → List AV)) :=
 match layGet L t with
 | some ti => match ti.kind,x with
   | .slice _, .sl s' n sc f => bif Nat.beq s s' then some (n,sc,f) else none
   | .slice _, .own id => match findObj id st.heap with | some (.row _ s' n sc f) => bif Nat.beq s s' then some (n,sc,f) else none | _ => none
   | .slice _, .v (.slice none 0 _) => some (0,true,fun _ => [])
   | .str, .v (.string b) => bif Nat.beq s 1 then some (b.size,true,fun i => [.v (.int .u8 ((b.data.toList.getD i 0).toNat : Int))]) else none
   | _,_ => none
 | none => none
def appF (n : Nat) (f g : Nat → List AV) : Nat → List AV := fun i => bif Nat.ble n i then g (i - n) else f i
def aappN (L : Lay) (d : Nat) (st : AS) (e : TypeId) (ei : TI) (tx : TypeId) (x y : AV) (K : AV → AS → Prop) : Prop :=
 match layGet L tx,y with
 | some ti, .own j => match ti.kind,findObj j st.heap with
   | .slice _,some (.rn _ ds) => bif Nat.beq ei.size 1 && Nat.ble ei.bytes 1024 && Nat.ble ds.length 1024 then
      (match x with
      | .v (.slice none 0 0) => K (.own d) (st.obj d d (.rn e ds))
      | .own id => match findObj id st.heap with
        | some (.rn e' cs) => bif Nat.beq e e' && Nat.ble cs.length 1024 then K (.own d) (st.obj d id (.rn e (cs ++ ds))) else False
        | _ => False
      | _ => False)
     else False
   | _,_ => False
 | _,_ => False
def aappend (L : Lay) (d : Nat) (st : AS) (t tx : TypeId) (x y : AV) (K : AV → AS → Prop) : Prop :=
 match layGet L t with
 | some ti => match ti.kind with
   | .slice e => match layGet L e with
     | some ei =>
       bif Nat.ble 1 ei.size && Nat.beq ei.zero.length ei.size then
        (match srcOf L st ei.size tx y with
        | some (m,sc',g) => match x with
          | .v (.slice none 0 0) => Req (m * ei.bytes ≤ 140737488355328 ∧ m ≤ 140737488355328) (K (.own d) (st.obj d d (.row e ei.size m sc' g)))
          | .own id => match findObj id st.heap with
            | some (.row e' s n sc f) => bif Nat.beq e e' && Nat.beq s ei.size then Req ((n + m) * ei.bytes ≤ 140737488355328 ∧ n + m ≤ 140737488355328) (K (.own d) (st.obj d id (.row e s (n + m) (sc && sc') (appF n f g)))) else False
            | _ => False
          | _ => False
        | none => aappN L d st e ei tx x y K)
       else False
     | none => False
   | _ => False
 | none => False
inductive AMk (b : Nat) (l c : Int) (K : Nat → Prop) : Prop where
  | none : l = 0 → 0 ≤ c → c * b ≤ 140737488355328 → c ≤ 140737488355328 → K 0 → AMk b l c K
  | full : 0 ≤ l → l = c → c * b ≤ 140737488355328 → c ≤ 140737488355328 → K l.toNat → AMk b l c K
def amake (L : Lay) (d : Nat) (st : AS) (t : TypeId) (l c : AV) (K : AV → AS → Prop) : Prop :=
 match layGet L t,l,c with
 | some ti, .v (.int _ l), .v (.int _ c) => match ti.kind with
   | .slice e => match layGet L e with
     | some ei => bif (Nat.ble 1 ei.size && Nat.beq ei.zero.length ei.size) && ei.zero.all (fun x => x.oneCell') then AMk ei.bytes l c (fun n => K (.own d) (st.obj d d (.row e ei.size n true (fun _ => ei.zero.map .v)))) else False
     | none => False
   | _ => False
 | _,_,_ => False
def atoArr (L : Lay) (t : TypeId) (x : AV) (K : AV → Prop) : Prop :=
 match layGet L t,x with
 | some ti, .sl s n _ f => match ti.kind with
   | .array m e => match layGet L e with
     | some ei => bif Nat.beq s ei.size && Nat.ble 1 m then Req (m ≤ n) (K (.el (flat m f) 0)) else False
     | none => False
   | _ => False
 | _,_ => False
def alen (L : Lay) (st : AS) (t : TypeId) (x : AV) (K : AV → Prop) : Prop :=
 match layGet L t with
 | none => False
 | some i => match i.kind,x with
 | .str, .v (.string b) => K (.v (.int .i64 (b.size : Int)))
 | .slice _, .v (.slice _ n _) => K (.v (.int .i64 (n : Int)))
 | .slice _, .sl _ n _ _ => K (.v (.int .i64 (n : Int)))
 | .slice _, .own id => (match findObj id st.heap with | some (.row _ _ n _ _) => K (.v (.int .i64 (n : Int))) | some (.rn _ cs) => K (.v (.int .i64 (cs.length : Int))) | _ => False)
 | .slice _, .osl _ _ _ m => K (.v (.int .i64 (m : Int)))
 | .array m _,_ => K (.v (.int .i64 (m : Int)))
 | _,_ => False
def see0 (h : List (Nat × AO)) : AV → AV
  | .own id => match findObj id h with | some (.row _ s n sc f) => .sl s n sc f | _ => .junk
  | .v x => .v x
  | .sl s n sc f => .sl s n sc f
  | _ => .junk
def see1 (h : List (Nat × AO)) : AV → AV
  | .agg cs => .agg (cs.map (see0 h))
  | x => see0 h x
inductive Sub0 (h : List (Nat × AO)) : AV → AV → Prop where
  | eq (a : AV) : Sub0 h a (see0 h a)
  | nil (s : Nat) (sc : Bool) (f : Nat → List AV) : 0 < s → Sub0 h (.v (.slice none 0 0)) (.sl s 0 sc f)
inductive Sub1 (h : List (Nat × AO)) : AV → AV → Prop where
  | eq (a : AV) : Sub1 h a (see1 h a)
  | nil (s : Nat) (sc : Bool) (f : Nat → List AV) : 0 < s → Sub1 h (.v (.slice none 0 0)) (.sl s 0 sc f)
  | agg (cs ds : List AV) : cs.length = ds.length → (∀ (i : Nat) (x y : AV),cs[i]? = some x → ds[i]? = some y → Sub0 h x y) → Sub1 h (.agg cs) (.agg ds)
def SubL (h : List (Nat × AO)) (xs ys : List AV) : Prop := xs.length = ys.length ∧ ∀ (i : Nat) (x y : AV),xs[i]? = some x → ys[i]? = some y → Sub1 h x y
theorem SubL.nil {h : List (Nat × AO)} : SubL h [] [] := ⟨rfl,fun i x y hx => by simp at hx⟩
theorem SubL.cons {h : List (Nat × AO)} {x y : AV} {xs ys : List AV} (h0 : Sub1 h x y) (hr : SubL h xs ys) : SubL h (x :: xs) (y :: ys) := by
 refine ⟨by simpa using hr.1,fun i a b ha hb => ?_⟩
 cases i with
 | zero => simp at ha hb; subst ha hb; exact h0
 | succ i => exact hr.2 i a b (by simpa using ha) (by simpa using hb)
def nodupL : List Nat → Bool
  | [] => true
  | x :: l => !(l.any (Nat.beq x)) && nodupL l
theorem nodupL_of : ∀ {l : List Nat},nodupL l = true → l.Nodup
  | [],_ => List.nodup_nil
  | x :: l,h => by
    simp only [nodupL,Bool.and_eq_true,Bool.not_eq_true'] at h
    refine List.nodup_cons.2 ⟨fun hx => ?_,nodupL_of h.2⟩
    have := List.any_eq_false.1 h.1 x hx
    simp at this
def Enters (P : Program) (f : FuncId) : Prop := ∃ fn c,P.funcs[f]? = some fn ∧ (fn.name == "runtime.NumGoroutine") = false ∧ fn.body = some c
def ASpec (P : Program) (f : FuncId) (avs : List AV) (r : AV) (h : List (Nat × AO)) : Prop :=
 Enters P f ∧ ∀ (w : World) (keep : Nat → Prop) (args : List Value),(∀ b,keep b → b < w.heap.size) → All2 (C1 ⟨w,keep,fun _ => undef⟩) avs args →
  Calls P f args.toArray w fun e w' => ∃ u ρ,e = .returned u ∧ Below w.heap.size w w' ∧ C2 (cxOf (base0 w keep) w' ρ h) r u ∧ (∀ p ∈ h,ObjOk (cxOf (base0 w keep) w' ρ h) p.1 p.2) ∧ (blocksOf ρ h).Nodup ∧ ∀ b ∈ blocksOf ρ h,w.heap.size ≤ b
def MSpec (P : Program) (f : FuncId) (hin : List (Nat × AO)) (avs : List AV) (r : AV) (hout : List (Nat × AO)) : Prop :=
 Enters P f ∧ ∀ (w : World) (keep : Nat → Prop) (ρ : Nat → Value) (args : List Value),(∀ b,keep b → b < w.heap.size) → (∀ p ∈ hin,ObjOk ⟨w,keep,ρ⟩ p.1 p.2) → (blocksOf ρ hin).Nodup → (∀ b ∈ blocksOf ρ hin,b < w.heap.size ∧ ¬ keep b) → All2 (C1 ⟨w,keep,ρ⟩) avs args →
  Calls P f args.toArray w fun e w' => ∃ u ρ',e = .returned u ∧ BelowM (fun b => b ∈ blocksOf ρ hin) w.heap.size w w' ∧ (∀ p ∈ hin,∀ q ∈ hout,q.1 = p.1 → HdEq (ρ' p.1) (ρ p.1)) ∧
   C2 (cxOf (baseM w keep (fun b => b ∈ blocksOf ρ hin)) w' ρ' hout) r u ∧ (∀ p ∈ hout,ObjOk (cxOf (baseM w keep (fun b => b ∈ blocksOf ρ hin)) w' ρ' hout) p.1 p.2) ∧ (blocksOf ρ' hout).Nodup ∧ ∀ b ∈ blocksOf ρ' hout,w.heap.size ≤ b ∨ b ∈ blocksOf ρ hin
def hasN (i : Nat) : List (Nat × AO) → Bool
  | [] => false
  | (k,_) :: l => Nat.beq k i || hasN i l
def ref0 (h : List (Nat × AO)) : AV → Bool
  | .own i => hasN i h
  | .eown i .. => hasN i h
  | .osl i .. => hasN i h
  | .box i _ => hasN i h
  | .cf _ i _ => hasN i h
  | _ => true
def ref1 (h : List (Nat × AO)) : AV → Bool
  | .agg cs => cs.all (ref0 h)
  | .fn _ cs => cs.all (ref0 h)
  | x => ref0 h x
def ref2 (h : List (Nat × AO)) : AV → Bool
  | .tup vs => vs.all (ref1 h)
  | x => ref1 h x
def refsO (h : List (Nat × AO)) : AO → Bool
  | .box _ cs => cs.all (ref0 h)
  | .row .. => true
  | .mp _ ks _ => ks.all fun p => match p.2 with | some i => hasN i h | none => true
  | .obs _ => true
  | .rn _ cs => cs.all (ref0 h)
def closedH (h : List (Nat × AO)) : List (Nat × AO) → Bool
  | [] => true
  | (_,o) :: l => refsO h o && closedH h l
def namesIn (d : Nat) (hin : List (Nat × AO)) : List (Nat × AO) → Bool
  | [] => true
  | (k,_) :: l => (hasN k hin || Nat.beq k d) && namesIn d hin l
def noTup : AV → Bool
  | .tup _ => false
  | _ => true
def restN (d : Nat) (hin : List (Nat × AO)) : List (Nat × AO) → List (Nat × AO)
  | [] => []
  | (k,o) :: l => bif Nat.beq k d || hasN k hin then restN d hin l else (k,o) :: restN d hin l
def AS.chg (st : AS) (d : Nat) (hin hout : List (Nat × AO)) : AS := ⟨mapS (scrub2 d) st.sl,hout ++ scrubH d (restN d hin st.heap),st.back.map (mapS (scrub2 d)),Nat.add d 1⟩
def HasH (st : AS) : List (Nat × AO) → Prop
  | [] => True
  | (k,o) :: l => findObj k st.heap = some o ∧ HasH st l
def ok0 (d : Option Nat) : AV → Bool
  | .v _ => true
  | .sl .. => true
  | .own i => (match d with | some j => Nat.beq i j | none => false)
  | _ => false
def ok1 (d : Option Nat) : AV → Bool
  | .agg cs => cs.all (ok0 d)
  | x => ok0 d x
def ok2 (d : Option Nat) : AV → Bool
  | .tup vs => vs.all (ok1 d)
  | x => ok1 d x
def noSl0 : AV → Bool
  | .sl .. => false
  | _ => true
def noSl1 : AV → Bool
  | .agg cs => cs.all noSl0
  | x => noSl0 x
def noSl2 : AV → Bool
  | .tup vs => vs.all noSl1
  | x => noSl1 x
def frz0 (st : AS) : AV → AS
  | .own id => match findObj id st.heap with | some (.row _ s n sc f) => st.freeze id s n sc f | _ => st
  | _ => st
def frz (st : AS) : AV → AS
  | .agg cs => cs.foldl frz0 st
  | x => frz0 st x
def frzL (st : AS) (l : List AV) : AS := l.foldl frz st
inductive AExit where
  | normal | exit (id : Nat) | ret
abbrev Walk := Nat → Nat → Code → (AExit → AS → Prop) → AS → Prop
def hd0 (x : AV) (K : AV → Prop) : Prop :=
 match x with
 | .v y => K (.v y)
 | .agg cs => K (.agg cs)
 | .tup vs => K (.tup vs)
 | .sl s n sc f => K (.sl s n sc f)
 | .own i => K (.own i)
 | .eown i s j k => K (.eown i s j k)
 | .osl i s j k => K (.osl i s j k)
 | .box i k => K (.box i k)
 | .cf g i k => K (.cf g i k)
 | .el cs k => K (.el cs k)
 | .fn g cs => K (.fn g cs)
 | .junk => K .junk
def hdL0 : List AV → (List AV → Prop) → Prop
  | [],K => K []
  | x :: l,K => hd0 x (fun x => hdL0 l (fun r => K (x :: r)))
def hd1 (x : AV) (K : AV → Prop) : Prop :=
 match x with
 | .v y => K (.v y)
 | .agg cs => hdL0 cs (fun cs => K (.agg cs))
 | .tup vs => K (.tup vs)
 | .sl s n sc f => K (.sl s n sc f)
 | .own i => K (.own i)
 | .eown i s j k => K (.eown i s j k)
 | .osl i s j k => K (.osl i s j k)
 | .box i k => K (.box i k)
 | .cf g i k => K (.cf g i k)
 | .el cs k => hdL0 cs (fun cs => K (.el cs k))
 | .fn g cs => hdL0 cs (fun cs => K (.fn g cs))
 | .junk => K .junk
def hdL1 : List AV → (List AV → Prop) → Prop
  | [],K => K []
  | x :: l,K => hd1 x (fun x => hdL1 l (fun r => K (x :: r)))
def hd2 (x : AV) (K : AV → Prop) : Prop :=
 match x with
 | .v y => K (.v y)
 | .agg cs => hdL0 cs (fun cs => K (.agg cs))
 | .tup vs => hdL1 vs (fun vs => K (.tup vs))
 | .sl s n sc f => K (.sl s n sc f)
 | .own i => K (.own i)
 | .eown i s j k => K (.eown i s j k)
 | .osl i s j k => K (.osl i s j k)
 | .box i k => K (.box i k)
 | .cf g i k => K (.cf g i k)
 | .el cs k => hdL0 cs (fun cs => K (.el cs k))
 | .fn g cs => hdL0 cs (fun cs => K (.fn g cs))
 | .junk => K .junk
theorem hd0_eq (x : AV) (K : AV → Prop) : hd0 x K = K x := by cases x <;> rfl
theorem hdL0_eq : ∀ (l : List AV) (K : List AV → Prop),hdL0 l K = K l
  | [],_ => rfl
  | x :: l,K => by simp only [hdL0,hd0_eq,hdL0_eq l]
theorem hd1_eq (x : AV) (K : AV → Prop) : hd1 x K = K x := by cases x <;> first | rfl | exact hdL0_eq _ _
theorem hdL1_eq : ∀ (l : List AV) (K : List AV → Prop),hdL1 l K = K l
  | [],_ => rfl
  | x :: l,K => by simp only [hdL1,hd1_eq,hdL1_eq l]
theorem hd2_eq (x : AV) (K : AV → Prop) : hd2 x K = K x := by cases x <;> first | rfl | exact hdL0_eq _ _ | exact hdL1_eq _ _
def bitB (lv k : Nat) : Bool := Nat.beq (Nat.land (Nat.shiftRight lv k) 1) 1
def filt (lv : Nat) : List (Nat × AV) → List (Nat × AV)
  | [] => []
  | (k,v) :: l => bif bitB lv k then (k,v) :: filt lv l else filt lv l
def nrmS (lv : Nat) : List (Nat × AV) → (List (Nat × AV) → Prop) → Prop
  | [],K => K []
  | (k,v) :: l,K => bif bitB lv k then hd2 v (fun v => nrmS lv l (fun r => K ((k,v) :: r))) else nrmS lv l K
def nrmT : List (Nat × AV) → (List (Nat × AV) → Prop) → Prop
  | [],K => K []
  | (k,v) :: l,K => hd2 v (fun v => nrmT l (fun r => K ((k,v) :: r)))
def nrmK : List (ByteArray × Option Nat) → (List (ByteArray × Option Nat) → Prop) → Prop
  | [],K => K []
  | (k,some i) :: l,K => nrmK l (fun r => K ((k,some i) :: r))
  | (k,none) :: l,K => nrmK l (fun r => K ((k,none) :: r))
theorem nrmK_eq : ∀ (l : List (ByteArray × Option Nat)) (K : List (ByteArray × Option Nat) → Prop),nrmK l K = K l
  | [],_ => rfl
  | (k,some i) :: l,K => by simp only [nrmK,nrmK_eq l]
  | (k,none) :: l,K => by simp only [nrmK,nrmK_eq l]
def nrmH : List (Nat × AO) → (List (Nat × AO) → Prop) → Prop
  | [],K => K []
  | (i, .box t cs) :: l,K => hdL0 cs (fun cs => nrmH l (fun r => K ((i, .box t cs) :: r)))
  | (i, .row e s n sc f) :: l,K => match sc with
    | true => nrmH l (fun r => K ((i, .row e s n true f) :: r))
    | false => nrmH l (fun r => K ((i, .row e s n false f) :: r))
  | (i, .mp t ks rs) :: l,K => nrmK ks (fun ks => nrmH l (fun r => K ((i, .mp t ks rs) :: r)))
  | (i, .obs o) :: l,K => nrmH l (fun r => K ((i, .obs o) :: r))
  | (i, .rn e cs) :: l,K => hdL0 cs (fun cs => nrmH l (fun r => K ((i, .rn e cs) :: r)))
def nrmBk : List (List (Nat × AV)) → (List (List (Nat × AV)) → Prop) → Prop
  | [],K => K []
  | f :: fs,K => nrmT f (fun f => nrmBk fs (fun r => K (f :: r)))
def AS.keepSl (st : AS) (lv : Nat) : AS := ⟨filt lv st.sl,st.heap,st.back,st.base⟩
def nrm (lv : Nat) (st : AS) (K : AS → Prop) : Prop := match st with | ⟨sl,hp,bk,b⟩ => nrmS lv sl (fun l => nrmH hp (fun h => nrmBk bk (fun bk => K ⟨l,h,bk,b⟩)))
def nrmA (st : AS) (K : AS → Prop) : Prop := match st with | ⟨sl,hp,bk,b⟩ => nrmT sl (fun l => nrmH hp (fun h => K ⟨l,h,bk,b⟩))
theorem nrmS_eq (lv : Nat) : ∀ (l : List (Nat × AV)) (K : List (Nat × AV) → Prop),nrmS lv l K = K (filt lv l)
  | [],_ => rfl
  | (k,v) :: l,K => by
    simp only [nrmS,filt]
    cases bitB lv k with
    | true => simp only [cond_true,hd2_eq,nrmS_eq lv l]
    | false => simp only [cond_false,nrmS_eq lv l]
theorem nrmT_eq : ∀ (l : List (Nat × AV)) (K : List (Nat × AV) → Prop),nrmT l K = K l
  | [],_ => rfl
  | (k,v) :: l,K => by simp only [nrmT,hd2_eq,nrmT_eq l]
theorem nrmH_eq : ∀ (l : List (Nat × AO)) (K : List (Nat × AO) → Prop),nrmH l K = K l
  | [],_ => rfl
  | (i, .box t cs) :: l,K => by simp only [nrmH,hdL0_eq,nrmH_eq l]
  | (i, .row e s n true f) :: l,K => by simp only [nrmH,nrmH_eq l]
  | (i, .row e s n false f) :: l,K => by simp only [nrmH,nrmH_eq l]
  | (i, .mp t ks rs) :: l,K => by simp only [nrmH,nrmK_eq,nrmH_eq l]
  | (i, .obs o) :: l,K => by simp only [nrmH,nrmH_eq l]
  | (i, .rn e cs) :: l,K => by simp only [nrmH,hdL0_eq,nrmH_eq l]
theorem nrmBk_eq : ∀ (l : List (List (Nat × AV))) (K : List (List (Nat × AV)) → Prop),nrmBk l K = K l
  | [],_ => rfl
  | f :: fs,K => by simp only [nrmBk,nrmT_eq,nrmBk_eq fs]
theorem nrm_eq (lv : Nat) (st : AS) (K : AS → Prop) : nrm lv st K = K (st.keepSl lv) := by cases st; simp only [nrm,nrmS_eq,nrmH_eq,nrmBk_eq]; rfl
theorem nrmA_eq (st : AS) (K : AS → Prop) : nrmA st K = K st := by cases st; simp only [nrmA,nrmT_eq,nrmH_eq]
def aresV (L : Lay) (st : AS) : ResultVar → (AV → Prop) → Prop
  | .tmp t,K => K (st.tmps t)
  | .cell p t,K => aload L st t (st.tmps p) K
def aresL (L : Lay) (st : AS) : List ResultVar → (List AV → Prop) → Prop
  | [],K => K []
  | r :: rs,K => aresV L st r (fun x => aresL L st rs (fun xs => K (x :: xs)))
def untup : AV → AV
  | .tup _ => .junk
  | x => x
def ares (L : Lay) (st : AS) (rs : List ResultVar) (K : AV → Prop) : Prop :=
 aresL L st rs (fun xs => match xs with | [x] => K x | xs => K (.tup (xs.map untup)))
def enumA : Nat → List AV → List (Nat × AV)
  | _,[] => []
  | k,x :: l => (k,x) :: enumA (k + 1) l
def start (avs : List AV) : AS := ⟨enumA 0 avs,[],[],0⟩
def AS.into (st : AS) (avs : List AV) : AS := ⟨enumA 0 avs,st.heap,st.sl :: st.back,st.base⟩
def intoK (st : AS) (avs : List AV) (K : AS → Prop) : Prop := match st with | ⟨sl,h,bk,b⟩ => K ⟨enumA 0 avs,h,sl :: bk,b⟩
theorem intoK_eq (st : AS) (avs : List AV) (K : AS → Prop) : intoK st avs K = K (st.into avs) := by
 obtain ⟨sl,h,bk,b⟩ := st
 rfl
def AS.out (st : AS) : AS := match st.back with | f :: r => ⟨f,st.heap,r,st.base⟩ | [] => st
inductive ACall (P : Program) (L : Lay) (W : Walk) (d : Nat) (f : FuncId) (avs : List AV) (st : AS) (K : AV → AS → Prop) : Prop where
  | inl (lv : Nat) (fn : Func) (c : Code) (hf : P.funcs[f]? = some fn) (hn : (fn.name == "runtime.NumGoroutine") = false) (hb : fn.body = some c) (hsz : Nat.ble avs.length fn.ntmps = true)
     (h : intoK st avs (W fn.ntmps lv c (fun e st' => match e with | .exit _ => False | .normal => ares L st' fn.results.toList (fun x => nrmA (st'.out) (K x)) | .ret => ares L st' fn.results.toList (fun x => nrmA (st'.out) (K x))))) : ACall P L W d f avs st K
  | chg (hin hout : List (Nat × AO)) (r : AV) (hs : MSpec P f hin avs r hout) (hh : HasH st hin) (hb : (nodupL (hin.map (·.1)) && avs.all noTup && closedH hout hout && ref2 hout r && namesIn d hin hout) = true) : K r (st.chg d hin hout) → ACall P L W d f avs st K
  | plain (bs : List AV) (r : AV) (hs : ASpec P f bs r []) (hsub : SubL st.heap avs bs) (hr : ok2 none r = true) : K r (bif noSl2 r then st else frzL st avs) → ACall P L W d f avs st K
  | fresh (bs : List AV) (r : AV) (e : TypeId) (s n : Nat) (sc : Bool) (g : Nat → List AV) (hs : ASpec P f bs r [(d, .row e s n sc g)]) (hsub : SubL st.heap avs bs) (hr : ok2 (some d) r = true) :
     K r ((bif noSl2 r && sc then st else frzL st avs).obj d d (.row e s n sc g)) → ACall P L W d f avs st K
  | sem (hE : Enters P f) (h : ∀ (g : Base) (N : Nat) (bs : List (Array Value)) (ρ : Nat → Value) (a : Act) (w : World) (args : List Value),Rel g N bs ρ a w st → All2 (C2 (cxOf g w ρ st.heap)) avs args →
     Calls P f args.toArray w fun e w' => ∃ u x st' ρ',e = .returned u ∧ K x st' ∧ Rel g N bs ρ' a w' st' ∧ C2 (cxOf g w' ρ' st'.heap) x u) : ACall P L W d f avs st K
def noOwn0 : AV → Bool
  | .own _ => false
  | _ => true
def noOwn1 : AV → Bool
  | .agg cs => cs.all noOwn0
  | x => noOwn0 x
inductive MpAt (k : ByteArray) (ks : List (ByteArray × Option Nat)) (K : Nat → Nat → Prop) : Prop where
  | mk (i id : Nat) (k' : ByteArray) (h : ks[i]? = some (k',some id)) (hk : k = k') (hK : K i id) : MpAt k ks K
def adelete (L : Lay) (d : Nat) (st : AS) (t : TypeId) (m ix : AV) (K : AV → AS → Prop) : Prop :=
 match layGet L t,ix,m with
 | some ti, .v (.string k), .own id => (match ti.kind with
   | .map kt et => (match layGet L kt,layGet L et with
     | some ki,some ei => (match ki.kind,ei.kind with
       | .str, .slice e => (match layGet L e with
         | some ee => bif Nat.ble 1 ee.size then (match findObj id (st.obj d d (.row e ee.size 0 true (fun _ => []))).heap with
           | some (.mp t' ks rs) => MpAt k ks (fun i _ => K (.tup []) ⟨(st.obj d d (.row e ee.size 0 true (fun _ => []))).sl,setObj id (.mp t' (ks.set i (k,some d)) rs) (st.obj d d (.row e ee.size 0 true (fun _ => []))).heap,(st.obj d d (.row e ee.size 0 true (fun _ => []))).back,(st.obj d d (.row e ee.size 0 true (fun _ => []))).base⟩)
           | _ => False) else False
         | none => False)
       | _,_ => False)
     | _,_ => False)
   | _ => False)
 | _,_,_ => False
def amin (x y : AV) (K : AV → Prop) : Prop :=
 match x,y with
 | .v (.int k a), .v (.int _ b) => K (.v (.int k (if b < a then b else a)))
 | _,_ => False
def amax (x y : AV) (K : AV → Prop) : Prop :=
 match x,y with
 | .v (.int k a), .v (.int _ b) => K (.v (.int k (if b > a then b else a)))
 | _,_ => False
def ovr (lo k : Nat) (f g : Nat → List AV) : Nat → List AV := appF lo f (appF k g (fun i => f (lo + k + i)))
def asrc (L : Lay) (st : AS) (s : Nat) (t : TypeId) (y : AV) (K : Nat → Bool → (Nat → List AV) → Prop) : Prop :=
 match y with
 | .osl id s1 lo m => (match layGet L t with
   | some ti => (match ti.kind,findObj id st.heap with
     | .slice _,some (.row _ s' r sc f) => bif Nat.beq s s1 && Nat.beq s s' then Req (lo + m ≤ r) (K m sc (fun i => f (lo + i))) else False
     | _,_ => False)
   | none => False)
 | y => match srcOf L st s t y with | some (n,sc',g) => K n sc' g | none => False
def acopy (L : Lay) (st : AS) (t tx : TypeId) (x y : AV) (K : AV → AS → Prop) : Prop :=
 match layGet L t with
 | some ti => match ti.kind with
   | .slice e => match layGet L e with
     | some ei => bif Nat.ble 1 ei.size then asrc L st ei.size tx y (fun n sc' g => match x with
         | .own id => (match findObj id st.heap with
           | some (.row e' s m sc f) => bif Nat.beq s ei.size then Req (n ≤ m) (K (.v (.int .i64 (n : Int))) ⟨st.sl,setObj id (.row e' s m (sc && sc') (ovr 0 n f g)) st.heap,st.back,st.base⟩) else False
           | _ => False)
         | .osl id s lo m => (match findObj id st.heap with
           | some (.row e' s' r sc f) => bif Nat.beq s ei.size && Nat.beq s' s then Req (n ≤ m ∧ lo + m ≤ r) (K (.v (.int .i64 (n : Int))) ⟨st.sl,setObj id (.row e' s' r (sc && sc') (ovr lo n f g)) st.heap,st.back,st.base⟩) else False
           | some (.box t' cs) => bif Nat.beq s 1 && Nat.ble n m && Nat.ble (lo + n * ei.size) cs.length then K (.v (.int .i64 (n : Int))) ⟨st.sl,setObj id (.box t' (splice cs lo (flat n g))) st.heap,st.back,st.base⟩ else False
           | _ => False)
         | _ => False) else False
     | none => False
   | _ => False
 | none => False
def aclear (L : Lay) (st : AS) (t : TypeId) (x : AV) (K : AV → AS → Prop) : Prop :=
 match layGet L t with
 | some ti => match ti.kind,x with
   | .slice _, .v (.slice none _ _) => K (.v undef) st
   | .slice e, .osl id s lo m => (match layGet L e with
     | some ei => (match findObj id st.heap with
       | some (.row e' s' r sc f) => bif Nat.beq s ei.size && Nat.beq s' s && Nat.beq ei.zero.length ei.size && Nat.ble 1 ei.size && ei.zero.all (fun x => x.oneCell') then Req (lo + m ≤ r) (K (.v undef) ⟨st.sl,setObj id (.row e' s' r sc (ovr lo m f (fun _ => ei.zero.map .v))) st.heap,st.back,st.base⟩) else False
       | _ => False)
     | none => False)
   | _,_ => False
 | none => False
def abuiltin (L : Lay) (d : Nat) (st : AS) (b : Builtin) (ts : List TypeId) (xs : List AV) (K : AV → AS → Prop) : Prop :=
 match b,ts,xs with
 | .len,[t],[x] => alen L st t x (fun y => K y st)
 | .append,[t,tx],[x,y] => aappend L d st t tx x y K
 | .min,_,[x,y] => amin x y (fun z => K z st)
 | .max,_,[x,y] => amax x y (fun z => K z st)
 | .delete,[t,_],[x,y] => adelete L d st t x y K
 | .copy,[t,tx],[x,y] => acopy L st t tx x y K
 | .clear,[t],[x] => aclear L st t x K
 | _,_,_ => False
structure ZN (P : Program) (t : TypeId) (A : Prop) : Prop where
 mk ::
 z : ∀ w,(zeroValue t).run P w = .ok (.slice none 0 0) w
 k : A
def rowB (h : List (Nat × AO)) (i : Nat) : Bool := match findObj i h with | some (.row ..) => true | _ => false
def alookup (P : Program) (L : Lay) (st : AS) (t : TypeId) (x ix : AV) (K : AV → Prop) : Prop :=
 match layGet L t,ix with
 | some ti, .v (.string k) => (match ti.kind with
   | .map kt et => (match layGet L kt with
     | some ki => (match ki.kind,x with
       | .str, .own id => (match findObj id st.heap with
         | some (.mp _ ks _) => ZN P et (MpAt k ks (fun _ i => bif rowB st.heap i then K (.own i) else False))
         | _ => False)
       | .str, .v (.map none) => ZN P et (K (.v (.slice none 0 0)))
       | _,_ => False)
     | none => False)
   | _ => False)
 | _,_ => False
def amapUpdate (L : Lay) (st : AS) (t : TypeId) (m ix x : AV) (K : AS → Prop) : Prop :=
 match layGet L t,ix,m,x with
 | some ti, .v (.string k), .own id, .own j => (match ti.kind with
   | .map kt _ => (match layGet L kt with
     | some ki => (match ki.kind,findObj id st.heap,findObj j st.heap with
       | .str,some (.mp t' ks rs),some (.row _ _ n _ _) => Req (0 < n) (MpAt k ks (fun i _ => K ⟨st.sl,setObj id (.mp t' (ks.set i (k,some j)) rs) st.heap,st.back,st.base⟩))
       | _,_,_ => False)
     | none => False)
   | _ => False)
 | _,_,_,_ => False
inductive AMkK (K : List ByteArray → Prop) : Prop where
  | mk (keys : List ByteArray) (hn : keys.Nodup) (h : K keys) : AMkK K
def rowsK (e : TypeId) (s : Nat) : List ByteArray → AS → List (ByteArray × Option Nat) → (List (ByteArray × Option Nat) → AS → Prop) → Prop
  | [],st,acc,K => K acc st
  | k :: r,st,acc,K => nameOf st (fun d => rowsK e s r (st.obj d d (.row e s 0 true (fun _ => []))) (acc ++ [(k,some d)]) K)
def amakeMap (L : Lay) (st : AS) (t : TypeId) (K : AV → AS → Prop) : Prop :=
 match layGet L t with
 | some ti => (match ti.kind with
   | .map kt et => (match layGet L kt,layGet L et with
     | some ki,some ei => (match ki.kind,ei.kind with
       | .str, .slice e => (match layGet L e with
         | some ee => bif Nat.ble 1 ee.size then AMkK (fun keys => rowsK e ee.size keys st [] (fun ks st' => nameOf st' (fun d => K (.own d) (st'.obj d d (.mp t ks []))))) else False
         | none => False)
       | _,_ => False)
     | _,_ => False)
   | _ => False)
 | none => False
def strMapB (L : Lay) (t : TypeId) : Bool := match layGet L t with
  | some ti => (match ti.kind with
    | .map kt _ => (match layGet L kt with | some ki => (match ki.kind with | .str => true | _ => false) | none => false)
    | _ => false)
  | none => false
def quietB : Op → Bool
  | .move _ => true
  | .assign _ => true
  | .pick .. => true
  | .load .. => true
  | .fieldAddr .. => true
  | .field .. => true
  | .indexAddr .. => true
  | .index .. => true
  | .extract .. => true
  | .build .. => true
  | .binOp .. => true
  | .unOp .. => true
  | .convert .. => true
  | .nilCheck _ => true
  | .sliceToArrayPointer .. => true
  | .lookup _ _ _ false => true
  | .call { callee := .builtin .len, .. } => true
  | .call { callee := .builtin .min, .. } => true
  | .call { callee := .builtin .max, .. } => true
  | _ => false
def obsB (st : AS) : AV → Bool
  | .v (.map none) => true
  | .own id => (match findObj id st.heap with | some (.obs _) => true | _ => false)
  | .box id _ => (match findObj id st.heap with | some (.obs _) => true | _ => false)
  | _ => false
def semB (st : AS) : Op → Bool
  | .load _ p => obsB st (st.ev p)
  | .store _ p _ => obsB st (st.ev p)
  | .indexAddr _ x _ => obsB st (st.ev x)
  | .lookup _ x _ _ => obsB st (st.ev x)
  | .mapUpdate _ m _ _ => obsB st (st.ev m)
  | .call c => (match c.callee with | .builtin _ => (match c.args.toList with | x :: _ => obsB st (st.ev x) | [] => false) | _ => false)
  | _ => false
inductive ASem (P : Program) (st : AS) (op : Op) (K : AV → AS → Prop) : Prop where
  | q (x : AV) (hK : K x st) (h : ∀ (g : Base) (N : Nat) (bs : List (Array Value)) (ρ : Nat → Value) (a : Act) (w : World) (o : Oper),o.op = op → Rel g N bs ρ a w st → ∃ u,C2 (cxOf g w ρ st.heap) x u ∧ (execOp a.eval o).run P w = .ok (.value u) w)
  | mk (hq : quietB op = false) (h : ∀ (g : Base) (N : Nat) (bs : List (Array Value)) (ρ : Nat → Value) (a : Act) (w : World) (o : Oper) (next : Act → World → Prop) (Q : Exit → Act → World → Prop),o.op = op → Rel g N bs ρ a w st →
     (∀ x st' u ρ' w',K x st' → Rel g N bs ρ' a w' st' → C2 (cxOf g w' ρ' st'.heap) x u → next (a.put o.dst u) w') → o.wp P a w next Q)
def aop (P : Program) (L : Lay) (W : Walk) (_d : Nat) (st : AS) (op : Op) (K : AV → AS → Prop) : Prop :=
 bif semB st op then ASem P st op K else
 match op with
 | .move x => K (st.ev x) st
 | .assign x => K (st.ev x) st
 | .pick c a b => match st.ev c with | .v (.bool t) => K (match t with | true => st.ev a | false => st.ev b) st | _ => False
 | .alloc t => match layGet L t with | some i => nameOf st (fun d => K (.box d 0) (st.obj d d (.box t (i.zero.map .v)))) | none => False
 | .box t x => match (st.ev x).cells? with | some cs => bif cs.all (oneB st.heap) then nameOf st (fun d => K (.box d 0) (st.obj d d (.box t cs))) else False | none => False
 | .load t p => aload L st t (st.ev p) (fun y => K y st)
 | .store t p x => astore L st t (st.ev p) (st.ev x) (fun st' => K (.v undef) st')
 | .fieldAddr t x i => afieldAddr L t (st.ev x) i (fun y => K y st)
 | .field t x i => afield L t (st.ev x) i (fun y => K y st)
 | .indexAddr t x i => aindexAddr L st t (st.ev x) (st.ev i) (fun y => K y st)
 | .index t x i => aindex L t (st.ev x) (st.ev i) (fun y => K y st)
 | .extract x i => aextract (st.ev x) i (fun y => K y st)
 | .build t parts => abuild L st.heap t (parts.toList.map fun p => (p.1,st.ev p.2)) (fun y => K y st)
 | .buildSlice t n parts => nameOf st (fun d => bif (parts.toList.map fun p => st.ev p.2).all noOwn1 then abuildSlice L d st t n (parts.toList.map fun p => (p.1,st.ev p.2)) K else nrmA (frzL st (parts.toList.map fun p => st.ev p.2)) (fun st' => abuildSlice L d st' t n (parts.toList.map fun p => (p.1,st'.ev p.2)) K))
 | .binOp o t x y _ => abin P L o t (st.ev x) (st.ev y) (fun z => K z st)
 | .unOp o _ x => aun o (st.ev x) (fun z => K z st)
 | .convert s t x => aconvert L st s t (st.ev x) (fun z => K z st)
 | .slice t x lo hi mx => aslice L st t (st.ev x) (lo.map st.ev) (hi.map st.ev) (mx.map st.ev) K
 | .nilCheck x => match (st.ev x).refn with | .box i k => K (.box i k) st | .fn g cs => K (.fn g cs) st | _ => False
 | .makeFunc (.func g) first caps => match first.toList with
   | [] => bif (caps.toList.map st.ev).all (oneB st.heap) then K (.fn g (caps.toList.map st.ev)) st else False
   | x :: r => match st.ev x with | .box id off => bif Nat.blt g million && r.isEmpty && caps.toList.isEmpty then K (.cf (Nat.add g million) id off) st else False | _ => False
 | .call c => match c.callee with
   | .builtin b => nameOf st (fun d => abuiltin L d st b c.argTypes.toList (c.args.toList.map st.ev) K)
   | .value x => match (st.ev x).refn with
     | .fn g caps => nameOf st (fun d => ACall P L W d g (c.args.toList.map st.ev ++ caps) st K)
     | .cf g id off => bif Nat.blt g million then False else nameOf st (fun d => ACall P L W d (Nat.sub g million) (.box id off :: c.args.toList.map st.ev) st K)
     | _ => False
   | _ => False
 | .makeSlice t l c => nameOf st (fun d => amake L d st t (st.ev l) (st.ev c) K)
 | .sliceToArrayPointer t x => atoArr L t (st.ev x) (fun y => K y st)
 | .lookup t x i false => alookup P L st t (st.ev x) (st.ev i) (fun y => K y st)
 | .mapUpdate t m i x => amapUpdate L st t (st.ev m) (st.ev i) (st.ev x) (fun st' => K (.v undef) st')
 | .makeMap t none => bif strMapB L t then amakeMap L st t K else ASem P st (.makeMap t none) K
 | _ => ASem P st op K
def BSpl (b : Bool) (A B : Prop) : Prop := match b with | true => A | false => B
theorem BSpl.mk {b : Bool} {A B : Prop} (h1 : b = true → A) (h2 : b = false → B) : BSpl b A B := by cases b; exact h2 rfl; exact h1 rfl
theorem BSpl.dec {p : Prop} [Decidable p] {A B : Prop} (h1 : p → A) (h2 : ¬ p → B) : BSpl (decide p) A B := by
 by_cases h : p
 · rw [decide_eq_true h]; exact h1 h
 · rw [decide_eq_false h]; exact h2 h
theorem BSpl.yes {b : Bool} {A B : Prop} (h : b = true) (a : A) : BSpl b A B := by rw [h]; exact a
theorem BSpl.no {b : Bool} {A B : Prop} (h : b = false) (a : B) : BSpl b A B := by rw [h]; exact a
def force (x : AV) (K : AV → Prop) : Prop :=
 match x with
 | .v (.bool b) => BSpl b (K (.v (.bool true))) (K (.v (.bool false)))
 | .v y => K (.v y)
 | .agg cs => K (.agg cs)
 | .tup vs => K (.tup vs)
 | .sl s n sc f => K (.sl s n sc f)
 | .own i => K (.own i)
 | .eown i s j k => K (.eown i s j k)
 | .osl i s j k => K (.osl i s j k)
 | .box i k => K (.box i k)
 | .cf g i k => K (.cf g i k)
 | .el cs k => K (.el cs k)
 | .fn g cs => K (.fn g cs)
 | .junk => K .junk
theorem force_eq (x : AV) (K : AV → Prop) : force x K = K x := by
 cases x with
 | v y =>
   cases y with
   | bool b => cases b <;> rfl
   | _ => rfl
 | _ => rfl
def aput (N : Nat) (st : AS) (d : Option Tmp) (x : AV) (K : AS → Prop) : Prop :=
 match d with
 | some d => bif Nat.ble (d + 1) N then force x (fun x => match st with | ⟨sl,h,bk,b⟩ => K ⟨(d,x) :: sl,h,bk,b⟩) else False
 | none => K st
def aopD (P : Program) (L : Lay) (W : Walk) (dst : Option Tmp) (st : AS) (op : Op) (K : AV → AS → Prop) : Prop :=
 match dst with
 | some d => aop P L W d st op K
 | none => aop P L W 0 st op K
def awpL (P : Program) (L : Lay) (W : Walk) (N : Nat) (ops : List Oper) (Q : AS → Prop) : List Oper → AS → Prop
  | [],st => Q st
  | ⟨dst,op,_,_,_,guard⟩ :: rest,st =>
    match guard with
    | none => aopD P L W dst st op (fun x st' => aput N st' dst x (awpL P L W N ops Q rest))
    | some (j,want) => match (ops[j]?).bind (·.dst) with
      | some dj => bif Nat.ble (dj + 1) N then (match st.tmps dj with
        | .v (.bool b) => (match b == want with
          | true => aopD P L W dst st op (fun x st' => aput N st' dst x (awpL P L W N ops Q rest))
          | false => aput N st dst (.v undef) (awpL P L W N ops Q rest))
        | .v (.tuple _) => aput N st dst (.v undef) (awpL P L W N ops Q rest)
        | _ => False) else False
      | none => False
def AEq (x y : AV) : Prop := ∀ (X : CX) (u : Value),C2 X x u → C2 X y u
def OEq (o o' : AO) : Prop := ∀ (X : CX) (id : Nat),ObjOk X id o → ObjOk X id o'
theorem AEq.refl (x : AV) : AEq x x := fun _ _ h => h
theorem OEq.refl (o : AO) : OEq o o := fun _ _ h => h
def BackLe : List (List (Nat × AV)) → List (List (Nat × AV)) → Prop
  | [],[] => True
  | f :: fs,h :: hs => (∀ t,ofL h t = .junk ∨ AEq (ofL f t) (ofL h t)) ∧ BackLe fs hs
  | _,_ => False
theorem BackLe.refl : ∀ fs,BackLe fs fs
  | [] => trivial
  | _ :: fs => ⟨fun _ => .inr (AEq.refl _),BackLe.refl fs⟩
structure LeS (st S : AS) : Prop where
 tm : ∀ t,S.tmps t = .junk ∨ AEq (st.tmps t) (S.tmps t)
 hp : ∀ p ∈ S.heap,∃ o,findObj p.1 st.heap = some o ∧ OEq o p.2
 nd : (S.heap.map (·.1)).Nodup
 bk : BackLe st.back S.back
def LeT (st : AS) : List (Nat × AV) → Prop
  | [] => True
  | p :: l => AEq (st.tmps p.1) p.2 ∧ LeT st l
def LeH (st : AS) : List (Nat × AO) → Prop
  | [] => True
  | p :: l => (∃ o,findObj p.1 st.heap = some o ∧ OEq o p.2) ∧ LeH st l
def nodupB : List Nat → Bool
  | [] => true
  | x :: l => !(l.any (Nat.beq x)) && nodupB l
theorem nodup_of : ∀ {l : List Nat},nodupB l = true → l.Nodup
  | [],_ => List.nodup_nil
  | x :: l,h => by
    simp only [nodupB,Bool.and_eq_true,Bool.not_eq_true'] at h
    refine List.nodup_cons.2 ⟨fun hx => ?_,nodup_of h.2⟩
    have := List.any_eq_false.1 h.1 x hx
    simp at this
theorem LeS.mk' {st : AS} (l : List (Nat × AV)) (h : List (Nat × AO)) (ht : LeT st l) (hh : LeH st h) (hn : nodupB (h.map (·.1)) = true) : LeS st ⟨l,h,st.back,st.base⟩ := by
 refine ⟨fun t => ?_,fun p hp => ?_,nodup_of hn,BackLe.refl _⟩
 · induction l with
   | nil => exact .inl rfl
   | cons p l ih =>
     show ofL (p :: l) t = .junk ∨ AEq (st.tmps t) (ofL (p :: l) t)
     simp only [ofL]
     cases hb : Nat.beq t p.1 with
     | true =>
       obtain rfl := Nat.eq_of_beq_eq_true hb
       exact .inr ht.1
     | false => exact ih ht.2
 · induction h with
   | nil => cases hp
   | cons q h ih =>
     rcases List.mem_cons.1 hp with rfl | hp'
     · exact hh.1
     · exact ih hh.2 (by simp only [List.map_cons,nodupB,Bool.and_eq_true] at hn; exact hn.2) hp'
def lookN : List (Nat × Nat) → Nat → Option Nat
  | [],_ => none
  | (k,i) :: r,x => bif Nat.beq x k then some i else lookN r x
def tgtB : List (Nat × Nat) → Nat → Bool
  | [],_ => false
  | (_,i) :: r,x => Nat.beq x i || tgtB r x
def renN (σ : List (Nat × Nat)) (k : Nat) : Option Nat := match lookN σ k with | some i => some i | none => bif tgtB σ k then none else some k
def ren0 (σ : List (Nat × Nat)) : AV → AV
  | .v x => .v x
  | .agg cs => .agg cs
  | .tup vs => .tup vs
  | .sl s n sc f => .sl s n sc f
  | .own id => match renN σ id with | some i => .own i | none => .junk
  | .eown id s i k => match renN σ id with | some j => .eown j s i k | none => .junk
  | .osl id s i k => match renN σ id with | some j => .osl j s i k | none => .junk
  | .box id off => match renN σ id with | some i => .box i off | none => .junk
  | .cf g id off => match renN σ id with | some i => .cf g i off | none => .junk
  | .el cs k => .el cs k
  | .fn g cs => .fn g cs
  | .junk => .junk
def ren1 (σ : List (Nat × Nat)) : AV → AV
  | .v x => .v x
  | .agg cs => .agg (cs.map (ren0 σ))
  | .tup vs => .tup vs
  | .sl s n sc f => .sl s n sc f
  | .own id => match renN σ id with | some i => .own i | none => .junk
  | .eown id s i k => match renN σ id with | some j => .eown j s i k | none => .junk
  | .osl id s i k => match renN σ id with | some j => .osl j s i k | none => .junk
  | .box id off => match renN σ id with | some i => .box i off | none => .junk
  | .cf g id off => match renN σ id with | some i => .cf g i off | none => .junk
  | .el cs k => .el cs k
  | .fn g cs => .fn g (cs.map (ren0 σ))
  | .junk => .junk
def ren2 (σ : List (Nat × Nat)) : AV → AV
  | .v x => .v x
  | .agg cs => .agg (cs.map (ren0 σ))
  | .tup vs => .tup (vs.map (ren1 σ))
  | .sl s n sc f => .sl s n sc f
  | .own id => match renN σ id with | some i => .own i | none => .junk
  | .eown id s i k => match renN σ id with | some j => .eown j s i k | none => .junk
  | .osl id s i k => match renN σ id with | some j => .osl j s i k | none => .junk
  | .box id off => match renN σ id with | some i => .box i off | none => .junk
  | .cf g id off => match renN σ id with | some i => .cf g i off | none => .junk
  | .el cs k => .el cs k
  | .fn g cs => .fn g (cs.map (ren0 σ))
  | .junk => .junk
def renK (σ : List (Nat × Nat)) : List (ByteArray × Option Nat) → List (ByteArray × Option Nat)
  | [] => []
  | (k,some i) :: l => (k,renN σ i) :: renK σ l
  | (k,none) :: l => (k,none) :: renK σ l
theorem renK_keys (σ : List (Nat × Nat)) : ∀ ks : List (ByteArray × Option Nat),(renK σ ks).map (·.1) = ks.map (·.1)
  | [] => rfl
  | (k,some i) :: l => by simp [renK,renK_keys σ l]
  | (k,none) :: l => by simp [renK,renK_keys σ l]
theorem MpIs.ren {ρ ρ' : Nat → Value} {σ : List (Nat × Nat)} (h : ∀ k i,renN σ k = some i → ρ' i = ρ k) : ∀ {ks : List (ByteArray × Option Nat)} {vs : List Value},MpIs ρ ks vs → MpIs ρ' (renK σ ks) vs
  | [],_,k => k
  | (k,some i) :: l,vs,⟨v,r,e,hi,hr⟩ => ⟨v,r,e,fun j hj => by rw [h i j hj]; exact hi _ rfl,MpIs.ren h hr⟩
  | (k,none) :: l,vs,⟨v,r,e,_,hr⟩ => ⟨v,r,e,fun j hj => (by cases hj),MpIs.ren h hr⟩
def AO.ren (σ : List (Nat × Nat)) : AO → AO
  | .box t cs => .box t (cs.map (ren0 σ))
  | .row e s n sc f => .row e s n sc f
  | .mp t ks rs => .mp t (renK σ ks) rs
  | .obs o => .obs o
  | .rn e cs => .rn e (cs.map (ren0 σ))
def renH (σ : List (Nat × Nat)) : List (Nat × AO) → List (Nat × AO)
  | [] => []
  | (k,o) :: h => match renN σ k with | some i => (i,o.ren σ) :: renH σ h | none => renH σ h
def AS.ren (st : AS) (σ : List (Nat × Nat)) : AS := ⟨mapS (ren2 σ) st.sl,renH σ st.heap,st.back.map (mapS (ren2 σ)),st.base⟩
structure LeR (σ : List (Nat × Nat)) (st S : AS) : Prop where
 nd : nodupB (σ.map (·.2)) = true
 le : LeS (st.ren σ) S
def Imp (st S : AS) : Prop := ∀ (g : Base) (N : Nat) (bs : List (Array Value)) (ρ : Nat → Value) (a : Act) (w : World),Rel g N bs ρ a w st → ∃ ρ',Rel g N bs ρ' a w S
theorem Imp.refl (st : AS) : Imp st st := fun _ _ _ ρ _ _ R => ⟨ρ,R⟩
theorem Imp.trans {a b c : AS} (h : Imp a b) (k : Imp b c) : Imp a c := fun g N bs ρ a w R => by
 obtain ⟨ρ1,R1⟩ := h g N bs ρ a w R
 exact k g N bs ρ1 a w R1
def aunroll (body : (AExit → AS → Prop) → AS → Prop) (Q : AExit → AS → Prop) : Nat → AS → Prop
  | 0,_ => False
  | n + 1,st => body (fun e st' => match e with | .normal => aunroll body Q n st' | .exit i => Q (.exit i) st' | .ret => Q .ret st') st
inductive ALoop (body : (AExit → AS → Prop) → AS → Prop) (Q : AExit → AS → Prop) : AS → Prop where
  | mk {st : AS} (X : Type) (S : X → AS) (m : X → Nat) (x0 : X) (σ : List (Nat × Nat)) (h0 : LeR σ st (S x0))
    (hb : ∀ x,body (fun e st' => match e with | .normal => ∃ y σ,LeR σ st' (S y) ∧ m y < m x | .exit i => Q (.exit i) st' | .ret => Q .ret st') (S x)) : ALoop body Q st
  | rounds {st : AS} (n : Nat) (h : aunroll body Q n st) : ALoop body Q st
  | nil {st : AS} (t d : Nat) (e : TypeId) (s : Nat) (f : Nat → List AV) (ht : st.tmps t = .v (.slice none 0 0)) (hs : 0 < s) (h : ALoop body Q ((st.obj d d (.row e s 0 true f)).put t (.own d))) : ALoop body Q st
  | nilB {st : AS} (id k d : Nat) (e : TypeId) (s : Nat) (f : Nat → List AV) {t : TypeId} {cs : List AV} (hs : 0 < s) (hf : findObj id (st.obj d d (.row e s 0 true f)).heap = some (.box t cs)) (hk : cs[k]? = some (.v (.slice none 0 0)))
     (h : ALoop body Q ⟨(st.obj d d (.row e s 0 true f)).sl,setObj id (.box t (cs.set k (.own d))) (st.obj d d (.row e s 0 true f)).heap,(st.obj d d (.row e s 0 true f)).back,(st.obj d d (.row e s 0 true f)).base⟩) : ALoop body Q st
  | frz {st : AS} (id : Nat) {e : TypeId} {s n : Nat} {sc : Bool} {f : Nat → List AV} (hf : findObj id st.heap = some (.row e s n sc f)) (h : ALoop body Q (st.freeze id s n sc f)) : ALoop body Q st
  | imp {st : AS} (S : AS) (h0 : Imp st S) (h : ALoop body Q S) : ALoop body Q st
  | mkI {st : AS} (X : Type) (S : X → AS) (m : X → Nat) (x0 : X) (h0 : Imp st (S x0))
    (hb : ∀ x,body (fun e st' => match e with | .normal => ∃ y,Imp st' (S y) ∧ m y < m x | .exit i => Q (.exit i) st' | .ret => Q .ret st') (S x)) : ALoop body Q st
inductive ACut (body : AS → Prop) (st : AS) : Prop where
  | mk (S : AS) (h0 : LeS st S) (hb : body S) : ACut body st
inductive ADraw (P : Program) (L : Lay) (W : Walk) (N : Nat) (id : Nat) (ops : Array Oper) (K : AS → Prop) (st : AS) : Prop where
  | quiet (hm : P.follows .mixedOrders = true) (hB : Region.lexB .any ops = true) (hq : ops.toList.all (fun o => quietB o.op) = true) (h : awpL P L W N ops.toList K ops.toList st) : ADraw P L W N id ops K st
  | sem (h : ∀ (g : Base) (bs : List (Array Value)) (ρ : Nat → Value) (a : Act) (w : World) (E : Exit → Act → World → Prop),Rel g N bs ρ a w st → (∀ ρ a w st,Rel g N bs ρ a w st → K st → E .normal a w) → (Code.region id ops true).wp P E a w) : ADraw P L W N id ops K st
def qOf (g : Base) (N : Nat) (bs : List (Array Value)) (Q : AExit → AS → Prop) (E : Exit → Act → World → Prop) : Prop :=
 (∀ ρ a w st,Rel g N bs ρ a w st → Q .normal st → E .normal a w) ∧ (∀ i ρ a w st,Rel g N bs ρ a w st → Q (.exit i) st → E (.exit i) a w) ∧ (∀ ρ a w st,Rel g N bs ρ a w st → Q .ret st → E .ret a w)
inductive CSem (P : Program) (N : Nat) (c : Code) (Q : AExit → AS → Prop) (st : AS) : Prop where
  | mk (h : ∀ (g : Base) (bs : List (Array Value)) (E : Exit → Act → World → Prop) (ρ : Nat → Value) (a : Act) (w : World),qOf g N bs Q E → Rel g N bs ρ a w st → c.wp P E a w) : CSem P N c Q st
def awpS (P : Program) (L : Lay) (W : Walk) (N lv : Nat) : Code → (AExit → AS → Prop) → AS → Prop
  | .skip,Q,st => Q .normal st
  | .region id ops draw,Q,st => match draw with | false => awpL P L W N ops.toList (fun st' => nrm lv st' (Q .normal)) ops.toList st | true => ADraw P L W N id ops (fun st' => nrm lv st' (Q .normal)) st
  | .seq a b,Q,st => awpS P L W N lv a (fun e st' => match e with | .normal => awpS P L W N lv b Q st' | .exit i => Q (.exit i) st' | .ret => Q .ret st') st
  | .cond c a b,Q,st => match st.ev c with | .v (.bool t) => (match t with | true => awpS P L W N lv a Q st | false => awpS P L W N lv b Q st) | _ => False
  | .block id c,Q,st => awpS P L W N lv c (fun e st' => match e with | .normal => Q .normal st' | .exit i => (bif Nat.beq i id then Q .normal st' else Q (.exit i) st') | .ret => Q .ret st') st
  | .exit id,Q,st => Q (.exit id) st
  | .ret,Q,st => Q .ret st
  | .loop c,Q,st => ALoop (awpS P L W N lv c) Q st
  | c,Q,st => CSem P N c Q st
def awp (P : Program) (L : Lay) : Nat → Walk
  | 0 => fun _ _ _ _ _ => False
  | n + 1 => fun N lv c Q st => awpS P L (awp P L n) N lv c Q st
def ret0 (h : List (Nat × AO)) (id d : Nat) : AV → AV
  | .own i => bif Nat.beq i id then .own d else see0 h (.own i)
  | x => see0 h x
def ret1 (h : List (Nat × AO)) (id d : Nat) : AV → AV
  | .agg cs => .agg (cs.map (ret0 h id d))
  | x => ret0 h id d x
def ret2 (h : List (Nat × AO)) (id d : Nat) : AV → AV
  | .tup vs => .tup (vs.map (ret1 h id d))
  | x => ret1 h id d x
def see2 (h : List (Nat × AO)) : AV → AV
  | .tup vs => .tup (vs.map (see1 h))
  | x => see1 h x
inductive ARet (st : AS) (x : AV) : AV → List (Nat × AO) → Prop where
  | plain (r : AV) (hr : AEq (see2 st.heap x) r) : ARet st x r []
  | own (id d : Nat) (r : AV) (e : TypeId) (s n : Nat) (sc : Bool) (f : Nat → List AV) (o' : AO) (hf : findObj id st.heap = some (.row e s n sc f)) (ho : OEq (.row e s n sc f) o') (hr : AEq (ret2 st.heap id d x) r) : ARet st x r [(d,o')]
  | nil (d : Nat) (e : TypeId) (s : Nat) (f : Nat → List AV) (hx : x = .v (.slice none 0 0)) (hs : 0 < s) : ARet st x (.own d) [(d, .row e s 0 true f)]
def retQ (L : Lay) (fn : Func) (r : AV) (h : List (Nat × AO)) : AExit → AS → Prop
  | .normal,st => ares L st fn.results.toList (fun x => ARet st x r h)
  | .ret,st => ares L st fn.results.toList (fun x => ARet st x r h)
  | .exit _,_ => False
end Go.Proofs.YtimhagicagdkfaaGreat
namespace Go.Proofs.YtimhagicagdkfaaGreat
open Go.RowKit
theorem fact_of {P : Program} {L : Lay} (hL : LayOk P L) {t : TypeId} {i : TI} (h : layGet L t = some i) :
  ∃ info z d,P.info? t = some info ∧ P.underlying t = some d ∧ info.zero = some z ∧ info.size = i.size ∧ info.bytes = i.bytes ∧ z.cells.toList = i.zero ∧ kindOf d = i.kind := by
 have hf := hL t i h
 unfold factOf at hf
 split at hf
 · rename_i info d h1 h2
   cases hz : info.zero with
   | none => rw [hz] at hf; cases hf
   | some z =>
     rw [hz] at hf
     simp only [Option.map_some,Option.some.injEq] at hf
     subst hf
     exact ⟨info,z,d,h1,h2,hz,rfl,rfl,rfl,rfl⟩
 · cases hf
section
variable {P : Program} {L : Lay}
theorem run_size (hL : LayOk P L) {t : TypeId} {i : TI} (h : layGet L t = some i) (w : World) : (sizeOf t).run P w = .ok i.size w := by
 obtain ⟨info,z,d,h1,h2,h3,h4,_⟩ := fact_of hL h
 simp [sizeOf,typeInfo,h1,h4]
theorem run_isAgg' (hL : LayOk P L) {t : TypeId} {i : TI} (h : layGet L t = some i) (w : World) : (isAgg t).run P w = .ok i.isAgg w := by
 obtain ⟨info,z,d,h1,h2,h3,h4,h5,h6,h7⟩ := fact_of hL h
 unfold isAgg
 rw [Sem.run_bind,run_underlying h2 w]
 unfold TI.isAgg
 rw [← h7]
 cases d <;> rfl
theorem run_zero (hL : LayOk P L) {t : TypeId} {i : TI} (h : layGet L t = some i) (w : World) : ∃ z,(zeroValue t).run P w = .ok z w ∧ z.cells.toList = i.zero := by
 obtain ⟨info,z,d,h1,h2,h3,h4,h5,h6,h7⟩ := fact_of hL h
 exact ⟨z,by simp [zeroValue,typeInfo,h1,h3],h6⟩
theorem C2.inv_v {X : CX} {x u : Value} (h : C2 X (.v x) u) : u = x := h
theorem C2.inv_cf {X : CX} {g : FuncId} {id k : Nat} {u : Value} (h : C2 X (.cf g id k) u) : ∃ b,hdV (X.ρ id) = .pointer (some ⟨b,0,none⟩) ∧ u = cfV g (.pointer (some ⟨b,k,none⟩)) := h
theorem C2.inv_box {X : CX} {id k : Nat} {u : Value} (h : C2 X (.box id k) u) : ∃ b,hdV (X.ρ id) = .pointer (some ⟨b,0,none⟩) ∧ u = .pointer (some ⟨b,k,none⟩) := h
theorem C2.inv_el {X : CX} {cs : List AV} {k : Nat} {u : Value} (h : C2 X (.el cs k) u) : ∃ b o us,u = .pointer (some ⟨b,o + k,none⟩) ∧ X.keep b ∧ All2 (PC X.w X.keep) cs us ∧ ∀ (j : Nat) (y : Value),us[j]? = some y → X.w.cell? ⟨b,o + j,none⟩ = some y := h
theorem C2.inv_eown {X : CX} {id s i k : Nat} {u : Value} (h : C2 X (.eown id s i k) u) : ∃ b n c,X.ρ id = .slice (some ⟨b,0,none⟩) n c ∧ u = .pointer (some ⟨b,i * s + k,none⟩) := h
theorem C2.inv_osl {X : CX} {id s i m : Nat} {u : Value} (h : C2 X (.osl id s i m) u) : (∃ b c,blk1 (hdV (X.ρ id)) = [b] ∧ m ≤ c ∧ u = .slice (some ⟨b,i * s,none⟩) m c) ∨ (m = 0 ∧ ∃ A c,u = .slice A 0 c) := h
theorem C2.inv_agg {X : CX} {cs : List AV} {u : Value} (h : C2 X (.agg cs) u) : ∃ us,u = .agg us.toArray ∧ All2 (C0 X) cs us := h
theorem C2.inv_tup {X : CX} {vs : List AV} {u : Value} (h : C2 X (.tup vs) u) : ∃ us,u = .tuple us.toArray ∧ All2 (C1 X) vs us := h
theorem C2.inv_fn {X : CX} {g : FuncId} {vs : List AV} {u : Value} (h : C2 X (.fn g vs) u) : ∃ us,u = .func (.func g) #[] us.toArray ∧ All2 (C0 X) vs us := h
theorem C2.inv_sl {X : CX} {s n : Nat} {sc : Bool} {f : Nat → List AV} {u : Value} (h : C2 X (.sl s n sc f) u) : PC X.w X.keep (.sl s n sc f) u := h
theorem C2.inv_own {X : CX} {id : Nat} {u : Value} (h : C2 X (.own id) u) : u = hdV (X.ρ id) := h
theorem All2.vs {X : CX} : ∀ us : List Value,All2 (C0 X) (us.map .v) us
  | [] => All2.nil
  | u :: us => All2.cons (show C0 X (.v u) u from rfl) (All2.vs us)
variable {g : Base} {N : Nat} {bs : List (Array Value)} {ρ : Nat → Value} {a : Act} {w : World} {st : AS}
theorem Rel.ev (R : Rel g N bs ρ a w st) (x : Operand) : C2 (cxOf g w ρ st.heap) (st.ev x) (a.eval x) := by
 cases x with
 | tmp t => exact R.tmps t
 | const v =>
   cases v with
   | agg cs => exact ⟨cs.toList,by simp [Act.eval],All2.vs _⟩
   | _ => rfl
 | global g => trivial
 | func f => exact ⟨[],rfl,All2.nil⟩
theorem wp_value {o : Oper} {next : Act → World → Prop} {Q : Exit → Act → World → Prop} {u : Value} {w' : World} (hrun : (execOp a.eval o).run P w = .ok (.value u) w') (h : next (a.put o.dst u) w') : o.wp P a w next Q := by
 unfold Oper.wp
 rw [hrun]
 exact h
theorem ld_run (hL : LayOk P L) {t : TypeId} {i : TI} (hi : layGet L t = some i) {X : CX} {cs : List AV} {k : Nat} {K : AV → Prop} (h : ld i cs k K) {b o : Nat} {us : List Value} (ha : All2 (C0 X) cs us)
  (hc : ∀ (j : Nat) (y : Value),us[j]? = some y → X.w.cell? ⟨b,o + j,none⟩ = some y) : ∃ x u,K x ∧ C2 X x u ∧ (loadVar t ⟨b,o + k,none⟩).run P X.w = .ok u X.w := by
 unfold ld at h
 cases hg : i.isAgg with
 | true =>
   rw [hg] at h
   simp only [cond_true] at h
   cases hb : Nat.ble (k + i.size) cs.length with
   | false => rw [hb] at h; exact h.elim
   | true =>
     rw [hb] at h
     have hle := Nat.le_of_ble_eq_true hb
     refine ⟨_, .agg ((us.drop k).take i.size).toArray,h,⟨_,rfl,(ha.drop k).take i.size⟩,?_⟩
     have hlen : ((us.drop k).take i.size).length = i.size := by rw [List.length_take,List.length_drop,← ha.1]; omega
     have hl := run_loadCells_list (P := P) X.w ⟨b,o + k,none⟩ ((us.drop k).take i.size) (fun j v hv => by
      rw [Addr.add_lit]
      rw [List.getElem?_take] at hv
      split at hv
      · rw [List.getElem?_drop] at hv
        rw [Nat.add_assoc]
        exact hc _ _ hv
      · cases hv)
     rw [hlen] at hl
     simp only [loadVar,Sem.run_bind,run_isAgg' hL hi,hg,Result.andThen_ok,if_true,run_size hL hi,hl,Sem.run_pure]
 | false =>
   rw [hg] at h
   simp only [cond_false] at h
   cases hb : Nat.ble (k + 1) cs.length with
   | false => rw [hb] at h; exact h.elim
   | true =>
     rw [hb] at h
     have hle := Nat.le_of_ble_eq_true hb
     have hx : cs[k]? = some (cs.getD k .junk) := by simp [List.getD,List.getElem?_eq_getElem (show k < cs.length by omega)]
     obtain ⟨u,hu,hr⟩ := ha.get hx
     refine ⟨_,u,h,C2.of0 hr,?_⟩
     have := hc _ _ hu
     simp [loadVar,Sem.run_bind,run_isAgg' hL hi,hg,this]
theorem aload_run (hL : LayOk P L) (R : Rel g N bs ρ a w st) {t : TypeId} {p : AV} {pv : Value} (hp : C2 (cxOf g w ρ st.heap) p pv) {K : AV → Prop} (h : aload L st t p K) :
  ∃ x u,K x ∧ C2 (cxOf g w ρ st.heap) x u ∧ (Instr.loadAt t pv).run P w = .ok u w := by
 unfold aload at h
 cases hi : layGet L t with
 | none => rw [hi] at h; exact h.elim
 | some i =>
   rw [hi] at h
   cases p with
   | box id k =>
     obtain ⟨b,hb,rfl⟩ := C2.inv_box hp
     dsimp only at h
     cases hf : findObj id st.heap with
     | none => rw [hf] at h; exact h.elim
     | some o =>
       rw [hf] at h
       cases o with
       | row => exact h.elim
       | mp => exact h.elim
       | obs => exact h.elim
       | rn => exact h.elim
       | box t' cs =>
         obtain ⟨b',us,e,hh,ha⟩ := R.objs _ (findObj_mem hf)
         have hb : hdV (ρ id) = _ := hb
         have e : ρ id = _ := e
         rw [e] at hb
         cases hb
         obtain ⟨x,u,hk,hc,hr⟩ := ld_run hL hi h (o := 0) ha (fun j y hy => by
          rw [cell_of_row _ _ _ _ _ _ hh]; simpa using hy)
         refine ⟨x,u,hk,hc,?_⟩
         simpa [Instr.loadAt,Instr.sureAddr,cxOf] using hr
   | el cs k =>
     obtain ⟨b,o,us,rfl,kb,ha,hc⟩ := C2.inv_el hp
     obtain ⟨x,u,hk,hc,hr⟩ := ld_run hL hi h (ha.imp fun _ _ => C0.ofPC) hc
     refine ⟨x,u,hk,hc,?_⟩
     simpa [Instr.loadAt,Instr.sureAddr,cxOf] using hr
   | eown id s j k =>
     obtain ⟨b,n,c,hb,rfl⟩ := C2.inv_eown hp
     dsimp only at h
     cases hf : findObj id st.heap with
     | none => rw [hf] at h; exact h.elim
     | some o =>
       rw [hf] at h
       cases o with
       | box => exact h.elim
       | mp => exact h.elim
       | obs => exact h.elim
       | rn e cs =>
         dsimp only at h
         cases hs : Nat.beq s 1 with
         | false => rw [hs] at h; exact h.elim
         | true =>
           rw [hs] at h
           obtain rfl := Nat.eq_of_beq_eq_true hs
           simp only [cond_true] at h
           obtain ⟨us,⟨hown,_⟩,ha⟩ := R.objs _ (findObj_mem hf)
           have hb : ρ id = _ := hb
           have hown : w.ownsRow 0 e 1 (ρ id) cs.length us := hown
           rw [hb] at hown
           have hcell := hown.cells (g := b) rfl
           obtain ⟨x,u,hk,hc,hr⟩ := ld_run (X := cxOf g w ρ st.heap) hL hi h (o := 0) ha (fun i y hy => by
            have := hcell _ _ hy
            rwa [Addr.add_lit] at this)
           refine ⟨x,u,hk,hc,?_⟩
           simpa [Instr.loadAt,Instr.sureAddr,cxOf] using hr
       | row e s' m sc f =>
         dsimp only at h
         cases hs : Nat.beq s s' with
         | false => rw [hs] at h; exact h.elim
         | true =>
           rw [hs] at h
           obtain rfl := Nat.eq_of_beq_eq_true hs
           simp only [cond_true] at h
           cases hj : Nat.ble (j + 1) m with
           | false => rw [hj] at h; exact h.elim
           | true =>
             rw [hj] at h
             have hjm := Nat.le_of_ble_eq_true hj
             obtain ⟨us,hown,hs0,hfl,hsc,ha⟩ := R.objs _ (findObj_mem hf)
             have hb : ρ id = _ := hb
             have hown : w.ownsRow 0 e s (ρ id) m us := hown
             rw [hb] at hown
             have hcell := hown.cells (g := b) rfl
             obtain ⟨hseg⟩ : All2 (PC w (keepOf g w ρ st.heap)) (f j) ((us.drop (j * s)).take s) ∧ True := ⟨seg ha hfl (by omega),trivial⟩
             obtain ⟨x,u,hk,hc,hr⟩ := ld_run (X := cxOf g w ρ st.heap) hL hi h (o := j * s) (hseg.imp fun _ _ => C0.ofPC (X := cxOf g w ρ st.heap)) (fun i y hy => by
              rw [List.getElem?_take] at hy
              split at hy
              · rw [List.getElem?_drop] at hy
                have := hcell _ _ hy
                rwa [Addr.add_lit,Nat.zero_add] at this
              · cases hy)
             refine ⟨x,u,hk,hc,?_⟩
             simpa [Instr.loadAt,Instr.sureAddr,cxOf] using hr
   | _ => exact h.elim
where
 seg {R : AV → Value → Prop} {s : Nat} : ∀ {n : Nat} {f : Nat → List AV} {us : List Value} {j : Nat},All2 R (flat n f) us → (∀ i,i < n → (f i).length = s) → j < n → All2 R (f j) ((us.drop (j * s)).take s)
   | 0,_,_,_,_,_,h => absurd h (by omega)
   | n + 1,f,us,0,ha,hl,_ => by
     have h := ha.take s
     have e : (flat (n + 1) f).take s = f 0 := by
      show (f 0 ++ _).take s = _
      rw [← hl 0 (by omega)]; exact List.take_left
     rw [e] at h
     simpa using h
   | n + 1,f,us,j + 1,ha,hl,hj => by
     have h := ha.drop s
     have e : (flat (n + 1) f).drop s = flat n (fun i => f (i + 1)) := by
      show (f 0 ++ _).drop s = _
      rw [← hl 0 (by omega)]; exact List.drop_left
     rw [e] at h
     have := seg (j := j) h (fun i hi => hl (i + 1) (by omega)) (by omega)
     rw [List.drop_drop,show s + j * s = (j + 1) * s by rw [Nat.succ_mul]; omega] at this
     exact this
end
end Go.Proofs.YtimhagicagdkfaaGreat
namespace Go.Proofs.YtimhagicagdkfaaGreat
open Go.RowKit
section
variable {P : Program} {L : Lay} {g : Base} {N : Nat} {bs : List (Array Value)} {ρ : Nat → Value} {a : Act} {w : World} {st : AS}
theorem struct_fields {P : Program} {L : Lay} (hL : LayOk P L) {t : TypeId} {i : TI} {fs : List (Nat × TypeId)} (h : layGet L t = some i) (hk : i.kind = .struct fs) :
  ∃ fields : Array Field,P.underlying t = some (.struct fields) ∧ fields.toList.map (fun f => (f.offset,f.type)) = fs := by
 obtain ⟨info,z,d,h1,h2,h3,h4,h5,h6,h7⟩ := fact_of hL h
 rw [hk] at h7
 cases d <;> simp only [kindOf] at h7 <;> first | (cases h7; done) | skip
 rename_i fields
 exact ⟨fields,h2,by injection h7⟩
theorem array_of {P : Program} {L : Lay} (hL : LayOk P L) {t : TypeId} {i : TI} {n : Nat} {e : TypeId} (h : layGet L t = some i) (hk : i.kind = .array n e) : P.underlying t = some (.array n e) := by
 obtain ⟨info,z,d,h1,h2,h3,h4,h5,h6,h7⟩ := fact_of hL h
 rw [hk] at h7
 cases d <;> simp only [kindOf] at h7 <;> cases h7
 exact h2
theorem slice_of {P : Program} {L : Lay} (hL : LayOk P L) {t : TypeId} {i : TI} {e : TypeId} (h : layGet L t = some i) (hk : i.kind = .slice e) : P.underlying t = some (.slice e) := by
 obtain ⟨info,z,d,h1,h2,h3,h4,h5,h6,h7⟩ := fact_of hL h
 rw [hk] at h7
 cases d <;> simp only [kindOf] at h7 <;> cases h7
 exact h2
theorem str_of {P : Program} {L : Lay} (hL : LayOk P L) {t : TypeId} {i : TI} (h : layGet L t = some i) (hk : i.kind = .str) : P.underlying t = some .string := by
 obtain ⟨info,z,d,h1,h2,h3,h4,h5,h6,h7⟩ := fact_of hL h
 rw [hk] at h7
 cases d <;> simp only [kindOf] at h7 <;> cases h7
 exact h2
theorem int_of {P : Program} {L : Lay} (hL : LayOk P L) {t : TypeId} {i : TI} {k : IntKind} (h : layGet L t = some i) (hk : i.kind = .int k) : P.underlying t = some (.int k) := by
 obtain ⟨info,z,d,h1,h2,h3,h4,h5,h6,h7⟩ := fact_of hL h
 rw [hk] at h7
 cases d <;> simp only [kindOf] at h7 <;> cases h7
 exact h2
theorem field_at {fields : Array Field} {fs : List (Nat × TypeId)} (hf : fields.toList.map (fun f => (f.offset,f.type)) = fs) {i o : Nat} {ft : TypeId} (h : fs[i]? = some (o,ft)) : ∃ f,fields[i]? = some f ∧ f.offset = o ∧ f.type = ft := by
 rw [← hf,List.getElem?_map] at h
 cases hx : fields.toList[i]? with
 | none => rw [hx] at h; cases h
 | some f =>
   rw [hx] at h
   simp only [Option.map_some,Option.some.injEq,Prod.mk.injEq] at h
   exact ⟨f,by simpa using hx,h.1,h.2⟩
theorem afieldAddr_run (hL : LayOk P L) {X : CX} {t : TypeId} {p : AV} {pv : Value} {i : Nat} (hp : C2 X p pv) {K : AV → Prop} (h : afieldAddr L t p i K) (w : World) :
  ∃ x u,K x ∧ C2 X x u ∧ (Instr.fieldAt t pv i).run P w = .ok u w := by
 unfold afieldAddr at h
 split at h
 · rename_i ti hti
   split at h
   · rename_i fs hk
     split at h
     · rename_i o ft hfs
       split at h
       · rename_i fi hfi
         obtain ⟨fields,hu,hmap⟩ := struct_fields hL hti hk
         obtain ⟨f,hf,ho,hft⟩ := field_at hmap hfs
         cases hs : Nat.ble 1 fi.size with
         | false => rw [hs] at h; exact h.elim
         | true =>
           rw [hs] at h
           have h1 := Nat.le_of_ble_eq_true hs
           have hplace : ∀ a : Addr,(fieldPlace a f).run P w = .ok (a.add f.offset) w := by
            intro a
            have := run_size hL hfi w
            rw [← hft] at this
            simp only [fieldPlace,Sem.run_bind,this,Result.andThen_ok]
            rw [if_neg (by omega)]
            rfl
           cases p with
           | box id k =>
             obtain ⟨b,hb,rfl⟩ := C2.inv_box hp
             refine ⟨_, .pointer (some ⟨b,k + o,none⟩),h,⟨b,hb,rfl⟩,?_⟩
             simp [Instr.fieldAt,run_underlying hu,hf,Instr.sureAddr,hplace,ho,Addr.add_lit]
           | el cs k =>
             obtain ⟨b,oo,us,rfl,kb,ha,hc⟩ := C2.inv_el hp
             refine ⟨_, .pointer (some ⟨b,oo + (k + o),none⟩),h,⟨b,oo,us,rfl,kb,ha,hc⟩,?_⟩
             simp [Instr.fieldAt,run_underlying hu,hf,Instr.sureAddr,hplace,ho,Addr.add_lit,Nat.add_assoc]
           | eown id s j k =>
             obtain ⟨b,n,c,hb,rfl⟩ := C2.inv_eown hp
             refine ⟨_, .pointer (some ⟨b,j * s + (k + o),none⟩),h,⟨b,n,c,hb,rfl⟩,?_⟩
             simp [Instr.fieldAt,run_underlying hu,hf,Instr.sureAddr,hplace,ho,Addr.add_lit,Nat.add_assoc]
           | _ => exact h.elim
       · exact h.elim
     · exact h.elim
   · exact h.elim
 · exact h.elim
theorem part_run (hL : LayOk P L) {t : TypeId} {i : TI} (hi : layGet L t = some i) {X : CX} {cs : List AV} {k : Nat} {K : AV → Prop} (h : ld i cs k K) {us : List Value} (ha : All2 (C0 X) cs us) (w : World) :
  ∃ x u,K x ∧ C2 X x u ∧ (part t us.toArray k).run P w = .ok u w := by
 unfold ld at h
 cases hg : i.isAgg with
 | true =>
   rw [hg] at h
   simp only [cond_true] at h
   cases hb : Nat.ble (k + i.size) cs.length with
   | false => rw [hb] at h; exact h.elim
   | true =>
     rw [hb] at h
     refine ⟨_, .agg ((us.drop k).take i.size).toArray,h,⟨_,rfl,(ha.drop k).take i.size⟩,?_⟩
     simp only [part,Sem.run_bind,run_isAgg' hL hi,hg,Result.andThen_ok,if_true,run_size hL hi,Sem.run_pure]
     congr 2
     apply Array.ext'
     simp
 | false =>
   rw [hg] at h
   simp only [cond_false] at h
   cases hb : Nat.ble (k + 1) cs.length with
   | false => rw [hb] at h; exact h.elim
   | true =>
     rw [hb] at h
     have hle := Nat.le_of_ble_eq_true hb
     have hx : cs[k]? = some (cs.getD k .junk) := by simp [List.getD,List.getElem?_eq_getElem (show k < cs.length by omega)]
     obtain ⟨u,hu,hr⟩ := ha.get hx
     refine ⟨_,u,h,C2.of0 hr,?_⟩
     simp [part,Sem.run_bind,run_isAgg' hL hi,hg,hu]
theorem afield_run (hL : LayOk P L) {X : CX} {t : TypeId} {p : AV} {pv : Value} {i : Nat} (hp : C2 X p pv) {K : AV → Prop} (h : afield L t p i K) (w : World) :
  ∃ x u,K x ∧ C2 X x u ∧ (Instr.field t pv i).run P w = .ok u w := by
 unfold afield at h
 split at h
 · rename_i ti cs hti
   split at h
   · rename_i fs hk
     split at h
     · rename_i o ft hfs
       split at h
       · rename_i fi hfi
         obtain ⟨fields,hu,hmap⟩ := struct_fields hL hti hk
         obtain ⟨f,hf,ho,hft⟩ := field_at hmap hfs
         obtain ⟨us,rfl,ha⟩ := C2.inv_agg hp
         obtain ⟨x,u,hk',hc,hr⟩ := part_run hL hfi h ha w
         refine ⟨x,u,hk',hc,?_⟩
         rw [← ho,← hft] at hr
         simp [Instr.field,run_underlying hu,hf,asAgg,hr]
       · exact h.elim
     · exact h.elim
   · exact h.elim
 · exact h.elim
theorem inB_iff {n : Int} {m : Nat} (h : inB n m = true) : 0 ≤ n ∧ n < (m : Int) := by simpa [inB] using h
theorem PC.at {R : AV → Value → Prop} {s n : Nat} {f : Nat → List AV} {us : List Value} {j : Nat} (h : All2 R (flat n f) us) (hl : ∀ i,i < n → (f i).length = s) (hj : j < n) : All2 R (f j) ((us.drop (j * s)).take s) := aload_run.seg h hl hj
theorem aindexAddr_run (hL : LayOk P L) (R : Rel g N bs ρ a w st) {t : TypeId} {x ix : AV} {xv iv : Value} (hx : C2 (cxOf g w ρ st.heap) x xv) (hix : C2 (cxOf g w ρ st.heap) ix iv) {K : AV → Prop} (h : aindexAddr L st t x ix K) :
  ∃ y u,K y ∧ C2 (cxOf g w ρ st.heap) y u ∧ (Instr.indexAt t xv iv).run P w = .ok u w := by
 unfold aindexAddr at h; simp only [InB_eq,InA_eq] at h
 split at h
 · rename_i ti kk n hti
   obtain rfl := C2.inv_v hix
   split at h
   · rename_i e hk
     have hu := slice_of hL hti hk
     split at h
     · rename_i ei hei
       have hsz := run_size hL hei w
       split at h
       · rename_i s m sc f
         cases hs : Nat.beq s ei.size with
         | false => rw [hs] at h; exact h.elim
         | true =>
           rw [hs] at h
           obtain rfl := Nat.eq_of_beq_eq_true hs
           simp only [cond_true] at h
           cases hb : inB n m with
           | false => rw [hb] at h; exact h.elim
           | true =>
             rw [hb] at h
             obtain ⟨h0,h1⟩ := inB_iff hb
             have hpc := C2.inv_sl hx
             cases hpc with
             | sl _ _ _ _ A c us hs0 hn hc hl hf hsc hu' hr =>
               rcases hr with hz | ⟨b,o,rfl,kb,hcell⟩
               · omega
               · have hj : n.toNat < m := by omega
                 have hseg := PC.at (j := n.toNat) (R := PC w (keepOf g w ρ st.heap)) ⟨by rw [hl]; exact flat_length hf,hu'⟩ hf hj
                 refine ⟨_, .pointer (some ⟨b,o + n.toNat * ei.size,none⟩),h,⟨b,o + n.toNat * ei.size,_,by rw [Nat.add_zero],kb,hseg,?_⟩,?_⟩
                 · intro j y hy
                   rw [List.getElem?_take] at hy
                   split at hy
                   · rw [List.getElem?_drop] at hy
                     rw [Nat.add_assoc]
                     exact hcell _ _ hy
                   · cases hy
                 · simp [Instr.indexAt,asIntOf,run_underlying hu,h0,h1,hsz,Addr.add_lit]
       · rename_i id
         split at h
         · rename_i e' s m sc f hfo
           cases hs : Nat.beq s ei.size with
           | false => rw [hs] at h; exact h.elim
           | true =>
             rw [hs] at h
             obtain rfl := Nat.eq_of_beq_eq_true hs
             simp only [cond_true] at h
             cases hb : inB n m with
             | false => rw [hb] at h; exact h.elim
             | true =>
               rw [hb] at h
               obtain ⟨h0,h1⟩ := inB_iff hb
               obtain ⟨us,hown,hs0,hfl,hsc,ha⟩ := R.objs _ (findObj_mem hfo)
               have hown : w.ownsRow 0 e' ei.size (ρ id) m us := hown
               have hxv : xv = ρ id := (C2.inv_own hx).trans (hdV_own hown)
               rcases hown.2 with ⟨_,hz⟩ | ⟨b,cap,cur,hv,hB,hh,_⟩
               · omega
               · rw [hxv,hv]
                 refine ⟨_, .pointer (some ⟨b,n.toNat * ei.size,none⟩),h,⟨b,m,cap,hv,rfl⟩,?_⟩
                 simp [Instr.indexAt,asIntOf,run_underlying hu,h0,h1,hsz,Addr.add_lit]
         · rename_i e' cs hfo
           cases hs : Nat.beq 1 ei.size with
           | false => rw [hs] at h; exact h.elim
           | true =>
             rw [hs] at h
             have hs1 := Nat.eq_of_beq_eq_true hs
             simp only [cond_true] at h
             cases hb : inB n cs.length with
             | false => rw [hb] at h; exact h.elim
             | true =>
               rw [hb] at h
               obtain ⟨h0,h1⟩ := inB_iff hb
               obtain ⟨us,⟨hown,_⟩,ha⟩ := R.objs _ (findObj_mem hfo)
               have hown : w.ownsRow 0 e' 1 (ρ id) cs.length us := hown
               have hxv : xv = ρ id := (C2.inv_own hx).trans (hdV_own hown)
               rcases hown.2 with ⟨_,hz⟩ | ⟨b,cap,cur,hv,hB,hh,_⟩
               · omega
               · rw [hxv,hv]
                 refine ⟨_, .pointer (some ⟨b,n.toNat * 1 + 0,none⟩),h,⟨b,cs.length,cap,hv,rfl⟩,?_⟩
                 simp [Instr.indexAt,asIntOf,run_underlying hu,h0,h1,hsz,← hs1,Addr.add_lit]
         · exact h.elim
       · exact h.elim
     · exact h.elim
   · rename_i m e hk
     have hu := array_of hL hti hk
     split at h
     · rename_i ei hei
       have hsz := run_size hL hei w
       cases hb : inB n m with
       | false => rw [hb] at h; exact h.elim
       | true =>
         rw [hb] at h
         obtain ⟨h0,h1⟩ := inB_iff hb
         simp only [cond_true] at h
         split at h
         · rename_i id k
           obtain ⟨b,hbb,rfl⟩ := C2.inv_box hx
           refine ⟨_, .pointer (some ⟨b,k + n.toNat * ei.size,none⟩),h,⟨b,hbb,rfl⟩,?_⟩
           simp [Instr.indexAt,asIntOf,run_underlying hu,h0,h1,hsz,Addr.add_lit,Instr.sureAddr]
         · rename_i cs k
           obtain ⟨b,o,us,rfl,kb,ha,hc⟩ := C2.inv_el hx
           refine ⟨_, .pointer (some ⟨b,o + (k + n.toNat * ei.size),none⟩),h,⟨b,o,us,rfl,kb,ha,hc⟩,?_⟩
           simp [Instr.indexAt,asIntOf,run_underlying hu,h0,h1,hsz,Addr.add_lit,Instr.sureAddr,Nat.add_assoc]
         · rename_i id s j k
           obtain ⟨b,nn,c,hbb,rfl⟩ := C2.inv_eown hx
           refine ⟨_, .pointer (some ⟨b,j * s + (k + n.toNat * ei.size),none⟩),h,⟨b,nn,c,hbb,rfl⟩,?_⟩
           simp [Instr.indexAt,asIntOf,run_underlying hu,h0,h1,hsz,Addr.add_lit,Instr.sureAddr,Nat.add_assoc]
         · exact h.elim
     · exact h.elim
   · exact h.elim
 · exact h.elim
where
 flat_length {s : Nat} : ∀ {n : Nat} {f : Nat → List AV},(∀ i,i < n → (f i).length = s) → (flat n f).length = n * s
   | 0,_,_ => by simp [flat]
   | n + 1,f,h => by
     show (f 0 ++ _).length = _
     rw [List.length_append,h 0 (by omega),flat_length (fun i hi => h (i + 1) (by omega)),Nat.succ_mul,Nat.add_comm]
theorem aindex_run (hL : LayOk P L) {X : CX} {t : TypeId} {x ix : AV} {xv iv : Value} (hx : C2 X x xv) (hix : C2 X ix iv) {K : AV → Prop} (h : aindex L t x ix K) (w : World) :
  ∃ y u,K y ∧ C2 X y u ∧ (Instr.index t xv iv).run P w = .ok u w := by
 unfold aindex at h; simp only [InB_eq,InA_eq] at h
 split at h
 · rename_i ti kk n hti
   obtain rfl := C2.inv_v hix
   split at h
   · rename_i m e cs hk
     have hu := array_of hL hti hk
     obtain ⟨us,rfl,ha⟩ := C2.inv_agg hx
     split at h
     · rename_i ei hei
       cases hb : inB n m with
       | false => rw [hb] at h; exact h.elim
       | true =>
         rw [hb] at h
         obtain ⟨h0,h1⟩ := inB_iff hb
         obtain ⟨y,u,hk',hc,hr⟩ := part_run hL hei h ha w
         refine ⟨y,u,hk',hc,?_⟩
         simp [Instr.index,asIntOf,run_underlying hu,h0,h1,run_size hL hei,hr]
     · exact h.elim
   · rename_i s hk
     have hu := str_of hL hti hk
     obtain rfl := C2.inv_v hx
     cases hb : inB n s.size with
     | false => rw [hb] at h; exact h.elim
     | true =>
       rw [hb] at h
       obtain ⟨h0,h1⟩ := inB_iff hb
       have hlt : n.toNat < s.size := by omega
       refine ⟨_,_,h,rfl,?_⟩
       have e1 : s[n.toNat]? = some s[n.toNat] := by simp [hlt]
       have e2 : s.data.toList.getD n.toNat 0 = s[n.toNat] := by
        have hlt' : n.toNat < s.data.toList.length := by rw [Array.length_toList]; exact hlt
        rw [List.getD,List.getElem?_eq_getElem hlt']
        rfl
       rw [e2]
       simp [Instr.index,asIntOf,run_underlying hu,h0,e1]
   · exact h.elim
 · exact h.elim
theorem aextract_run {X : CX} {x : AV} {xv : Value} (hx : C2 X x xv) {i : Nat} {K : AV → Prop} (h : aextract x i K) (w : World) : ∃ y u,K y ∧ C2 X y u ∧ (Instr.extract xv i).run P w = .ok u w := by
 unfold aextract at h
 split at h
 · rename_i vs
   obtain ⟨us,rfl,ha⟩ := C2.inv_tup hx
   split at h
   · rename_i y hy
     obtain ⟨u,hu,hc⟩ := ha.get hy
     exact ⟨y,u,h,C2.of1 hc,by simp [Instr.extract,hu]⟩
   · exact h.elim
 · exact h.elim
end
end Go.Proofs.YtimhagicagdkfaaGreat
namespace Go.Proofs.YtimhagicagdkfaaGreat
open Go.RowKit
section
variable {P : Program} {L : Lay} {g : Base} {N : Nat} {bs : List (Array Value)} {ρ : Nat → Value} {a : Act} {w : World} {st : AS}
theorem Wr.out {n : Int} {K : Int → Prop} {k : IntKind} (h : Wr n K k) : K (k.wrap n) := by
 cases h with
 | i64 h0 h1 h => rw [IntWalk.i64_in n (by omega)]; exact h
 | u64 h0 h1 h => rw [IntWalk.u64_in n (by omega)]; exact h
 | u32 h0 h1 h => rw [IntWalk.u32_in n (by omega)]; exact h
 | u8 h0 h1 h => rw [IntWalk.u8_in n (by omega)]; exact h
 | raw k h => exact h
theorem Spl.out {p A B : Prop} (h : Spl p A B) [Decidable p] : if p then A else B := by
 split
 · rename_i hp; exact h.1 hp
 · rename_i hp; exact h.2 hp
theorem acmp_run {op : BinOp} {x y : Int} {K : AV → Prop} (h : acmp op x y K) (w : World) : ∃ b,K (.v (.bool b)) ∧ (Op.intCmp op x y).run P w = .ok (.bool b) w := by
 cases op <;> simp only [acmp] at h <;> first | (exact h.elim) | skip
 · obtain ⟨h1,h2⟩ := h
   by_cases e : x = y
   · exact ⟨true,h1 e,by simp [Op.intCmp,e]⟩
   · exact ⟨false,h2 e,by simp [Op.intCmp,e]⟩
 · obtain ⟨h1,h2⟩ := h
   by_cases e : x = y
   · exact ⟨false,h1 e,by simp [Op.intCmp,e]⟩
   · exact ⟨true,h2 e,by simp [Op.intCmp,e]⟩
 · obtain ⟨h1,h2⟩ := h
   by_cases e : x < y
   · exact ⟨true,h1 e,by simp [Op.intCmp,e]⟩
   · exact ⟨false,h2 e,by simp [Op.intCmp,e]⟩
 · obtain ⟨h1,h2⟩ := h
   by_cases e : x ≤ y
   · exact ⟨true,h1 e,by simp [Op.intCmp,e]⟩
   · exact ⟨false,h2 e,by simp [Op.intCmp,e]⟩
 · obtain ⟨h1,h2⟩ := h
   by_cases e : y < x
   · exact ⟨true,h1 e,by simp [Op.intCmp,e]⟩
   · exact ⟨false,h2 e,by simp [Op.intCmp,e]⟩
 · obtain ⟨h1,h2⟩ := h
   by_cases e : y ≤ x
   · exact ⟨true,h1 e,by simp [Op.intCmp,e]⟩
   · exact ⟨false,h2 e,by simp [Op.intCmp,e]⟩
theorem aint_run {t : TypeId} {op : BinOp} {k : IntKind} {x y : Int} {K : AV → Prop} (h : aint op k x y K) (w : World) : ∃ u,K (.v u) ∧ (binOp op t (.int k x) (.int k y)).run P w = .ok u w := by
 cases op <;> simp only [aint] at h
 case add => exact ⟨_,h.out,by simp [binOp,Op.intArith]⟩
 case sub => exact ⟨_,h.out,by simp [binOp,Op.intArith]⟩
 case mul => exact ⟨_,h.out,by simp [binOp,Op.intArith]⟩
 case quo =>
  cases h with
  | pos h0 h1 h =>
    have hy : y ≠ 0 := by omega
    exact ⟨_,h.out,by simp [binOp,Op.intDiv,hy,Int.tdiv_eq_ediv_of_nonneg h0]⟩
  | raw hy h => exact ⟨_,h.out,by simp [binOp,Op.intDiv,hy]⟩
 case rem =>
  cases h with
  | pos h0 h1 h =>
    have hy : y ≠ 0 := by omega
    exact ⟨_,h,by simp [binOp,Op.intDiv,hy,Int.tmod_eq_emod_of_nonneg h0]⟩
  | raw hy h => exact ⟨_,h,by simp [binOp,Op.intDiv,hy]⟩
 case and => exact ⟨_,h,by simp [binOp,Op.intBits]⟩
 case or => exact ⟨_,h,by simp [binOp,Op.intBits]⟩
 case xor => exact ⟨_,h,by simp [binOp,Op.intBits]⟩
 all_goals first
   | exact h.elim
   | (obtain ⟨b,hk,hr⟩ := acmp_run (P := P) h w; exact ⟨_,hk,by simp [binOp,hr]⟩)
theorem ashift_run {t : TypeId} {op : BinOp} {k k' : IntKind} {x y : Int} {K : AV → Prop} (hop : op = .shl ∨ op = .shr) (h : ashift op k x y K) (w : World) : ∃ u,K (.v u) ∧ (binOp op t (.int k x) (.int k' y)).run P w = .ok u w := by
 rcases hop with rfl | rfl
 · obtain ⟨hy,h⟩ := h
   exact ⟨_,h.out,by simp [binOp,Op.shift,Int.not_lt.2 hy]⟩
 · obtain ⟨hy,h⟩ := h
   exact ⟨_,h,by simp [binOp,Op.shift,Int.not_lt.2 hy]⟩
theorem toList_inj {a b : ByteArray} (h : a.toList = b.toList) : a = b := by
 rw [ByteArray.toList_eq,ByteArray.toList_eq] at h
 cases a; cases b
 congr
 exact Array.toList_inj.1 h
theorem astr_run {t : TypeId} {op : BinOp} {x y : ByteArray} {K : AV → Prop} (h : astr op x y K) (w : World) : ∃ u,K (.v u) ∧ (binOp op t (.string x) (.string y)).run P w = .ok u w := by
 cases op <;> simp only [astr] at h <;> first | (exact h.elim) | skip
 · obtain ⟨hs,h⟩ := h
   refine ⟨_,h,?_⟩
   have hm : ¬ (((x.size + y.size : Nat) : Int) > IntKind.i64.max) := by
    show ¬ (_ > (9223372036854775807 : Int))
    omega
   simp only [binOp,Op.stringOp,if_neg hm]
   rfl
 · obtain ⟨h1,h2⟩ := h
   by_cases e : x = y
   · exact ⟨_,h1 e,by simp [binOp,Op.stringOp,e]⟩
   · have e' : (x.toList == y.toList) = false := by rw [beq_eq_false_iff_ne]; exact fun hh => e (toList_inj hh)
     exact ⟨_,h2 e,by simp [binOp,Op.stringOp,e']⟩
 · obtain ⟨h1,h2⟩ := h
   by_cases e : x = y
   · exact ⟨_,h1 e,by simp [binOp,Op.stringOp,e]⟩
   · have e' : (x.toList == y.toList) = false := by rw [beq_eq_false_iff_ne]; exact fun hh => e (toList_inj hh)
     exact ⟨_,h2 e,by simp [binOp,Op.stringOp,e']⟩
 · obtain ⟨h1,h2⟩ := h
   cases e : Op.bytesLess x.toList y.toList with
   | true => exact ⟨_,h1 e,by simp [binOp,Op.stringOp,e]⟩
   | false => exact ⟨_,h2 (by simp [e]),by simp [binOp,Op.stringOp,e]⟩
 · obtain ⟨h1,h2⟩ := h
   have e' : (x.toList == y.toList) = decide (x = y) := by
    by_cases e : x = y
    · simp [e]
    · rw [decide_eq_false e,beq_eq_false_iff_ne]
      exact fun hh => e (toList_inj hh)
   cases e : Op.bytesLess x.toList y.toList || decide (x = y) with
   | true => exact ⟨_,h1 (by simpa using e),by simp only [binOp,Op.stringOp,e',e]; rfl⟩
   | false => exact ⟨_,h2 (by simpa using e),by simp only [binOp,Op.stringOp,e',e]; rfl⟩
 · obtain ⟨h1,h2⟩ := h
   have e' : (x.toList == y.toList) = decide (x = y) := by
    by_cases e : x = y
    · simp [e]
    · rw [decide_eq_false e,beq_eq_false_iff_ne]
      exact fun hh => e (toList_inj hh)
   cases e : Op.bytesLess x.toList y.toList || decide (x = y) with
   | true => exact ⟨_,h1 (by simpa using e),by simp only [binOp,Op.stringOp,e',e]; rfl⟩
   | false => exact ⟨_,h2 (by simpa using e),by simp only [binOp,Op.stringOp,e',e]; rfl⟩
 · obtain ⟨h1,h2⟩ := h
   cases e : Op.bytesLess x.toList y.toList with
   | true => exact ⟨_,h1 e,by simp [binOp,Op.stringOp,e]⟩
   | false => exact ⟨_,h2 (by simp [e]),by simp [binOp,Op.stringOp,e]⟩
theorem guard_plain {op : BinOp} {t : TypeId} {x y : Operand} {u v : Value} (hu : u.oneCell' = true) (hn : u ≠ .nilIface) (w : World) : (eqGuard op t x y u v).run P w = .ok () w := by
 unfold eqGuard
 cases op <;> cases u <;> first | (simp [Value.oneCell'] at hu; done) | (exact absurd rfl hn) | (cases v <;> simp)
theorem abin_run (hL : LayOk P L) {X : CX} {op : BinOp} {t : TypeId} {ox oy : Operand} {x y : AV} {xv yv : Value} (hx : C2 X x xv) (hy : C2 X y yv) {K : AV → Prop} (h : abin P L op t x y K) (w : World) :
  ∃ z u,K z ∧ C2 X z u ∧ (eqGuard op t ox oy xv yv).run P w = .ok () w ∧ (binOp op t xv yv).run P w = .ok u w := by
 unfold abin at h
 split at h
 · rename_i k a k' b
   obtain rfl := C2.inv_v hx
   obtain rfl := C2.inv_v hy
   have hg := guard_plain (P := P) (op := op) (t := t) (x := ox) (y := oy) (u := .int k a) (v := .int k' b) rfl (by simp) w
   split at h
   · obtain ⟨u,hk,hr⟩ := ashift_run (P := P) (t := t) (k' := k') (.inl rfl) h w
     exact ⟨_,u,hk,rfl,hg,hr⟩
   · obtain ⟨u,hk,hr⟩ := ashift_run (P := P) (t := t) (k' := k') (.inr rfl) h w
     exact ⟨_,u,hk,rfl,hg,hr⟩
   · by_cases e : k = k'
     · subst e
       simp only [decide_true,cond_true] at h
       obtain ⟨u,hk,hr⟩ := aint_run (P := P) (t := t) h w
       exact ⟨_,u,hk,rfl,hg,hr⟩
     · simp only [e,decide_false,cond_false] at h
 · rename_i a b
   obtain rfl := C2.inv_v hx
   obtain rfl := C2.inv_v hy
   obtain ⟨u,hk,hr⟩ := astr_run (P := P) (t := t) h w
   exact ⟨_,u,hk,rfl,guard_plain rfl (by simp) w,hr⟩
 · rename_i a b
   obtain rfl := C2.inv_v hx
   obtain rfl := C2.inv_v hy
   split at h
   · rename_i i hi
     obtain ⟨info,z,d,h1,h2,h3,h4,h5,h6,h7⟩ := fact_of hL hi
     split at h
     · rename_i hk
       rw [hk] at h7
       cases d <;> simp only [kindOf] at h7 <;> first | (cases h7; done) | skip
       exact ⟨_,_,h,rfl,guard_plain rfl (by simp) w,run_eql_bool w t a b h2⟩
     · rename_i hk
       rw [hk] at h7
       cases d <;> simp only [kindOf] at h7 <;> first | (cases h7; done) | skip
       exact ⟨_,_,h,rfl,guard_plain rfl (by simp) w,run_neq_bool w t a b h2⟩
     · exact h.elim
   · exact h.elim
 · rename_i cs ds
   obtain ⟨us,rfl,ha⟩ := C2.inv_agg hx
   obtain ⟨vs,rfl,hb⟩ := C2.inv_agg hy
   split at h
   · obtain ⟨us',vs',p,rfl,rfl,⟨hgt,hp⟩,hs⟩ := h
     obtain rfl := all_v ha
     obtain rfl := all_v hb
     obtain ⟨b,hbp,hr⟩ := hp w
     refine ⟨.v (.bool b), .bool b,?_,rfl,by simp [eqGuard,hgt],by simp [binOp,hr]⟩
     cases b with
     | true => exact hs.1 (hbp.1 rfl)
     | false => exact hs.2 (fun q => by cases hbp.2 q)
   · obtain ⟨us',vs',p,rfl,rfl,⟨hgt,hp⟩,hs⟩ := h
     obtain rfl := all_v ha
     obtain rfl := all_v hb
     obtain ⟨b,hbp,hr⟩ := hp w
     refine ⟨.v (.bool (!b)), .bool (!b),?_,rfl,by simp [eqGuard,hgt],by simp [binOp,hr]⟩
     cases b with
     | true => exact hs.1 (hbp.1 rfl)
     | false => exact hs.2 (fun q => by cases hbp.2 q)
   · exact h.elim
 · rename_i id off
   obtain ⟨b,hb,rfl⟩ : ∃ b,hdV (X.ρ id) = .pointer (some ⟨b,0,none⟩) ∧ xv = .pointer (some ⟨b,off,none⟩) := hx
   obtain rfl := C2.inv_v hy
   split at h
   · rename_i i hi
     obtain ⟨info,z,d,h1,h2,h3,h4,h5,h6,h7⟩ := fact_of hL hi
     have hg : (eqGuard op t ox oy (.pointer (some ⟨b,off,none⟩)) (.pointer none)).run P w = .ok () w := guard_plain rfl (by simp) w
     have he : ∀ e : TypeId,P.underlying t = some (.pointer e) → (Op.equal t (.pointer (some ⟨b,off,none⟩)) (.pointer none)).run P w = .ok false w := fun e he => by
      have h : ∀ d : Nat,(Op.equalIn (d + 1) t (.pointer (some ⟨b,off,none⟩)) (.pointer none)).run P w = .ok false w := fun d => by
       simp [Op.equalIn,run_underlying he]
      simp [Op.equal,Op.maxDepth,h 9999]
     split at h
     · rename_i e hk
       rw [hk] at h7
       cases d <;> simp only [kindOf] at h7 <;> first | (cases h7; done) | skip
       exact ⟨_,_,h,rfl,hg,by simp [binOp,he _ h2]⟩
     · rename_i e hk
       rw [hk] at h7
       cases d <;> simp only [kindOf] at h7 <;> first | (cases h7; done) | skip
       exact ⟨_,_,h,rfl,hg,by simp [binOp,he _ h2]⟩
     · exact h.elim
   · exact h.elim
 · obtain rfl := C2.inv_v hx
   obtain rfl := C2.inv_v hy
   split at h
   · rename_i i hi
     have hg : (eqGuard op t ox oy (.pointer none) (.pointer none)).run P w = .ok () w := guard_plain rfl (by simp) w
     obtain ⟨info,z,d,h1,h2,h3,h4,h5,h6,h7⟩ := fact_of hL hi
     have he : ∀ e : TypeId,P.underlying t = some (.pointer e) → (Op.equal t (.pointer none) (.pointer none)).run P w = .ok true w := fun e he => by
      have h : ∀ d : Nat,(Op.equalIn (d + 1) t (.pointer none) (.pointer none)).run P w = .ok true w := fun d => by
       simp [Op.equalIn,run_underlying he]
      simp [Op.equal,Op.maxDepth,h 9999]
     split at h
     · rename_i e hk
       rw [hk] at h7
       cases d <;> simp only [kindOf] at h7 <;> first | (cases h7; done) | skip
       exact ⟨_,_,h,rfl,hg,by simp [binOp,he _ h2]⟩
     · rename_i e hk
       rw [hk] at h7
       cases d <;> simp only [kindOf] at h7 <;> first | (cases h7; done) | skip
       exact ⟨_,_,h,rfl,hg,by simp [binOp,he _ h2]⟩
     · exact h.elim
   · exact h.elim
 · obtain rfl := C2.inv_v hx
   obtain rfl := C2.inv_v hy
   split at h
   · rename_i i hi
     have hg : (eqGuard op t ox oy (.slice none 0 0) (.slice none 0 0)).run P w = .ok () w := guard_plain rfl (by simp) w
     split at h
     · rename_i e hk
       exact ⟨_,_,h,rfl,hg,by simp [binOp,eq_nil (slice_of hL hi hk)]⟩
     · rename_i e hk
       exact ⟨_,_,h,rfl,hg,by simp [binOp,eq_nil (slice_of hL hi hk)]⟩
     · exact h.elim
   · exact h.elim
 · rename_i s n sc f
   obtain rfl := C2.inv_v hy
   cases C2.inv_sl hx with
   | sl s n sc f A c us hs hn hc hl hf hsc hu hr =>
   split at h
   · rename_i i hi
     have hg : (eqGuard op t ox oy (.slice A n c) (.slice none 0 0)).run P w = .ok () w := guard_plain rfl (by simp) w
     have hA : A = none → n = 0 := fun hA => by
      rcases hr with h | ⟨b,o,h,_⟩
      · exact h
      · rw [hA] at h; cases h
     split at h
     · rename_i e hk
       refine ⟨.v (.bool A.isNone),_,?_,rfl,hg,by simp [binOp,eq_nil (slice_of hL hi hk)]⟩
       cases A with
       | none => exact h.y (hA rfl)
       | some x => exact h.n
     · rename_i e hk
       refine ⟨.v (.bool (!A.isNone)),_,?_,rfl,hg,by simp [binOp,eq_nil (slice_of hL hi hk)]⟩
       cases A with
       | none => exact h.y (hA rfl)
       | some x => exact h.n
     · exact h.elim
   · exact h.elim
 · exact h.elim
where
 eq_nil {w : World} {t e : TypeId} {a : Option Addr} {n c : Nat} (h : P.underlying t = some (.slice e)) : (Op.equal t (.slice a n c) (.slice none 0 0)).run P w = .ok a.isNone w := by
  have h : ∀ d : Nat,(Op.equalIn (d + 1) t (.slice a n c) (.slice none 0 0)).run P w = .ok a.isNone w := fun d => by
   cases a <;> simp [Op.equalIn,run_underlying h]
  simp [Op.equal,Op.maxDepth,h 9999]
 all_v {X : CX} : ∀ {us vs : List Value},All2 (C0 X) (us.map .v) vs → vs = us
   | [],vs,h => by
     have := h.1
     simp at this
     exact List.eq_nil_of_length_eq_zero this.symm
   | u :: us,[],h => by have := h.1; simp at this
   | u :: us,v :: vs,h => by
     have h0 := h.2 0 _ _ rfl rfl
     have : vs = us := all_v ⟨by simpa using h.1,fun i x y hx hy => h.2 (i + 1) x y (by simpa using hx) (by simpa using hy)⟩
     rw [this,show v = u from h0]
theorem aun_run {X : CX} {op : UnOp} {x : AV} {xv : Value} (hx : C2 X x xv) {K : AV → Prop} (h : aun op x K) (w : World) : ∃ z u,K z ∧ C2 X z u ∧ (Op.unary op xv).run P w = .ok u w := by
 unfold aun at h
 split at h
 · obtain rfl := C2.inv_v hx
   exact ⟨_,_,h,rfl,rfl⟩
 · obtain rfl := C2.inv_v hx
   exact ⟨_,_,h.out,rfl,rfl⟩
 · obtain rfl := C2.inv_v hx
   exact ⟨_,_,h,rfl,rfl⟩
 · exact h.elim
theorem alen_run (hL : LayOk P L) (R : Rel g N bs ρ a w st) {t ty : TypeId} {x : AV} {xv : Value} (hx : C2 (cxOf g w ρ st.heap) x xv) {K : AV → Prop} (h : alen L st t x K) :
  ∃ z u,K z ∧ C2 (cxOf g w ρ st.heap) z u ∧ (Builtin.len_ #[t] ty #[xv]).run P w = .ok u w := by
 unfold alen at h
 split at h
 · exact h.elim
 · rename_i i hi
   split at h
   · rename_i b hk
     obtain rfl := C2.inv_v hx
     exact ⟨_,_,h,rfl,by simp [Builtin.len_,run_underlying (str_of hL hi hk),goInt]⟩
   · rename_i e n c hk
     obtain rfl := C2.inv_v hx
     exact ⟨_,_,h,rfl,by simp [Builtin.len_,run_underlying (slice_of hL hi hk),goInt]⟩
   · rename_i e s n sc f hk
     cases C2.inv_sl hx with
     | sl _ _ _ _ A c us hs0 hn hc hl hf hsc hu' hr =>
       exact ⟨_,_,h,rfl,by simp [Builtin.len_,run_underlying (slice_of hL hi hk),goInt]⟩
   · rename_i e id hk
     split at h
     · rename_i ee s n sc f hfo
       obtain ⟨us,hown,_⟩ := R.objs _ (findObj_mem hfo)
       have hown : w.ownsRow 0 ee s (ρ id) n us := hown
       have hxv : xv = ρ id := (C2.inv_own hx).trans (hdV_own hown)
       rcases hown.2 with ⟨hv,hz⟩ | ⟨b,cap,cur,hv,_⟩
       · rw [hxv,hv]
         exact ⟨_,_,h,rfl,by simp [Builtin.len_,run_underlying (slice_of hL hi hk),goInt,hz]⟩
       · rw [hxv,hv]
         exact ⟨_,_,h,rfl,by simp [Builtin.len_,run_underlying (slice_of hL hi hk),goInt]⟩
     · rename_i ee cs hfo
       obtain ⟨us,⟨hown,_⟩,_⟩ := R.objs _ (findObj_mem hfo)
       have hown : w.ownsRow 0 ee 1 (ρ id) cs.length us := hown
       have hxv : xv = ρ id := (C2.inv_own hx).trans (hdV_own hown)
       rcases hown.2 with ⟨hv,hz⟩ | ⟨b,cap,cur,hv,_⟩
       · rw [hxv,hv]
         exact ⟨_,_,h,rfl,by simp [Builtin.len_,run_underlying (slice_of hL hi hk),goInt,hz]⟩
       · rw [hxv,hv]
         exact ⟨_,_,h,rfl,by simp [Builtin.len_,run_underlying (slice_of hL hi hk),goInt]⟩
     · exact h.elim
   · rename_i hk
     rcases C2.inv_osl hx with ⟨b,c,_,_,rfl⟩ | ⟨rfl,A,c,rfl⟩ <;> exact ⟨_,_,h,rfl,by simp [Builtin.len_,run_underlying (slice_of hL hi hk),goInt]⟩
   · rename_i m e hk
     exact ⟨_,_,h,rfl,by simp [Builtin.len_,run_underlying (array_of hL hi hk),goInt]⟩
   · exact h.elim
theorem amin_run {X : CX} {x y : AV} {xv yv : Value} (hx : C2 X x xv) (hy : C2 X y yv) {K : AV → Prop} (h : amin x y K) (ts : Array TypeId) (ty : TypeId) (w : World) : ∃ z u,K z ∧ C2 X z u ∧ (Builtin.min_ ts ty #[xv,yv]).run P w = .ok u w := by
 unfold amin at h
 split at h
 · obtain rfl := C2.inv_v hx
   obtain rfl := C2.inv_v hy
   exact ⟨_,_,h,rfl,run_min_int2 w ts ty _ _ _ _⟩
 · exact h.elim
theorem amax_run {X : CX} {x y : AV} {xv yv : Value} (hx : C2 X x xv) (hy : C2 X y yv) {K : AV → Prop} (h : amax x y K) (ts : Array TypeId) (ty : TypeId) (w : World) : ∃ z u,K z ∧ C2 X z u ∧ (Builtin.max_ ts ty #[xv,yv]).run P w = .ok u w := by
 unfold amax at h
 split at h
 · obtain rfl := C2.inv_v hx
   obtain rfl := C2.inv_v hy
   exact ⟨_,_,h,rfl,run_max_int2 w ts ty _ _ _ _⟩
 · exact h.elim
theorem bytes_cells {R : AV → Value → Prop} (hR : ∀ y u,R (.v y) u → u = y) : ∀ {n : Nat} {f : Nat → List AV} {us : List Value} {bs : List UInt8},All2 R (flat n f) us → n = bs.length → (∀ i,i < n → f i = [.v (.int .u8 ((bs.getD i 0).toNat : Int))]) →
  ∀ (j : Nat) (hj : j < bs.length),us[j]? = some (.int .u8 (bs[j].toNat : Int))
  | 0,_,_,[],_,_,_,j,hj => by simp at hj
  | 0,_,_,b :: bs,_,hn,_,_,_ => by simp at hn
  | n + 1,f,us,[],_,hn,_,_,_ => by simp at hn
  | n + 1,f,us,b :: bs,ha,hn,hf,j,hj => by
    have e0 := hf 0 (by omega)
    have hfl : flat (n + 1) f = f 0 ++ flat n (fun i => f (i + 1)) := rfl
    rw [hfl,e0] at ha
    cases us with
    | nil => have := ha.1; simp at this
    | cons u us =>
      have h0 := hR _ _ (ha.2 0 _ _ rfl rfl)
      have ht : All2 R (flat n (fun i => f (i + 1))) us := ⟨by have h1 := ha.1; simp at h1; omega,fun i x y hx hy => ha.2 (i + 1) x y (by simpa using hx) (by simpa using hy)⟩
      cases j with
      | zero => simp [h0]
      | succ j =>
        have := bytes_cells hR (bs := bs) ht (by simpa using hn) (fun i hi => by have := hf (i + 1) (by omega); simpa using this) j (by simpa using hj)
        simpa using this
theorem aconvert_run (hL : LayOk P L) (R : Rel g N bs ρ a w st) {src dst : TypeId} {x : AV} {xv : Value} (hx : C2 (cxOf g w ρ st.heap) x xv) {K : AV → Prop} (h : aconvert L st src dst x K) :
  ∃ z u,K z ∧ C2 (cxOf g w ρ st.heap) z u ∧ (convert src dst xv).run P w = .ok u w := by
 unfold aconvert at h
 split at h
 · rename_i si di hsi hdi
   obtain ⟨info,z,d,h1,h2,h3,h4,h5,h6,h7⟩ := fact_of hL hsi
   split at h
   · rename_i k kk n hk
     obtain rfl := C2.inv_v hx
     exact ⟨_,_,h.out,rfl,by cases d <;> simp [convert,run_underlying h2,run_underlying (int_of hL hdi hk),Conv.intToInt]⟩
   · rename_i s hk
     obtain rfl := C2.inv_v hx
     exact ⟨_,_,h,rfl,by cases d <;> simp [convert,run_underlying h2,run_underlying (str_of hL hdi hk)]⟩
   · rename_i e s n sc f hsk hdk
     split at h
     · rename_i ei hei
       split at h
       · rename_i hek
         obtain ⟨bs,hn,hf,hk⟩ := h
         cases C2.inv_sl hx with
         | sl _ _ _ _ A c us hs0 hnc hc hl hfl hsc hu' hr =>
           refine ⟨_, .string ⟨bs.toArray⟩,hk,rfl,?_⟩
           subst hn
           have hall : All2 (PC w (keepOf g w ρ st.heap)) (flat bs.length f) us := ⟨by rw [hl]; exact aindexAddr_run.flat_length hfl,hu'⟩
           have hcells := bytes_cells (fun y u h => by cases h; rfl) hall rfl hf
           rcases hr with hz | ⟨b,o,rfl,kb,hcell⟩
           · have hb : bs = [] := List.eq_nil_of_length_eq_zero hz
             subst hb
             cases A with
             | none =>
               rw [show ([] : List UInt8).length = 0 from rfl,run_convert_bytes_string w _ _ _ none 0 c (slice_of hL hsi hsk) (int_of hL hei hek) (str_of hL hdi hdk)]
               rfl
             | some aa => exact run_convert_bytes_back w _ _ _ aa c [] (slice_of hL hsi hsk) (int_of hL hei hek) (str_of hL hdi hdk) (fun j hj => by simp at hj)
           · refine run_convert_bytes_back w _ _ _ ⟨b,o,none⟩ c bs (slice_of hL hsi hsk) (int_of hL hei hek) (str_of hL hdi hdk) (fun j hj => ?_)
             rw [Addr.add_lit]
             exact hcell j _ (hcells j hj)
       · exact h.elim
     · exact h.elim
   · rename_i e id hsk hdk
     split at h
     · rename_i ee s n sc f hfo
       split at h
       · rename_i ei hei
         split at h
         · rename_i hek
           obtain ⟨bs,hn,hf,hk⟩ := h
           refine ⟨_, .string ⟨bs.toArray⟩,hk,rfl,?_⟩
           obtain ⟨us,hown,hs0,hfl,hsc,ha⟩ := R.objs _ (findObj_mem hfo)
           have hown : w.ownsRow 0 ee s (ρ id) n us := hown
           have ha : All2 (PC w (keepOf g w ρ st.heap)) (flat n f) us := ha
           subst hn
           have hcells := bytes_cells (fun y u h => by cases h; rfl) ha rfl hf
           have hxv : xv = ρ id := (C2.inv_own hx).trans (hdV_own hown)
           rcases hown.2 with ⟨hv,hz⟩ | ⟨b,cap,cur,hv,_⟩
           · have hb : bs = [] := List.eq_nil_of_length_eq_zero hz
             subst hb
             rw [hxv,hv,run_convert_bytes_string w _ _ _ none 0 0 (slice_of hL hsi hsk) (int_of hL hei hek) (str_of hL hdi hdk)]
             rfl
           · rw [hxv,hv]
             refine run_convert_bytes_back w _ _ _ ⟨b,0,none⟩ cap bs (slice_of hL hsi hsk) (int_of hL hei hek) (str_of hL hdi hdk) (fun j hj => ?_)
             exact hown.cells (g := b) (by rw [hv]; rfl) j _ (hcells j hj)
         · exact h.elim
       · exact h.elim
     · exact h.elim
   · exact h.elim
 · exact h.elim
end
end Go.Proofs.YtimhagicagdkfaaGreat
namespace Go.Proofs.YtimhagicagdkfaaGreat
open Go.RowKit
def Rd (w : World) (B size : Nat) (A : Option Addr) (n : Nat) (xs : List Value) : Prop :=
 xs.length = n * size ∧ (0 < n → ∃ b o,A = some ⟨b,o,none⟩ ∧ b < B ∧ ∀ j u,xs[j]? = some u → w.cell? ⟨b,o + j,none⟩ = some u)
section
variable {w w' : World} {B B' size n : Nat} {A : Option Addr} {xs : List Value}
theorem Rd.nil : Rd w B size A 0 [] := ⟨by simp,fun h => absurd h (by omega)⟩
theorem Rd.keep (h : Rd w B size A n xs) (hk : ∀ p : Addr,p.block < B → w'.cell? p = w.cell? p) : Rd w' B size A n xs :=
 ⟨h.1,fun hn => let ⟨b,o,e,hb,hc⟩ := h.2 hn; ⟨b,o,e,hb,fun j u hu => (hk _ hb).trans (hc j u hu)⟩⟩
theorem Rd.more (h : Rd w B size A n xs) (hB : B ≤ B') : Rd w B' size A n xs :=
 ⟨h.1,fun hn => let ⟨b,o,e,hb,hc⟩ := h.2 hn; ⟨b,o,e,by omega,hc⟩⟩
theorem Rd.below (h : Rd w B size A n xs) (hb : Below B w w') : Rd w' B size A n xs := h.keep fun _ hp => hb.cell hp
theorem Rd.to (h : Rd w B size A n xs) (hb : Below B w w') (hB : B ≤ w'.heap.size) : Rd w' w'.heap.size size A n xs := (h.below hb).more hB
theorem Rd.drew (h : Rd w B size A n xs) : Rd w.drew B size A n xs := h
theorem Rd.alloc (h : Rd w B size A n xs) (hB : B ≤ w.heap.size) (o : Obj) : Rd (w.alloc o) B size A n xs := h.keep fun p hp => World.cell?_alloc_lt w o p (by omega)
theorem Rd.setCell (h : Rd w B size A n xs) {p : Addr} (hB : B ≤ p.block) (u : Value) : Rd (w.setCell p u) B size A n xs :=
 h.keep fun q hq => World.cell?_setCell_other w p q u (fun e => by subst e; omega)
theorem Rd.grown (h : Rd w B size A n xs) {row : Option Nat} (hg : w.grownBy w' row) (hB : B ≤ w.heap.size) (hr : ∀ g,row = some g → B ≤ g) : Rd w' B size A n xs :=
 h.keep fun p hp => World.cell?_of_block (hg.block p.block (by omega) (fun e => by have := hr _ e.symm; omega))
theorem Rd.cut (h : Rd w B size A n xs) {k cap : Nat} (hk : k ≤ n) (hc : n ≤ cap) :
  Rd w B size (if cap = k then A else A.map (·.add (k * size))) (n - k) (xs.drop (k * size)) := by
 refine ⟨by rw [List.length_drop,h.1,Nat.sub_mul],fun hn => ?_⟩
 obtain ⟨b,o,rfl,hb,hcell⟩ := h.2 (by omega)
 rw [if_neg (by omega)]
 refine ⟨b,o + k * size,by simp [Addr.add_lit],hb,fun j u hu => ?_⟩
 rw [Nat.add_assoc]
 exact hcell _ u (by rw [← hu,List.getElem?_drop])
theorem Rd.first (h : Rd w B size A n xs) {k : Nat} (hk : k ≤ n) : Rd w B size A k (xs.take (k * size)) := by
 refine ⟨by rw [List.length_take,h.1]; exact Nat.min_eq_left (Nat.mul_le_mul_right _ hk),fun hn => ?_⟩
 obtain ⟨b,o,e,hb,hcell⟩ := h.2 (by omega)
 refine ⟨b,o,e,hb,fun j u hu => hcell j u ?_⟩
 rw [List.getElem?_take] at hu
 split at hu
 · exact hu
 · cases hu
theorem Rd.at1 {k : Nat} (h : Rd w B 1 A n xs) (hk : k < n) : ∃ b o,∃ hl : k < xs.length,A = some ⟨b,o,none⟩ ∧ b < B ∧ w.cell? ⟨b,o + k,none⟩ = some xs[k] := by
 obtain ⟨b,o,e,hb,hc⟩ := h.2 (by omega)
 have hl : k < xs.length := by have := h.1; omega
 exact ⟨b,o,hl,e,hb,hc k _ (List.getElem?_eq_getElem hl)⟩
end
theorem setCells_heap (b : Nat) (t : TypeId) : ∀ (vs : List Value) (o : Nat) (w : World) (cur : Array Value),w.heap[b]? = some (.cells cur t (0,0)) → o + vs.length ≤ cur.size →
  (w.setCells b o vs).heap[b]? = some (.cells (cur.toList.take o ++ vs ++ cur.toList.drop (o + vs.length)).toArray t (0,0))
  | [],o,w,cur,h,_ => by simpa [World.setCells] using h
  | v :: r,o,w,cur,h,hl => by
    have h1 : (w.setCell ⟨b,o,none⟩ v).heap[b]? = some (.cells (cur.setIfInBounds o v) t (0,0)) := heap_setCell_same w b o cur t v h
    rw [World.setCells,setCells_heap b t r (o + 1) _ _ h1 (by simp at hl ⊢; omega)]
    have e := list_seg_step cur.toList o v r (by simp at hl ⊢; omega)
    simp only [Array.toList_setIfInBounds]
    rw [e]
    rfl
theorem setCells_other (b : Nat) : ∀ (vs : List Value) (o : Nat) (w : World) (k : Nat),k ≠ b → (w.setCells b o vs).heap[k]? = w.heap[k]?
  | [],_,_,_,_ => rfl
  | v :: r,o,w,k,hk => by rw [World.setCells,setCells_other b r (o + 1) _ k hk,Below.heap_setCell _ _ _ _ hk]
theorem setCells_meta (b : Nat) : ∀ (vs : List Value) (o : Nat) (w : World),(w.setCells b o vs).os = w.os ∧ (w.setCells b o vs).tape = w.tape ∧ (w.setCells b o vs).output = w.output ∧ (w.setCells b o vs).heap.size = w.heap.size
  | [],_,_ => ⟨rfl,rfl,rfl,rfl⟩
  | v :: r,o,w => by
    obtain ⟨h1,h2,h3,h4⟩ := setCells_meta b r (o + 1) (w.setCell ⟨b,o,none⟩ v)
    exact ⟨h1,h2,h3,h4.trans (by simp [World.setCell])⟩
section
variable {P : Program} (w : World)
theorem run_append_any (base : Nat) (t tx ty e : TypeId) (i : TypeInfo) (z : Value) (size bytes : Nat) (ht : P.underlying t = some (.slice e)) (hi : P.info? e = some i) (hz : i.zero = some z)
  (hsize : i.size = size) (hby : i.bytes = bytes) (hzs : z.cells.size = size)
  (v : Value) (n : Nat) (xs : List Value) (hown : w.ownsRow base e size v n xs)
  (X : Value) (m : Nat) (news : List Value) (hsrc : Src P size tx X m news w)
  (h63 : n + m ≤ maxLen) (hbytes : (n + m) * bytes ≤ 140737488355328) (hbase : base ≤ w.heap.size) :
  ∃ v' w',(Builtin.append_ #[t,tx] ty #[v,X]).run P w = .ok v' w' ∧ w'.ownsRow base e size v' (n + m) (xs ++ news) ∧ w.grownBy w' v.ownBlock ∧
   (v'.ownBlock = v.ownBlock ∨ v'.ownBlock = some w.heap.size) := by
 subst hsize
 subst hby
 have hsmall : n + m ≤ 9223372036854775807 := by simp only [maxLen] at h63; omega
 have hlen : (xs ++ news).length = (n + m) * i.size := by rw [List.length_append,hown.1,hsrc.newsLen,Nat.add_mul]
 have grown : ∀ (old : Nat),old < n + m → ∀ (row : Option Nat),
   (w.drew.alloc (.cells ((xs ++ news).toArray ++ Builtin.zeroCells z.cells (grownCap w (n + m) old e - (n + m))) e)).ownsRow base e i.size
    (.slice (some ⟨w.heap.size,0,none⟩) (n + m) (grownCap w (n + m) old e)) (n + m) (xs ++ news) ∧
   w.grownBy (w.drew.alloc (.cells ((xs ++ news).toArray ++ Builtin.zeroCells z.cells (grownCap w (n + m) old e - (n + m))) e)) row := by
  intro old ho row
  have hge := grownCap_ge w (n + m) old e
  have hcm : grownCap w (n + m) old e ≤ maxLen := grownCap_le_maxLen w (n + m) old e h63
  refine ⟨⟨hlen, .inr ⟨w.heap.size,_,_,rfl,hbase,heap_alloc_new w.drew _,hge,hcm,?_,?_⟩⟩,⟨rfl,rfl,rfl,by simp,fun k hk _ => Below.heap_alloc w.drew _ k hk⟩⟩
  · simp only [Array.size_append,List.size_toArray,size_zeroCells,hzs,hlen,← Nat.add_mul]
    congr 1
    omega
  · simp only [Array.toList_append]
    rw [← hlen]
    exact List.take_left
 rcases hown.2 with ⟨rfl,rfl⟩ | ⟨g,cap,cur,rfl,hbg,hg,hnc,hcm,hcs,htake⟩
 · have hx : xs = [] := List.eq_nil_of_length_eq_zero (by simpa using hown.1)
   subst hx
   by_cases hm : m = 0
   · subst hm
     have hn : news = [] := List.eq_nil_of_length_eq_zero (by simpa using hsrc.newsLen)
     subst hn
     refine ⟨.slice none 0 0,w,?_,World.ownsRow_nil w base e i.size,⟨rfl,rfl,rfl,Nat.le_refl _,fun _ _ _ => rfl⟩, .inl rfl⟩
     rcases hsrc.kind with ⟨e',hk⟩ | hk <;> simp [Builtin.append_,run_underlying ht,run_underlying hk,sizeOf,typeInfo,hi,hsrc.len,hsrc.cells]
   · have hr := run_append_grow_src (P := P) w t tx ty e i z ht hi hz none 0 0 [] (by simp [Builtin.firstCells]) X m news hsrc (by omega) (by omega) (growslice_fits (by omega) hbytes)
     have hgr := grown 0 (by omega) (Value.ownBlock (.slice none 0 0))
     simp only [Nat.zero_add,List.nil_append] at hgr hr ⊢
     exact ⟨_,_,hr,hgr.1,hgr.2, .inr rfl⟩
 · by_cases hroom : n + m ≤ cap
   · have hfit : n * i.size + news.length ≤ cur.size := by rw [hsrc.newsLen,hcs,← Nat.add_mul]; exact Nat.mul_le_mul_right _ hroom
     have hr := run_append_room_src (P := P) w t tx ty e i ht hi g 0 n cap X m news hsrc hroom
      (fun j hj => by rw [cell_of_row w g _ cur e (0,0) hg,Array.getElem?_eq_getElem (by omega)]; rfl) (fun j hj => frozen_of_row w g _ cur e hg)
     obtain ⟨m1,m2,m3,m4⟩ := setCells_meta g news (0 + n * i.size) w
     refine ⟨_,_,hr,⟨hlen, .inr ⟨g,cap,_,rfl,hbg,setCells_heap g e news (0 + n * i.size) w cur hg (by omega),hroom,hcm,?_,?_⟩⟩,⟨m1,m2,m3,by omega,fun k _ hk => setCells_other g news _ w k (fun e => hk (by simp [Value.ownBlock,e]))⟩, .inl rfl⟩
     · simp only [List.size_toArray,List.length_append,List.length_take,List.length_drop,Array.length_toList]
       omega
     · rw [Nat.zero_add,htake,← hlen]
       exact List.take_left
   · have holds : ∀ j u,xs[j]? = some u → w.cell? ((⟨g,0,none⟩ : Addr).add j) = some u := hown.cells (g := g) rfl
     have hf := run_firstCells_some (P := P) w.drew i.size n ⟨g,0,none⟩ n cap xs hown.1 (by simpa using holds)
     have hr := run_append_grow_src (P := P) w t tx ty e i z ht hi hz (some ⟨g,0,none⟩) n cap xs hf X m news hsrc (by omega) (by omega) (growslice_fits (by omega) hbytes)
     have hgr := grown cap (by omega) (Value.ownBlock (.slice (some ⟨g,0,none⟩) n cap))
     exact ⟨_,_,hr,hgr.1,hgr.2, .inr rfl⟩
theorem Rd.src {B size n c : Nat} {A : Option Addr} {xs : List Value} {tx e' : TypeId} {w : World} (h : Rd w B size A n xs) (hk : P.underlying tx = some (.slice e')) (h1 : ∀ u ∈ xs,u.oneCell' = true) : Src P size tx (.slice A n c) n xs w := by
 rcases Nat.eq_zero_or_pos n with rfl | hn
 · have hx : xs = [] := List.eq_nil_of_length_eq_zero (by simpa using h.1)
   subst hx
   cases A with
   | none => exact Src.ofNil w hk c
   | some a => exact Src.ofSlice w hk a 0 c [] (by simp) (by simp) h1
 · obtain ⟨b,o,rfl,_,hc⟩ := h.2 hn
   exact Src.ofSlice w hk ⟨b,o,none⟩ n c xs h.1 (fun j u hu => by rw [Addr.add_lit]; exact hc j u hu) h1
end
theorem ret_int {k : IntKind} {a b : Int} (h : a = b) : Ending.returned (.int k a) = .returned (.int k b) := by rw [h]
def bV (b : UInt8) : Value := .int .u8 b.toNat
end Go.Proofs.YtimhagicagdkfaaGreat
