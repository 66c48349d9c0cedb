/-
  An abstract machine for the walk, over any program: values that say what they read as (a slice by its cells, a local variable by its name), a small heap of the call's own objects, and what it means that the model's frame and memory are like that.
-/
import Derived.WalkKit
import Derived.Deep.AppendSrc
import Derived.Lib.Hide
namespace Go.Proofs.Ytbmojelnkldecaa
open Go.RowKit

/-- An abstract value. -/
inductive AV : Type where
  | v (x : Value)
  | agg (cs : List AV)
  | tup (vs : List AV)
  | sl (s n : Nat) (sc : Bool) (f : Nat → List AV)
  | own (id : Nat)
  | eown (id s i k : Nat)
  | box (id off : Nat)
  | el (cs : List AV) (k : Nat)
  | fn (g : FuncId) (caps : List AV)
  | junk

def flat : Nat → (Nat → List AV) → List AV
  | 0, _ => []
  | n + 1, f => f 0 ++ flat n (fun i => f (i + 1))

/-- An object of the call's own: a variable, or a slice's row. -/
inductive AO : Type where
  | box (t : TypeId) (cs : List AV)
  | row (e : TypeId) (s n : Nat) (sc : Bool) (f : Nat → List AV)

/-- A frame of which some slots are known. -/
def ofL : List (Nat × AV) → Nat → AV
  | [], _ => .junk
  | p :: l, t => bif Nat.beq t p.1 then p.2 else ofL l t
def mapS (m : AV → AV) : List (Nat × AV) → List (Nat × AV)
  | [] => []
  | (k, v) :: l => (k, m v) :: mapS m l
theorem ofL_mapS {m : AV → AV} (hm : m .junk = .junk) : ∀ (l : List (Nat × AV)) (t : Nat), ofL (mapS m l) t = m (ofL l t)
  | [], _ => hm.symm
  | (k, v) :: l, t => by
    simp only [mapS, ofL]
    cases Nat.beq t k with
    | true => rfl
    | false => exact ofL_mapS hm l t

/-- A state: the frame, the objects, the frames of those who wait, where the names of new objects begin. -/
structure AS where
  sl : List (Nat × AV)
  heap : List (Nat × AO)
  back : List (List (Nat × AV))
  base : Nat
def AS.tmps (st : AS) : Nat → AV := ofL st.sl

structure CX where
  w : World
  keep : Nat → Prop
  ρ : Nat → Value

/-- What a slice of the call's surroundings, or a plain value, reads as. -/
inductive PC (w : World) (keep : Nat → Prop) : AV → Value → Prop where
  | v (x : Value) (h : x.oneCell' = true) : PC w keep (.v x) x
  | sl (s n : Nat) (sc : Bool) (f : Nat → List AV) (A : Option Addr) (c : Nat) (us : List Value) (hs : 0 < s) (hn : n ≤ c) (hc : c ≤ maxLen) (hl : us.length = n * s) (hf : ∀ i, i < n → (f i).length = s) (hsc : sc = true → ∀ x ∈ flat n f, ∃ y, x = .v y)
      (hu : ∀ (i : Nat) (x : AV) (u : Value), (flat n f)[i]? = some x → us[i]? = some u → PC w keep x u)
      (hr : n = 0 ∨ ∃ b o, A = some ⟨b, o, none⟩ ∧ keep b ∧ ∀ (j : Nat) (u : Value), us[j]? = some u → w.cell? ⟨b, o + j, none⟩ = some u) : PC w keep (.sl s n sc f) (.slice A n c)

def All2 (R : AV → Value → Prop) (xs : List AV) (us : List Value) : Prop := xs.length = us.length ∧ ∀ (i : Nat) (x : AV) (u : Value), xs[i]? = some x → us[i]? = some u → R x u

/-- A cell of a variable. -/
def C0 (X : CX) : AV → Value → Prop
  | .own id, u => u = X.ρ id
  | .eown id s i k, u => ∃ b n c, X.ρ id = .slice (some ⟨b, 0, none⟩) n c ∧ u = .pointer (some ⟨b, i * s + k, none⟩)
  | .box id off, u => ∃ b, X.ρ id = .pointer (some ⟨b, 0, none⟩) ∧ u = .pointer (some ⟨b, off, none⟩)
  | .el cs k, u => ∃ b o us, u = .pointer (some ⟨b, o + k, none⟩) ∧ X.keep b ∧ All2 (PC X.w X.keep) cs us ∧ ∀ (j : Nat) (y : Value), us[j]? = some y → X.w.cell? ⟨b, o + j, none⟩ = some y
  | .junk, _ => True
  | .v x, u => u = x
  | .sl s n sc f, u => PC X.w X.keep (.sl s n sc f) u
  | .agg _, _ => False
  | .tup _, _ => False
  | .fn _ _, _ => False

def C1 (X : CX) : AV → Value → Prop
  | .agg cs, u => ∃ us, u = .agg us.toArray ∧ All2 (C0 X) cs us
  | .fn g caps, u => ∃ us, u = .func (.func g) #[] us.toArray ∧ All2 (C0 X) caps us
  | av, u => C0 X av u

def C2 (X : CX) : AV → Value → Prop
  | .tup vs, u => ∃ us, u = .tuple us.toArray ∧ All2 (C1 X) vs us
  | av, u => C1 X av u

def scrub0 (d : Nat) : AV → AV
  | .v x => .v x
  | .agg cs => .agg cs
  | .tup vs => .tup vs
  | .sl s n sc f => .sl s n sc f
  | .own id => bif Nat.beq id d then .junk else .own id
  | .eown id s i k => bif Nat.beq id d then .junk else .eown id s i k
  | .box id off => bif Nat.beq id d then .junk else .box id off
  | .el cs k => .el cs k
  | .fn g cs => .fn g cs
  | .junk => .junk

def scrub1 (d : Nat) : AV → AV
  | .v x => .v x
  | .agg cs => .agg (cs.map (scrub0 d))
  | .tup vs => .tup vs
  | .sl s n sc f => .sl s n sc f
  | .own id => bif Nat.beq id d then .junk else .own id
  | .eown id s i k => bif Nat.beq id d then .junk else .eown id s i k
  | .box id off => bif Nat.beq id d then .junk else .box id off
  | .el cs k => .el cs k
  | .fn g cs => .fn g (cs.map (scrub0 d))
  | .junk => .junk

def scrub2 (d : Nat) : AV → AV
  | .v x => .v x
  | .agg cs => .agg (cs.map (scrub0 d))
  | .tup vs => .tup (vs.map (scrub1 d))
  | .sl s n sc f => .sl s n sc f
  | .own id => bif Nat.beq id d then .junk else .own id
  | .eown id s i k => bif Nat.beq id d then .junk else .eown id s i k
  | .box id off => bif Nat.beq id d then .junk else .box id off
  | .el cs k => .el cs k
  | .fn g cs => .fn g (cs.map (scrub0 d))
  | .junk => .junk

def AO.scrub (d : Nat) : AO → AO
  | .box t cs => .box t (cs.map (scrub0 d))
  | .row e s n sc f => .row e s n sc f

/-- From one memory to a later one, the object d made anew. -/
structure Ext (d : Nat) (X Y : CX) : Prop where
  keep : ∀ b, X.keep b → Y.keep b
  mem : ∀ b, X.keep b → Y.w.heap[b]? = X.w.heap[b]?
  ρ : ∀ i, i ≠ d → Y.ρ i = X.ρ i

theorem PC.mono {w w' : World} {k k' : Nat → Prop} (hk : ∀ b, k b → k' b) (hm : ∀ b, k b → w'.heap[b]? = w.heap[b]?) {av : AV} {u : Value} (h : PC w k av u) : PC w' k' av u := by
  induction h with
  | v x h => exact .v x h
  | sl s n sc f A c us hs hn hc hl hf hsc hu hr ih =>
    refine .sl s n sc f A c us hs hn hc hl hf hsc ih ?_
    rcases hr with h0 | ⟨b, o, e, kb, hcell⟩
    · exact .inl h0
    · exact .inr ⟨b, o, e, hk b kb, fun j u hj => (World.cell?_of_block (hm b kb)).trans (hcell j u hj)⟩

theorem All2.imp {R S : AV → Value → Prop} {xs : List AV} {us : List Value} (h : All2 R xs us) (hi : ∀ x u, R x u → S x u) : All2 S xs us := ⟨h.1, fun i x u hx hu => hi x u (h.2 i x u hx hu)⟩
theorem All2.mapl {R S : AV → Value → Prop} {g : AV → AV} {xs : List AV} {us : List Value} (h : All2 R xs us) (hi : ∀ x u, R x u → S (g x) u) : All2 S (xs.map g) us := by
  refine ⟨by simpa using h.1, fun i x u hx hu => ?_⟩
  rw [List.getElem?_map] at hx
  cases hx' : xs[i]? with
  | none => rw [hx'] at hx; cases hx
  | some y => rw [hx'] at hx; cases hx; exact hi y u (h.2 i y u hx' hu)
theorem All2.nil {R : AV → Value → Prop} : All2 R [] [] := ⟨rfl, fun i x u h => by simp at h⟩
theorem All2.cons {R : AV → Value → Prop} {x : AV} {u : Value} {xs : List AV} {us : List Value} (h0 : R x u) (h : All2 R xs us) : All2 R (x :: xs) (u :: us) := by
  refine ⟨by simpa using h.1, fun i y z hy hz => ?_⟩
  cases i with
  | zero => simp at hy hz; subst hy hz; exact h0
  | succ i => exact h.2 i y z (by simpa using hy) (by simpa using hz)
theorem All2.app {R : AV → Value → Prop} {xs ys : List AV} {us vs : List Value} (h : All2 R xs us) (k : All2 R ys vs) : All2 R (xs ++ ys) (us ++ vs) := by
  refine ⟨by simp [h.1, k.1], fun i y z hy hz => ?_⟩
  by_cases hi : i < xs.length
  · rw [List.getElem?_append_left hi] at hy
    rw [List.getElem?_append_left (by rw [← h.1]; exact hi)] at hz
    exact h.2 i y z hy hz
  · rw [List.getElem?_append_right (by omega)] at hy
    rw [List.getElem?_append_right (by rw [← h.1]; omega), ← h.1] at hz
    exact k.2 _ y z hy hz
theorem All2.drop {R : AV → Value → Prop} {xs : List AV} {us : List Value} (h : All2 R xs us) (k : Nat) : All2 R (xs.drop k) (us.drop k) :=
  ⟨by simp [h.1], fun i x u hx hu => h.2 (k + i) x u (by simpa using hx) (by simpa using hu)⟩
theorem All2.take {R : AV → Value → Prop} {xs : List AV} {us : List Value} (h : All2 R xs us) (k : Nat) : All2 R (xs.take k) (us.take k) := by
  refine ⟨by simp [h.1], fun i x u hx hu => ?_⟩
  rw [List.getElem?_take] at hx hu
  split at hx
  · rename_i hi; rw [if_pos hi] at hu; exact h.2 i x u hx hu
  · cases hx
theorem All2.get {R : AV → Value → Prop} {xs : List AV} {us : List Value} (h : All2 R xs us) {i : Nat} {x : AV} (hx : xs[i]? = some x) : ∃ u, us[i]? = some u ∧ R x u := by
  have hi : i < xs.length := by
    rcases Nat.lt_or_ge i xs.length with h' | h'
    · exact h'
    · rw [List.getElem?_eq_none h'] at hx; cases hx
  have hu : us[i]? = some (us[i]'(by rw [← h.1]; exact hi)) := List.getElem?_eq_getElem _
  exact ⟨_, hu, h.2 i x _ hx hu⟩
theorem All2.set {R : AV → Value → Prop} {xs : List AV} {us : List Value} (h : All2 R xs us) (i : Nat) {x : AV} {u : Value} (hr : R x u) : All2 R (xs.set i x) (us.set i u) := by
  refine ⟨by simp [h.1], fun j y z hy hz => ?_⟩
  rw [List.getElem?_set] at hy hz
  by_cases e : i = j
  · subst e
    simp only [if_true] at hy hz
    split at hy
    · rename_i hlt; rw [if_pos (by rw [← h.1]; exact hlt)] at hz; cases hy; cases hz; exact hr
    · cases hy
  · rw [if_neg e] at hy hz
    exact h.2 j y z hy hz

section
variable {d : Nat} {X Y : CX}

theorem beq_false {i d : Nat} (h : i ≠ d) : Nat.beq i d = false := by
  rw [Bool.eq_false_iff]; intro e; exact h (Nat.eq_of_beq_eq_true e)

theorem C0.ext (hE : Ext d X Y) {av : AV} {u : Value} (h : C0 X av u) : C0 Y (scrub0 d av) u := by
  cases av with
  | own id =>
    by_cases e : id = d
    · subst e; simp [scrub0, C0]
    · simp only [scrub0, beq_false e, cond_false, C0] at h ⊢
      rw [hE.ρ id e]; exact h
  | eown id s i k =>
    by_cases e : id = d
    · subst e; simp [scrub0, C0]
    · simp only [scrub0, beq_false e, cond_false, C0] at h ⊢
      rw [hE.ρ id e]; exact h
  | box id off =>
    by_cases e : id = d
    · subst e; simp [scrub0, C0]
    · simp only [scrub0, beq_false e, cond_false, C0] at h ⊢
      rw [hE.ρ id e]; exact h
  | el cs k =>
    obtain ⟨b, o, us, e, kb, ha, hc⟩ := h
    exact ⟨b, o, us, e, hE.keep b kb, ha.imp (fun _ _ => PC.mono hE.keep hE.mem), fun j y hj => (World.cell?_of_block (hE.mem b kb)).trans (hc j y hj)⟩
  | sl s n sc f => exact PC.mono hE.keep hE.mem h
  | v x => exact h
  | junk => trivial
  | agg cs => exact h
  | tup cs => exact h
  | fn g caps => exact h

theorem C1.ext (hE : Ext d X Y) {av : AV} {u : Value} (h : C1 X av u) : C1 Y (scrub1 d av) u := by
  cases av with
  | agg cs => obtain ⟨us, e, ha⟩ := h; exact ⟨us, e, ha.mapl fun _ _ => C0.ext hE⟩
  | fn g cs => obtain ⟨us, e, ha⟩ := h; exact ⟨us, e, ha.mapl fun _ _ => C0.ext hE⟩
  | own id =>
    have := C0.ext hE (av := .own id) h
    show C1 Y (scrub0 d (.own id)) u
    revert this
    simp only [scrub0]
    cases Nat.beq id d <;> exact fun h => h
  | eown id s i k =>
    have := C0.ext hE (av := .eown id s i k) h
    show C1 Y (scrub0 d (.eown id s i k)) u
    revert this
    simp only [scrub0]
    cases Nat.beq id d <;> exact fun h => h
  | box id off =>
    have := C0.ext hE (av := .box id off) h
    show C1 Y (scrub0 d (.box id off)) u
    revert this
    simp only [scrub0]
    cases Nat.beq id d <;> exact fun h => h
  | el cs k => exact C0.ext hE (av := .el cs k) h
  | sl s n sc f => exact C0.ext hE (av := .sl s n sc f) h
  | v x => exact h
  | junk => trivial
  | tup cs => exact h

theorem C2.ext (hE : Ext d X Y) {av : AV} {u : Value} (h : C2 X av u) : C2 Y (scrub2 d av) u := by
  cases av with
  | tup vs => obtain ⟨us, e, ha⟩ := h; exact ⟨us, e, ha.mapl fun _ _ => C1.ext hE⟩
  | agg cs => exact C1.ext hE (av := .agg cs) h
  | fn g cs => exact C1.ext hE (av := .fn g cs) h
  | own id =>
    have := C1.ext hE (av := .own id) h
    show C2 Y (scrub0 d (.own id)) u
    have h2 : C1 Y (scrub0 d (.own id)) u := this
    revert h2
    simp only [scrub0]
    cases Nat.beq id d <;> exact fun h => h
  | eown id s i k =>
    have h2 : C1 Y (scrub0 d (.eown id s i k)) u := C1.ext hE (av := .eown id s i k) h
    show C2 Y (scrub0 d (.eown id s i k)) u
    revert h2
    simp only [scrub0]
    cases Nat.beq id d <;> exact fun h => h
  | box id off =>
    have h2 : C1 Y (scrub0 d (.box id off)) u := C1.ext hE (av := .box id off) h
    show C2 Y (scrub0 d (.box id off)) u
    revert h2
    simp only [scrub0]
    cases Nat.beq id d <;> exact fun h => h
  | el cs k => exact C1.ext hE (av := .el cs k) h
  | sl s n sc f => exact C1.ext hE (av := .sl s n sc f) h
  | v x => exact h
  | junk => trivial

theorem C0.same (hk : ∀ b, X.keep b → Y.keep b) (hm : ∀ b, X.keep b → Y.w.heap[b]? = X.w.heap[b]?) (hρ : Y.ρ = X.ρ) {av : AV} {u : Value} (h : C0 X av u) : C0 Y av u := by
  cases av with
  | own id => simp only [C0] at h ⊢; rw [hρ]; exact h
  | eown id s i k => simp only [C0] at h ⊢; rw [hρ]; exact h
  | box id off => simp only [C0] at h ⊢; rw [hρ]; exact h
  | el cs k =>
    obtain ⟨b, o, us, e, kb, ha, hc⟩ := h
    exact ⟨b, o, us, e, hk b kb, ha.imp (fun _ _ => PC.mono hk hm), fun j y hj => (World.cell?_of_block (hm b kb)).trans (hc j y hj)⟩
  | sl s n sc f => exact PC.mono hk hm h
  | v x => exact h
  | junk => trivial
  | agg cs => exact h
  | tup cs => exact h
  | fn g caps => exact h

theorem C1.same (hk : ∀ b, X.keep b → Y.keep b) (hm : ∀ b, X.keep b → Y.w.heap[b]? = X.w.heap[b]?) (hρ : Y.ρ = X.ρ) {av : AV} {u : Value} (h : C1 X av u) : C1 Y av u := by
  cases av with
  | agg cs => obtain ⟨us, e, ha⟩ := h; exact ⟨us, e, ha.imp fun _ _ => C0.same hk hm hρ⟩
  | fn g cs => obtain ⟨us, e, ha⟩ := h; exact ⟨us, e, ha.imp fun _ _ => C0.same hk hm hρ⟩
  | own id => exact C0.same hk hm hρ (av := .own id) h
  | eown id s i k => exact C0.same hk hm hρ (av := .eown id s i k) h
  | box id off => exact C0.same hk hm hρ (av := .box id off) h
  | el cs k => exact C0.same hk hm hρ (av := .el cs k) h
  | sl s n sc f => exact C0.same hk hm hρ (av := .sl s n sc f) h
  | v x => exact h
  | junk => trivial
  | tup cs => exact h

theorem C2.same (hk : ∀ b, X.keep b → Y.keep b) (hm : ∀ b, X.keep b → Y.w.heap[b]? = X.w.heap[b]?) (hρ : Y.ρ = X.ρ) {av : AV} {u : Value} (h : C2 X av u) : C2 Y av u := by
  cases av with
  | tup vs => obtain ⟨us, e, ha⟩ := h; exact ⟨us, e, ha.imp fun _ _ => C1.same hk hm hρ⟩
  | agg cs => exact C1.same hk hm hρ (av := .agg cs) h
  | fn g cs => exact C1.same hk hm hρ (av := .fn g cs) h
  | own id => exact C1.same hk hm hρ (av := .own id) h
  | eown id s i k => exact C1.same hk hm hρ (av := .eown id s i k) h
  | box id off => exact C1.same hk hm hρ (av := .box id off) h
  | el cs k => exact C1.same hk hm hρ (av := .el cs k) h
  | sl s n sc f => exact C1.same hk hm hρ (av := .sl s n sc f) h
  | v x => exact h
  | junk => trivial
end

theorem C2.of0 {X : CX} {av : AV} {u : Value} (h : C0 X av u) : C2 X av u := by
  cases av <;> first | exact h | exact h.elim
theorem C2.of1 {X : CX} {av : AV} {u : Value} (h : C1 X av u) : C2 X av u := by
  cases av <;> first | exact h | exact (show False from h).elim
theorem C1.of0 {X : CX} {av : AV} {u : Value} (h : C0 X av u) : C1 X av u := by
  cases av <;> first | exact h | exact h.elim
theorem C0.ofPC {X : CX} {av : AV} {u : Value} (h : PC X.w X.keep av u) : C0 X av u := by
  cases h with
  | v x h => rfl
  | sl s n sc f A c us hs hn hc hl hf hsc hu hr => exact .sl s n sc f A c us hs hn hc hl hf hsc hu hr

/-- The blocks of the call's own objects. -/
def blk : Value → Option Nat
  | .pointer (some a) => some a.block
  | .slice (some a) _ _ => some a.block
  | _ => none
def blocksOf (ρ : Nat → Value) (h : List (Nat × AO)) : List Nat := h.filterMap fun p => blk (ρ p.1)
/-- The memory that the call found, and what of it may be read. -/
structure Base where
  w : World
  keep : Nat → Prop
  mu : Nat → Prop
abbrev base0 (w : World) (keep : Nat → Prop) : Base := ⟨w, keep, fun _ => False⟩
def keepOf (g : Base) (w : World) (ρ : Nat → Value) (h : List (Nat × AO)) (b : Nat) : Prop := b < w.heap.size ∧ (b < g.w.heap.size → g.keep b ∨ g.mu b) ∧ b ∉ blocksOf ρ h

/-- Below block number B the world w' is as w was, but for the blocks of M. -/
structure BelowM (M : Nat → Prop) (B : Nat) (w w' : World) : Prop where
  os : w'.os = w.os
  tape : w'.tape = w.tape
  output : w'.output = w.output
  size : w.heap.size ≤ w'.heap.size
  block : ∀ k, k < B → ¬ M k → w'.heap[k]? = w.heap[k]?
theorem BelowM.refl (M : Nat → Prop) (B : Nat) (w : World) : BelowM M B w w := ⟨rfl, rfl, rfl, Nat.le_refl _, fun _ _ _ => rfl⟩
theorem BelowM.trans {M : Nat → Prop} {B : Nat} {a b c : World} (h : BelowM M B a b) (k : BelowM M B b c) : BelowM M B a c :=
  ⟨k.os.trans h.os, k.tape.trans h.tape, k.output.trans h.output, Nat.le_trans h.size k.size, fun i hi hm => (k.block i hi hm).trans (h.block i hi hm)⟩
theorem BelowM.of {M : Nat → Prop} {B : Nat} {w w' : World} (h : Below B w w') : BelowM M B w w' := ⟨h.os, h.tape, h.output, h.size, fun k hk _ => h.block k hk⟩
theorem BelowM.less {M : Nat → Prop} {B : Nat} {w w' : World} (h : BelowM M B w w') (hM : ∀ k, ¬ M k) : Below B w w' := ⟨h.os, h.tape, h.output, h.size, fun k hk => h.block k hk (hM k)⟩
theorem BelowM.then {M : Nat → Prop} {B B' : Nat} {a b c : World} (h : BelowM M B a b) (k : Below B' b c) (hB : B ≤ B') : BelowM M B a c := h.trans (.of (k.mono hB))
theorem BelowM.write {M : Nat → Prop} {B b : Nat} {a w w' : World} (h : BelowM M B a w) (hb : B ≤ b ∨ M b) (k : Below b w w') (hm : ∀ i, i ≠ b → w'.heap[i]? = w.heap[i]?) : BelowM M B a w' :=
  h.trans ⟨k.os, k.tape, k.output, k.size, fun i hi hM => hm i (by rintro rfl; rcases hb with hb | hb; omega; exact hM hb)⟩
theorem BelowM.alloc {M : Nat → Prop} {B : Nat} {a w : World} (h : BelowM M B a w) (hB : B ≤ w.heap.size) (o : Obj) : BelowM M B a (w.alloc o) := h.then ((Below.refl _ _).alloc (Nat.le_refl _) o) hB
theorem BelowM.grown {M : Nat → Prop} {B : Nat} {a w w' : World} {row : Option Nat} (h : BelowM M B a w) (hg : w.grownBy w' row) (hB : B ≤ w.heap.size) (hr : ∀ k, row = some k → B ≤ k ∨ M k) : BelowM M B a w' :=
  h.trans ⟨hg.os, hg.tape, hg.output, hg.size, fun k hk hM => hg.block k (by omega) (fun e => by rcases hr k e.symm with h | h; omega; exact hM h)⟩
def cxOf (g : Base) (w : World) (ρ : Nat → Value) (h : List (Nat × AO)) : CX := ⟨w, keepOf g w ρ h, ρ⟩

def ObjOk (X : CX) (id : Nat) : AO → Prop
  | .box t cs => ∃ b us, X.ρ id = .pointer (some ⟨b, 0, none⟩) ∧ X.w.heap[b]? = some (.cells us.toArray t (0, 0)) ∧ All2 (C0 X) cs us
  | .row e s n sc f => ∃ us, X.w.ownsRow 0 e s (X.ρ id) n us ∧ 0 < s ∧ (∀ i, i < n → (f i).length = s) ∧ (sc = true → ∀ x ∈ flat n f, ∃ y, x = .v y) ∧ All2 (PC X.w X.keep) (flat n f) us

/-- The frames of those who wait are as the abstract ones say. -/
def BackOk (X : CX) : List (List (Nat × AV)) → List (Array Value) → Prop
  | [], [] => True
  | f :: fs, b :: bs => (∀ t, C2 X (ofL f t) (b.getD t undef)) ∧ BackOk X fs bs
  | _, _ => False
theorem BackOk.map {X Y : CX} {m : AV → AV} (hm : m .junk = .junk) (h : ∀ x u, C2 X x u → C2 Y (m x) u) : ∀ {fs : List (List (Nat × AV))} {bs : List (Array Value)}, BackOk X fs bs → BackOk Y (fs.map (mapS m)) bs
  | [], [], _ => trivial
  | _ :: _, _ :: _, k => ⟨fun t => by rw [ofL_mapS hm]; exact h _ _ (k.1 t), BackOk.map hm h k.2⟩
  | [], _ :: _, k => k.elim
  | _ :: _, [], k => k.elim
theorem BackOk.imp {X Y : CX} (h : ∀ x u, C2 X x u → C2 Y x u) : ∀ {fs : List (List (Nat × AV))} {bs : List (Array Value)}, BackOk X fs bs → BackOk Y fs bs
  | [], [], _ => trivial
  | _ :: _, _ :: _, k => ⟨fun t => h _ _ (k.1 t), BackOk.imp h k.2⟩
  | [], _ :: _, k => k.elim
  | _ :: _, [], k => k.elim

/-- The model's frame and memory are as the abstract state says. -/
structure Rel (g : Base) (N : Nat) (bs : List (Array Value)) (ρ : Nat → Value) (a : Act) (w : World) (st : AS) : Prop where
  size : a.tmps.size = N
  defers : a.defers = []
  below : BelowM g.mu g.w.heap.size g.w w
  tmps : ∀ t, C2 (cxOf g w ρ st.heap) (st.tmps t) (a.tmps.getD t undef)
  objs : ∀ p ∈ st.heap, ObjOk (cxOf g w ρ st.heap) p.1 p.2
  apart : (blocksOf ρ st.heap).Nodup
  own : ∀ b, b ∈ blocksOf ρ st.heap → g.w.heap.size ≤ b ∨ g.mu b
  back : BackOk (cxOf g w ρ st.heap) st.back bs

end Go.Proofs.Ytbmojelnkldecaa
