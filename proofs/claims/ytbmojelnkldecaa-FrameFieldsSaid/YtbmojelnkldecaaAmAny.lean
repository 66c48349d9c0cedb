/-
  The abstract machine: a region that draws its order and acts. What asks nothing of the memory is taken first, else every order is walked.
-/
import Derived.Test.YtbmojelnkldecaaAmSndI
import Derived.Orders
namespace Go.Proofs.Ytbmojelnkldecaa
open Go.RowKit

section
variable {P : Program}

/-- What asks nothing of the memory and leaves it as it is. -/
def FreeS {α : Type} (P : Program) (m : Sem α) : Prop := ∀ (w w' : World) (u : α) (w1 : World), m.run P w = .ok u w1 → w1 = w ∧ m.run P w' = .ok u w'

theorem FreeS.pure {α : Type} (x : α) : FreeS P (Pure.pure x : Sem α) := by
  intro w w' u w1 h
  simp only [Sem.run_pure] at h ⊢
  cases h
  exact ⟨rfl, rfl⟩
theorem FreeS.halt {α : Type} (h : Halt) : FreeS P (Sem.halt h : Sem α) := by
  intro w w' u w1 h
  simp only [Sem.run_halt] at h
  cases h
theorem FreeS.stuck {α : Type} (h : String) : FreeS P (Go.stuck h : Sem α) := FreeS.halt _
theorem FreeS.unsupported {α : Type} (h : Unsupported) : FreeS P (Go.unsupported h : Sem α) := FreeS.halt _
theorem FreeS.program : FreeS P (Go.program) := by
  intro w w' u w1 h
  simp only [run_program] at h ⊢
  cases h
  exact ⟨rfl, rfl⟩
theorem FreeS.bind {α β : Type} {m : Sem α} {k : α → Sem β} (hm : FreeS P m) (hk : ∀ x, FreeS P (k x)) : FreeS P (m >>= k) := by
  intro w w' u w1 h
  rw [Sem.run_bind] at h ⊢
  cases e : m.run P w with
  | ok x w0 =>
    rw [e] at h
    obtain ⟨rfl, e'⟩ := hm w w' x w0 e
    rw [e', Result.andThen_ok]
    exact hk x _ w' u w1 h
  | halt x w0 => rw [e] at h; cases h
/-- What never comes to an end that counts. -/
theorem FreeS.dead {α : Type} {m : Sem α} (h : ∀ w u w1, m.run P w ≠ .ok u w1) : FreeS P m := fun w _ u w1 e => absurd e (h w u w1)
theorem dead_bind {α β : Type} {m : Sem α} {k : α → Sem β} (hk : ∀ x w u w1, (k x).run P w ≠ .ok u w1) (w : World) (u : β) (w1 : World) : (m >>= k).run P w ≠ .ok u w1 := by
  rw [Sem.run_bind]
  cases e : m.run P w with
  | ok x w0 => rw [Result.andThen_ok]; exact hk x w0 u w1
  | halt x w0 => exact fun h => by cases h
theorem dead_panic {α : Type} (e : RuntimeError) (w : World) (u : α) (w1 : World) : (runtimePanic e : Sem α).run P w ≠ .ok u w1 := by
  unfold runtimePanic
  refine dead_bind (fun p w u w1 => ?_) w u w1
  cases e <;> first | exact (fun h => by cases h) | exact dead_bind (fun _ => dead_bind fun _ w u w1 h => by cases h) _ _ _
theorem FreeS.bounds {α : Type} (k : IntKind) (x y : Int) (c : BoundsCode) : FreeS P (boundsPanic k x y c : Sem α) := by
  refine FreeS.dead fun w u w1 => ?_
  unfold boundsPanic
  dsimp only
  split
  · exact dead_bind (fun _ w u w1 => dead_panic _ w u w1) w u w1
  · exact dead_bind (fun _ w u w1 => dead_panic _ w u w1) w u w1
theorem FreeS.rpanic {α : Type} (e : RuntimeError) : FreeS P (runtimePanic e : Sem α) := FreeS.dead fun w u w1 => dead_panic e w u w1
theorem FreeS.underlying (t : TypeId) : FreeS P (Go.underlying t) := by
  unfold Go.underlying
  refine FreeS.bind FreeS.program fun p => ?_
  split
  · exact FreeS.pure _
  · exact FreeS.halt _
theorem FreeS.typeInfo (t : TypeId) : FreeS P (Go.typeInfo t) := by
  unfold Go.typeInfo
  refine FreeS.bind FreeS.program fun p => ?_
  split
  · exact FreeS.pure _
  · exact FreeS.halt _
theorem FreeS.sizeOf (t : TypeId) : FreeS P (Go.sizeOf t) := FreeS.bind (FreeS.typeInfo t) fun _ => FreeS.pure _
theorem FreeS.asIntOf (v : Value) : FreeS P (Go.asIntOf v) := by
  unfold Go.asIntOf
  split
  · exact FreeS.pure _
  · exact FreeS.halt _
  · exact FreeS.halt _
theorem FreeS.asBool (v : Value) : FreeS P (Go.asBool v) := by
  unfold Go.asBool
  split
  · exact FreeS.pure _
  · exact FreeS.halt _
theorem FreeS.sureAddr (v : Value) : FreeS P (Instr.sureAddr v) := by
  unfold Instr.sureAddr
  split
  · exact FreeS.pure _
  · exact FreeS.halt _
theorem FreeS.indexAt (t : TypeId) (x i : Value) : FreeS P (Instr.indexAt t x i) := by
  unfold Instr.indexAt
  with_reducible repeat' first
    | exact FreeS.pure _
    | exact FreeS.stuck _
    | exact FreeS.unsupported _
    | exact FreeS.bounds _ _ _ _
    | refine FreeS.bind (FreeS.asIntOf _) fun _ => ?_
    | refine FreeS.bind (FreeS.underlying _) fun _ => ?_
    | refine FreeS.bind (FreeS.sureAddr _) fun _ => ?_
    | refine FreeS.bind (FreeS.sizeOf _) fun _ => ?_
    | refine FreeS.bind (FreeS.pure _) fun _ => ?_
    | refine FreeS.bind (FreeS.stuck _) fun _ => ?_
    | (dsimp only; split)
    | split
theorem FreeS.extract (v : Value) (i : Nat) : FreeS P (Instr.extract v i) := by
  unfold Instr.extract
  split
  · split
    · exact FreeS.pure _
    · exact FreeS.halt _
  · exact FreeS.halt _
theorem FreeS.intArith (op : BinOp) (k : IntKind) (x y : Int) : FreeS P (Op.intArith op k x y) := by
  unfold Op.intArith
  split <;> first | exact FreeS.pure _ | exact FreeS.halt _
theorem FreeS.intBits (op : BinOp) (k : IntKind) (x y : Int) : FreeS P (Op.intBits op k x y) := by
  unfold Op.intBits
  dsimp only
  split <;> first | exact FreeS.pure _ | exact FreeS.halt _
theorem FreeS.intCmp (op : BinOp) (x y : Int) : FreeS P (Op.intCmp op x y) := by
  unfold Op.intCmp
  split <;> first | exact FreeS.pure _ | exact FreeS.halt _
theorem FreeS.intDiv (op : BinOp) (k : IntKind) (x y : Int) : FreeS P (Op.intDiv op k x y) := by
  unfold Op.intDiv
  split
  · exact FreeS.rpanic _
  · split <;> first | exact FreeS.pure _ | exact FreeS.halt _
theorem FreeS.shift (op : BinOp) (k k' : IntKind) (x y : Int) : FreeS P (Op.shift op k x k' y) := by
  unfold Op.shift
  split
  · exact FreeS.rpanic _
  · dsimp only
    split <;> first | exact FreeS.pure _ | exact FreeS.halt _
theorem FreeS.unary (op : UnOp) (x : Value) : FreeS P (Op.unary op x) := by
  unfold Op.unary
  split <;> first | exact FreeS.pure _ | exact FreeS.halt _ | exact FreeS.intArith _ _ _ _ | exact FreeS.intBits _ _ _ _
theorem FreeS.binInt (op : BinOp) (t : TypeId) (k k' : IntKind) (x y : Int) : FreeS P (binOp op t (.int k x) (.int k' y)) := by
  cases op <;> unfold binOp <;> dsimp only <;> first | exact FreeS.shift _ _ _ _ _ | (split <;> first | exact FreeS.halt _ | exact FreeS.intArith _ _ _ _ | exact FreeS.intBits _ _ _ _ | exact FreeS.intCmp _ _ _ | exact FreeS.intDiv _ _ _ _)
theorem FreeS.eqInt (op : BinOp) (t : TypeId) (x y : Operand) (k k' : IntKind) (a b : Int) : FreeS P (eqGuard op t x y (.int k a) (.int k' b)) := by
  cases op <;> exact FreeS.pure _
theorem FreeS.convInt {s t : TypeId} {k : IntKind} (ht : P.underlying t = some (.int k)) (k' : IntKind) (n : Int) : FreeS P (convert s t (.int k' n)) := by
  intro w w' u w1 h
  unfold convert at h ⊢
  simp only [Sem.run_bind] at h ⊢
  cases e : (Go.underlying s).run P w with
  | halt x w0 => rw [e] at h; cases h
  | ok d w0 =>
    obtain ⟨rfl, e'⟩ := FreeS.underlying s w w' d w0 e
    have hu : ∀ w, (Go.underlying t).run P w = .ok (.int k) w := by
      intro w
      unfold Go.underlying
      simp only [Sem.run_bind, run_program, Result.andThen_ok, ht]
      rfl
    rw [e, Result.andThen_ok, hu, Result.andThen_ok] at h
    rw [e', Result.andThen_ok, hu, Result.andThen_ok]
    have hf : FreeS P (Conv.intToInt k n) := FreeS.pure _
    cases d <;> exact hf w0 w' u w1 h

theorem FreeS.bindr {α β : Type} {m : Sem α} {k : α → Sem β} {x : α} (hm : ∀ w, m.run P w = .ok x w) (hk : FreeS P (k x)) : FreeS P (m >>= k) := by
  intro w w' u w1 h
  rw [Sem.run_bind, hm, Result.andThen_ok] at h
  rw [Sem.run_bind, hm, Result.andThen_ok]
  exact hk w w' u w1 h
theorem FreeS.stringOp (op : BinOp) (x y : ByteArray) : FreeS P (Op.stringOp op x y) := by
  unfold Op.stringOp
  dsimp only
  split
  · split
    · exact FreeS.halt _
    · exact FreeS.pure _
  all_goals first | exact FreeS.pure _ | exact FreeS.halt _
theorem FreeS.binStr (op : BinOp) (t : TypeId) (x y : ByteArray) : FreeS P (binOp op t (.string x) (.string y)) := by
  cases op <;> unfold binOp <;> dsimp only <;> exact FreeS.stringOp _ x y
theorem FreeS.eqStr (op : BinOp) (t : TypeId) (x y : Operand) (a b : ByteArray) : FreeS P (eqGuard op t x y (.string a) (.string b)) := by
  cases op <;> exact FreeS.pure _
theorem FreeS.sliceBound (x : Value) (y : Nat) (c : BoundsCode) : FreeS P (Instr.sliceBound x y c) := by
  unfold Instr.sliceBound
  refine FreeS.bind (FreeS.asIntOf _) fun _ => ?_
  dsimp only
  split
  · exact FreeS.pure _
  · exact FreeS.bounds _ _ _ _
theorem FreeS.sliceBounds (b : Bool) (l c : Nat) (lo hi : Option Value) : FreeS P (Instr.sliceBounds b l c lo hi none) := by
  unfold Instr.sliceBounds
  cases lo <;> cases hi <;> with_reducible repeat' first
    | exact FreeS.pure _
    | refine FreeS.bind (FreeS.sliceBound _ _ _) fun _ => ?_
    | refine FreeS.bind (FreeS.pure _) fun _ => ?_
    | dsimp only
theorem FreeS.slice (t : TypeId) {x : Value} (hx : (∃ A n c, x = .slice A n c) ∨ ∃ s, x = .string s) (lo hi : Option Value) : FreeS P (Instr.sliceAt t x lo hi none) := by
  unfold Instr.sliceAt
  refine FreeS.bind (FreeS.underlying _) fun d => ?_
  split
  · refine FreeS.bind (FreeS.sureAddr _) fun _ => FreeS.bind (FreeS.sliceBounds _ _ _ _ _) fun _ => ?_
    exact FreeS.bind (FreeS.sizeOf _) fun _ => FreeS.pure _
  · unfold Instr.slice
    refine FreeS.bind (FreeS.underlying _) fun d => ?_
    rcases hx with ⟨A, n, c, rfl⟩ | ⟨s, rfl⟩
    · cases d <;> first
        | exact FreeS.halt _
        | exact FreeS.bind (FreeS.sliceBounds _ _ _ _ _) fun _ => FreeS.bind (FreeS.sizeOf _) fun _ => FreeS.pure _
    · cases d <;> first
        | exact FreeS.halt _
        | exact FreeS.bind (FreeS.sliceBounds _ _ _ _ _) fun _ => FreeS.pure _
theorem FreeS.arrayAt (t : TypeId) (x : Value) : FreeS P (Instr.arrayAt t x) := by
  unfold Instr.arrayAt
  refine FreeS.bind (FreeS.underlying _) fun d => ?_
  split
  · split
    · split
      · exact FreeS.rpanic _
      · exact FreeS.pure _
    · exact FreeS.halt _
  · exact FreeS.halt _
theorem FreeS.len (t ty : TypeId) {x : Value} (hx : (∃ A n c, x = .slice A n c) ∨ ∃ s, x = .string s) : FreeS P (Builtin.len_ #[t] ty #[x]) := by
  unfold Builtin.len_
  show FreeS P ((Go.underlying t) >>= _)
  refine FreeS.bind (FreeS.underlying _) fun d => ?_
  rcases hx with ⟨A, n, c, rfl⟩ | ⟨s, rfl⟩ <;> cases d <;> first
    | exact FreeS.pure _
    | exact FreeS.halt _
    | (refine FreeS.bind (FreeS.underlying _) fun d => ?_
       cases d <;> first | exact FreeS.pure _ | exact FreeS.halt _)
end
end Go.Proofs.Ytbmojelnkldecaa
