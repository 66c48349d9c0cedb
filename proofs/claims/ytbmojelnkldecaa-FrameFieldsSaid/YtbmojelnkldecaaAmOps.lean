/-
  The abstract machine: what each operation asks, and what it leaves (a Prop that is reckoned by unfolding).
-/
import Derived.Test.YtbmojelnkldecaaAmRel
import Derived.Deep.Quiet
namespace Go.Proofs.Ytbmojelnkldecaa
open Go.RowKit

inductive TK : Type where
  | bool | str | int (k : IntKind) | ptr (e : TypeId) | slice (e : TypeId) | array (n : Nat) (e : TypeId) | struct (fs : List (Nat × TypeId)) | other

structure TI where
  size : Nat
  bytes : Nat
  zero : List Value
  kind : TK

def kindOf : TypeDesc → TK
  | .bool => .bool
  | .int k => .int k
  | .string => .str
  | .pointer e => .ptr e
  | .slice e => .slice e
  | .array n e => .array n e
  | .struct fs => .struct (fs.toList.map fun f => (f.offset, f.type))
  | _ => .other

def TI.isAgg (i : TI) : Bool := match i.kind with | .array _ _ => true | .struct _ => true | _ => false

def factOf (P : Program) (t : TypeId) : Option TI :=
  match P.info? t, P.underlying t with
  | some i, some d => i.zero.map fun z => ⟨i.size, i.bytes, z.cells.toList, kindOf d⟩
  | _, _ => none

abbrev Lay := List (TypeId × TI)
def layGet : Lay → TypeId → Option TI
  | [], _ => none
  | p :: l, t => bif Nat.beq p.1 t then some p.2 else layGet l t

def LayOk (P : Program) (L : Lay) : Prop := ∀ t i, layGet L t = some i → factOf P t = some i

theorem layOk_of {P : Program} {L : Lay} (h : (L.map fun p => factOf P p.1) = (L.map fun p => some p.2)) : LayOk P L := by
  induction L with
  | nil => intro t i e; cases e
  | cons p L ih =>
    intro t i e
    simp only [List.map_cons, List.cons.injEq] at h
    simp only [layGet] at e
    cases hb : Nat.beq p.1 t with
    | true =>
      rw [hb] at e
      simp only [cond_true, Option.some.injEq] at e
      rw [← Nat.eq_of_beq_eq_true hb, ← e]
      exact h.1
    | false =>
      rw [hb] at e
      exact ih h.2 t i e

/-- What is asked; a test. -/
inductive Req (p A : Prop) : Prop where
  | mk : p → A → Req p A
inductive Spl (p A B : Prop) : Prop where
  | mk : (p → A) → (¬ p → B) → Spl p A B
theorem Spl.yes {p A B : Prop} (h : p) (a : A) : Spl p A B := ⟨fun _ => a, fun n => absurd h n⟩
theorem Spl.no {p A B : Prop} (h : ¬ p) (b : B) : Spl p A B := ⟨fun y => absurd y h, fun _ => b⟩
theorem chk {b : Bool} {A : Prop} (h : b = true) (a : A) : (bif b then A else False) := by rw [h]; exact a

/-- A number of a kind: within its bounds it is as it is. -/
inductive Wr (n : Int) (K : Int → Prop) : IntKind → Prop where
  | i64 : -9223372036854775808 ≤ n → n ≤ 9223372036854775807 → K n → Wr n K .i64
  | u64 : 0 ≤ n → n ≤ 18446744073709551615 → K n → Wr n K .u64
  | u32 : 0 ≤ n → n ≤ 4294967295 → K n → Wr n K .u32
  | u8 : 0 ≤ n → n ≤ 255 → K n → Wr n K .u8
  | raw (k : IntKind) : K (k.wrap n) → Wr n K k

def ofVal : Value → AV
  | .agg cs => .agg (cs.toList.map .v)
  | x => .v x

def AS.ev (st : AS) : Operand → AV
  | .tmp t => st.tmps t
  | .const x => ofVal x
  | .func g => .fn g []
  | .global _ => .junk

def AV.cells? : AV → Option (List AV)
  | .agg cs => some cs
  | .tup _ => none
  | .fn _ _ => none
  | x => some [x]

def oneB (h : List (Nat × AO)) : AV → Bool
  | .v x => x.oneCell'
  | .sl .. => true
  | .own id => match findObj id h with | some (.row ..) => true | _ => false
  | .eown .. => true
  | .box .. => true
  | .el .. => true
  | _ => false

def pureB : AV → Bool
  | .v x => x.oneCell'
  | .sl .. => true
  | _ => false

def isV : AV → Bool
  | .v _ => true
  | _ => false

def splice (cs : List AV) (k : Nat) (xs : List AV) : List AV := cs.take k ++ (xs ++ cs.drop (k + xs.length))

def ld (i : TI) (cs : List AV) (k : Nat) (K : AV → Prop) : Prop :=
  bif i.isAgg then (bif Nat.ble (k + i.size) cs.length then K (.agg ((cs.drop k).take i.size)) else False)
  else (bif Nat.ble (k + 1) cs.length then K (cs.getD k .junk) else False)

def inB (n : Int) (m : Nat) : Bool := decide (0 ≤ n) && decide (n < (m : Int))
/-- A number within bounds. -/
structure InB (n : Int) (m : Nat) (A : Prop) : Prop where
  mk ::
  ok : inB n m = true
  k : A
theorem InB_eq (n : Int) (m : Nat) (A : Prop) : InB n m A = (bif inB n m then A else False) := by
  cases h : inB n m with
  | true => exact propext ⟨fun k => k.k, fun k => ⟨h, k⟩⟩
  | false => exact propext ⟨fun k => (by have := k.ok; rw [h] at this; cases this), fun k => k.elim⟩
theorem inB_mk {n : Int} {m : Nat} (h0 : 0 ≤ n) (h1 : n < (m : Int)) : inB n m = true := by simp [inB, h0, h1]

def aload (L : Lay) (st : AS) (t : TypeId) (p : AV) (K : AV → Prop) : Prop :=
  match layGet L t, p with
  | some i, .box id k => match findObj id st.heap with | some (.box _ cs) => ld i cs k K | _ => False
  | some i, .el cs k => ld i cs k K
  | some i, .eown id s j k => match findObj id st.heap with | some (.row _ s' n _ f) => bif Nat.beq s s' then (bif Nat.ble (j + 1) n then ld i (f j) k K else False) else False | _ => False
  | _, _ => False

def astore (L : Lay) (st : AS) (t : TypeId) (p x : AV) (K : AS → Prop) : Prop :=
  match layGet L t, p, x.cells? with
  | some i, .box id k, some xs =>
    bif Nat.beq xs.length i.size && xs.all (oneB st.heap) then
      (match findObj id st.heap with
      | some (.box t' cs) => bif Nat.ble (k + xs.length) cs.length then K ⟨st.sl, setObj id (.box t' (splice cs k xs)) st.heap, st.back, st.base⟩ else False
      | _ => False)
    else False
  | some i, .eown id s j k, some xs =>
    bif Nat.beq xs.length i.size && xs.all pureB then
      (match findObj id st.heap with
      | some (.row e s' n sc f) =>
        bif Nat.beq s s' && Nat.ble (k + xs.length) s then (bif Nat.ble (j + 1) n then K ⟨st.sl, setObj id (.row e s n (sc && xs.all isV) (fun m => bif Nat.beq m j then splice (f j) k xs else f m)) st.heap, st.back, st.base⟩ else False) else False
      | _ => False)
    else False
  | _, _, _ => False

def afieldAddr (L : Lay) (t : TypeId) (p : AV) (i : Nat) (K : AV → Prop) : Prop :=
  match layGet L t with
  | some ti => match ti.kind with
    | .struct fs => match fs[i]? with
      | some (o, ft) => match layGet L ft with
        | some fi => bif Nat.ble 1 fi.size then (match p with | .box id k => K (.box id (k + o)) | .el cs k => K (.el cs (k + o)) | .eown id s j k => K (.eown id s j (k + o)) | _ => False) else False
        | none => False
      | none => False
    | _ => False
  | none => False

def afield (L : Lay) (t : TypeId) (x : AV) (i : Nat) (K : AV → Prop) : Prop :=
  match layGet L t, x with
  | some ti, .agg cs => match ti.kind with
    | .struct fs => match fs[i]? with
      | some (o, ft) => match layGet L ft with | some fi => ld fi cs o K | none => False
      | none => False
    | _ => False
  | _, _ => False

def aindexAddr (L : Lay) (st : AS) (t : TypeId) (x ix : AV) (K : AV → Prop) : Prop :=
  match layGet L t, ix with
  | some ti, .v (.int _ n) => match ti.kind with
    | .slice e => match layGet L e with
      | some ei => match x with
        | .sl s m _ f => bif Nat.beq s ei.size then (InB n m (K (.el (f n.toNat) 0))) else False
        | .own id => match findObj id st.heap with
          | some (.row _ s m _ _) => bif Nat.beq s ei.size then (InB n m (K (.eown id s n.toNat 0))) else False
          | _ => False
        | _ => False
      | none => False
    | .array m e => match layGet L e with
      | some ei => InB n m ((match x with | .box id k => K (.box id (k + n.toNat * ei.size)) | .el cs k => K (.el cs (k + n.toNat * ei.size)) | .eown id s j k => K (.eown id s j (k + n.toNat * ei.size)) | _ => False))
      | none => False
    | _ => False
  | _, _ => False

def aindex (L : Lay) (t : TypeId) (x ix : AV) (K : AV → Prop) : Prop :=
  match layGet L t, ix with
  | some ti, .v (.int _ n) => match ti.kind, x with
    | .array m e, .agg cs => match layGet L e with | some ei => InB n m (ld ei cs (n.toNat * ei.size) K) | none => False
    | .str, .v (.string s) => InB n s.size (K (.v (.int .u8 ((s.data.toList.getD n.toNat 0).toNat : Int))))
    | _, _ => False
  | _, _ => False

def aextract (x : AV) (i : Nat) (K : AV → Prop) : Prop := match x with | .tup vs => (match vs[i]? with | some y => K y | none => False) | _ => False

def fillA (h : List (Nat × AO)) (place : Nat → Option (Nat × Nat)) : List AV → List (Nat × AV) → Option (List AV)
  | cs, [] => some cs
  | cs, (i, x) :: r => match place i, x.cells? with
    | some (o, s), some xs => bif Nat.beq xs.length s && Nat.ble (o + xs.length) cs.length && xs.all (oneB h) then fillA h place (splice cs o xs) r else none
    | _, _ => none

def placesOf (L : Lay) : List (Nat × TypeId) → Option (List (Nat × Nat))
  | [] => some []
  | (o, t) :: r => match layGet L t, placesOf L r with | some i, some l => some ((o, i.size) :: l) | _, _ => none

def abuild (L : Lay) (h0 : List (Nat × AO)) (t : TypeId) (parts : List (Nat × AV)) (K : AV → Prop) : Prop :=
  match layGet L t with
  | some ti => match ti.kind with
    | .struct fs => match placesOf L fs with
      | some pl => match fillA h0 (pl[·]?) (ti.zero.map .v) parts with | some cs => K (.agg cs) | none => False
      | none => False
    | .array _ e => match layGet L e with
      | some ei => match fillA h0 (fun i => some (i * ei.size, ei.size)) (ti.zero.map .v) parts with | some cs => K (.agg cs) | none => False
      | none => False
    | _ => False
  | none => False

def repL (z : List AV) : Nat → List AV
  | 0 => []
  | n + 1 => z ++ repL z n

/-- The elements of a literal's cells. -/
def chunk (s : Nat) (cs : List AV) (i : Nat) : List AV := (cs.drop (i * s)).take s

def abuildSlice (L : Lay) (d : Nat) (st : AS) (t : TypeId) (len : Nat) (parts : List (Nat × AV)) (K : AV → AS → Prop) : Prop :=
  match layGet L t with
  | some ti => match ti.kind with
    | .slice e => match layGet L e with
      | some ei =>
        bif Nat.ble 1 ei.size && Nat.beq ei.zero.length ei.size && Nat.ble (len * ei.size) 65536 then
          (match fillA st.heap (fun i => some (i * ei.size, ei.size)) (repL (ei.zero.map .v) len) parts with
          | some cs => bif cs.all pureB then K (.own d) (st.obj d d (.row e ei.size len (cs.all isV) (chunk ei.size cs))) else False
          | none => False)
        else False
      | none => False
    | _ => False
  | none => False

def acmp (op : BinOp) (a b : Int) (K : AV → Prop) : Prop :=
  match op with
  | .eql => Spl (a = b) (K (.v (.bool true))) (K (.v (.bool false)))
  | .neq => Spl (a = b) (K (.v (.bool false))) (K (.v (.bool true)))
  | .lss => Spl (a < b) (K (.v (.bool true))) (K (.v (.bool false)))
  | .leq => Spl (a ≤ b) (K (.v (.bool true))) (K (.v (.bool false)))
  | .gtr => Spl (b < a) (K (.v (.bool true))) (K (.v (.bool false)))
  | .geq => Spl (b ≤ a) (K (.v (.bool true))) (K (.v (.bool false)))
  | _ => False

/-- Division: of a number that is not below nought. -/
inductive Dv (a b : Int) (K : Int → Prop) : Prop where
  | pos : 0 ≤ a → 0 < b → K (a / b) → Dv a b K
  | raw : b ≠ 0 → K (a.tdiv b) → Dv a b K
inductive Rm (a b : Int) (K : Int → Prop) : Prop where
  | pos : 0 ≤ a → 0 < b → K (a % b) → Rm a b K
  | raw : b ≠ 0 → K (a.tmod b) → Rm a b K

def aint (op : BinOp) (k : IntKind) (a b : Int) (K : AV → Prop) : Prop :=
  match op with
  | .add => Wr (a + b) (fun n => K (.v (.int k n))) k
  | .sub => Wr (a - b) (fun n => K (.v (.int k n))) k
  | .mul => Wr (a * b) (fun n => K (.v (.int k n))) k
  | .quo => Dv a b (fun q => Wr q (fun n => K (.v (.int k n))) k)
  | .rem => Rm a b (fun n => K (.v (.int k n)))
  | .and => K (.v (.int k (k.wrap (BitVec.ofInt k.bits a &&& BitVec.ofInt k.bits b).toNat)))
  | .or => K (.v (.int k (k.wrap (BitVec.ofInt k.bits a ||| BitVec.ofInt k.bits b).toNat)))
  | .xor => K (.v (.int k (k.wrap (BitVec.ofInt k.bits a ^^^ BitVec.ofInt k.bits b).toNat)))
  | .shl => False
  | .shr => False
  | .andNot => False
  | op => acmp op a b K

def ashift (op : BinOp) (k : IntKind) (a b : Int) (K : AV → Prop) : Prop :=
  match op with
  | .shl => Req (0 ≤ b) (Wr (a * 2 ^ min b.toNat k.bits) (fun n => K (.v (.int k n))) k)
  | .shr => Req (0 ≤ b) (K (.v (.int k (a.fdiv (2 ^ min b.toNat k.bits)))))
  | _ => False

def astr (op : BinOp) (a b : ByteArray) (K : AV → Prop) : Prop :=
  match op with
  | .add => Req (((a.size + b.size : Nat) : Int) ≤ 9223372036854775807) (K (.v (.string (a ++ b))))
  | .eql => Spl (a = b) (K (.v (.bool true))) (K (.v (.bool false)))
  | .neq => Spl (a = b) (K (.v (.bool false))) (K (.v (.bool true)))
  | .lss => Spl (Op.bytesLess a.toList b.toList = true) (K (.v (.bool true))) (K (.v (.bool false)))
  | _ => False

/-- Two values of a struct's or an array's type are equal just if p. -/
def EqFact (P : Program) (t : TypeId) (us vs : List Value) (p : Prop) : Prop :=
  P.eqGuardType P.depth t = false ∧ ∀ w : World, ∃ b : Bool, (b = true ↔ p) ∧ (Op.equal t (.agg us.toArray) (.agg vs.toArray)).run P w = .ok b w
inductive EqA (P : Program) (t : TypeId) (cs ds : List AV) (A B : Prop) : Prop where
  | mk (us vs : List Value) (p : Prop) (hu : cs = us.map .v) (hv : ds = vs.map .v) (hp : EqFact P t us vs p) : Spl p A B → EqA P t cs ds A B

def abin (P : Program) (L : Lay) (op : BinOp) (t : TypeId) (x y : AV) (K : AV → Prop) : Prop :=
  match x, y with
  | .v (.int k a), .v (.int k' b) => (match op with
    | .shl => ashift .shl k a b K
    | .shr => ashift .shr k a b K
    | op => bif decide (k = k') then aint op k a b K else False)
  | .v (.string a), .v (.string b) => astr op a b K
  | .v (.bool a), .v (.bool b) => match layGet L t with
    | some i => (match i.kind, op with
      | .bool, .eql => K (.v (.bool (a == b)))
      | .bool, .neq => K (.v (.bool (!(a == b))))
      | _, _ => False)
    | none => False
  | .agg cs, .agg ds => (match op with
    | .eql => EqA P t cs ds (K (.v (.bool true))) (K (.v (.bool false)))
    | .neq => EqA P t cs ds (K (.v (.bool false))) (K (.v (.bool true)))
    | _ => False)
  | _, _ => False

def aun (op : UnOp) (x : AV) (K : AV → Prop) : Prop :=
  match op, x with
  | .not, .v (.bool b) => K (.v (.bool (!b)))
  | .neg, .v (.int k n) => Wr (0 - n) (fun n => K (.v (.int k n))) k
  | .xor, .v (.int k n) => aint .xor k (if k.signed then -1 else k.max) n K
  | _, _ => False

/-- The bytes that a slice reads as. -/
inductive Bs (n : Nat) (f : Nat → List AV) (K : List UInt8 → Prop) : Prop where
  | mk (bs : List UInt8) (hn : n = bs.length) (hf : ∀ i, i < n → f i = [.v (.int .u8 ((bs.getD i 0).toNat : Int))]) : K bs → Bs n f K

def aconvert (L : Lay) (st : AS) (src dst : TypeId) (x : AV) (K : AV → Prop) : Prop :=
  match layGet L src, layGet L dst with
  | some si, some di => match si.kind, di.kind, x with
    | _, .int k, .v (.int _ n) => Wr n (fun n => K (.v (.int k n))) k
    | _, .str, .v (.string s) => K (.v (.string s))
    | .slice e, .str, .sl _ n _ f => match layGet L e with | some ei => (match ei.kind with | .int .u8 => Bs n f (fun bs => K (.v (.string ⟨bs.toArray⟩))) | _ => False) | none => False
    | .slice e, .str, .own id => match findObj id st.heap with
      | some (.row _ _ n _ f) => match layGet L e with | some ei => (match ei.kind with | .int .u8 => Bs n f (fun bs => K (.v (.string ⟨bs.toArray⟩))) | _ => False) | none => False
      | _ => False
    | _, _, _ => False
  | _, _ => False

/-- The row id, from now on only read. -/
def thaw0 (i0 : Nat) (a : AV) : AV → AV
  | .v x => .v x
  | .agg cs => .agg cs
  | .tup vs => .tup vs
  | .sl s n sc f => .sl s n sc f
  | .own id => bif Nat.beq id i0 then a else .own id
  | .eown id s i k => .eown id s i k
  | .box id off => .box id off
  | .el cs k => .el cs k
  | .fn g cs => .fn g cs
  | .junk => .junk

def thaw1 (i0 : Nat) (a : AV) : AV → AV
  | .v x => .v x
  | .agg cs => .agg (cs.map (thaw0 i0 a))
  | .tup vs => .tup vs
  | .sl s n sc f => .sl s n sc f
  | .own id => bif Nat.beq id i0 then a else .own id
  | .eown id s i k => .eown id s i k
  | .box id off => .box id off
  | .el cs k => .el cs k
  | .fn g cs => .fn g (cs.map (thaw0 i0 a))
  | .junk => .junk

def thaw2 (i0 : Nat) (a : AV) : AV → AV
  | .v x => .v x
  | .agg cs => .agg (cs.map (thaw0 i0 a))
  | .tup vs => .tup (vs.map (thaw1 i0 a))
  | .sl s n sc f => .sl s n sc f
  | .own id => bif Nat.beq id i0 then a else .own id
  | .eown id s i k => .eown id s i k
  | .box id off => .box id off
  | .el cs k => .el cs k
  | .fn g cs => .fn g (cs.map (thaw0 i0 a))
  | .junk => .junk

def AO.thaw (id : Nat) (a : AV) : AO → AO
  | .box t cs => .box t (cs.map (thaw0 id a))
  | o => o
def AS.freeze (st : AS) (id s n : Nat) (sc : Bool) (f : Nat → List AV) : AS :=
  ⟨mapS (thaw2 id (.sl s n sc f)) st.sl, (st.heap.filter fun p => !Nat.beq p.1 id).map fun p => (p.1, p.2.thaw id (.sl s n sc f)), st.back.map (mapS (thaw2 id (.sl s n sc f))), st.base⟩

/-- The box id, from now on only read. -/
def AS.freezeBox (st : AS) (id : Nat) : AS := ⟨mapS (scrub2 id) st.sl, scrubH id (st.heap.filter fun p => !Nat.beq p.1 id), st.back.map (mapS (scrub2 id)), st.base⟩

/-- x[lo:hi] of a slice that is read. -/
def acut (s n : Nat) (sc : Bool) (f : Nat → List AV) (lo hi : Option AV) (K : AV → Prop) : Prop :=
  match lo, hi with
  | none, none => K (.sl s n sc f)
  | none, some (.v (.int _ h)) => InB h (n + 1) (K (.sl s h.toNat sc f))
  | some (.v (.int _ l)), none => InB l (n + 1) (K (.sl s (n - l.toNat) sc (fun i => f (l.toNat + i))))
  | some (.v (.int _ l)), some (.v (.int _ h)) => InB h (n + 1) ((InB l (h.toNat + 1) (K (.sl s (h.toNat - l.toNat) sc (fun i => f (l.toNat + i))))))
  | _, _ => False

def acutS (b : ByteArray) (lo hi : Option AV) (K : AV → Prop) : Prop :=
  match lo, hi with
  | none, none => K (.v (.string b))
  | none, some (.v (.int _ h)) => InB h (b.size + 1) (K (.v (.string (b.extract 0 h.toNat))))
  | some (.v (.int _ l)), none => InB l (b.size + 1) (K (.v (.string (b.extract l.toNat b.size))))
  | some (.v (.int _ l)), some (.v (.int _ h)) => InB h (b.size + 1) ((InB l (h.toNat + 1) (K (.v (.string (b.extract l.toNat h.toNat))))))
  | _, _ => False

def aslice (L : Lay) (st : AS) (t : TypeId) (x : AV) (lo hi mx : Option AV) (K : AV → AS → Prop) : Prop :=
  match mx, layGet L t with
  | none, some ti => match ti.kind, x with
    | .slice e, .sl s n sc f => (match layGet L e with | some ei => bif Nat.beq s ei.size then acut s n sc f lo hi (fun y => K y st) else False | none => False)
    | .slice e, .own id => (match findObj id st.heap with | some (.row _ s n sc f) => (match layGet L e with | some ei => bif Nat.beq s ei.size then acut s n sc f lo hi (fun y => K y (st.freeze id s n sc f)) else False | none => False) | _ => False)
    | .str, .v (.string b) => acutS b lo hi (fun y => K y st)
    | .array m e, .box id k => (match lo, hi, k, findObj id st.heap, layGet L e with
      | none, none, 0, some (.box _ cs), some ei => bif Nat.ble 1 ei.size && Nat.beq cs.length (m * ei.size) && Nat.ble m 65536 && cs.all pureB then K (.sl ei.size m (cs.all isV) (chunk ei.size cs)) (st.freezeBox id) else False
      | _, _, _, _, _ => False)
    | _, _ => False
  | _, _ => False

/-- What an append, a copy, a conversion reads. -/
def srcOf (L : Lay) (st : AS) (s : Nat) (t : TypeId) (x : AV) : Option (Nat × Bool × (Nat → List AV)) :=
  match layGet L t with
  | some ti => match ti.kind, x with
    | .slice _, .sl s' n sc f => bif Nat.beq s s' then some (n, sc, f) else none
    | .slice _, .own id => match findObj id st.heap with | some (.row _ s' n sc f) => bif Nat.beq s s' then some (n, sc, f) else none | _ => none
    | .slice _, .v (.slice none 0 _) => some (0, true, fun _ => [])
    | .str, .v (.string b) => bif Nat.beq s 1 then some (b.size, true, fun i => [.v (.int .u8 ((b.data.toList.getD i 0).toNat : Int))]) else none
    | _, _ => none
  | none => none

def appF (n : Nat) (f g : Nat → List AV) : Nat → List AV := fun i => bif Nat.ble n i then g (i - n) else f i

def aappend (L : Lay) (d : Nat) (st : AS) (t tx : TypeId) (x y : AV) (K : AV → AS → Prop) : Prop :=
  match layGet L t with
  | some ti => match ti.kind with
    | .slice e => match layGet L e with
      | some ei =>
        bif Nat.ble 1 ei.size && Nat.beq ei.zero.length ei.size then
          (match srcOf L st ei.size tx y with
          | some (m, sc', g) => match x with
            | .v (.slice none 0 0) => Req (m * ei.bytes ≤ 140737488355328 ∧ m ≤ 140737488355328) (K (.own d) (st.obj d d (.row e ei.size m sc' g)))
            | .own id => match findObj id st.heap with
              | some (.row e' s n sc f) => bif Nat.beq e e' && Nat.beq s ei.size then Req ((n + m) * ei.bytes ≤ 140737488355328 ∧ n + m ≤ 140737488355328) (K (.own d) (st.obj d id (.row e s (n + m) (sc && sc') (appF n f g)))) else False
              | _ => False
            | _ => False
          | none => False)
        else False
      | none => False
    | _ => False
  | none => False

/-- A new slice: of no elements, with room; or of zeros. -/
inductive AMk (b : Nat) (l c : Int) (K : Nat → Prop) : Prop where
  | none : l = 0 → 0 ≤ c → c * b ≤ 140737488355328 → c ≤ 140737488355328 → K 0 → AMk b l c K
  | full : 0 ≤ l → l = c → c * b ≤ 140737488355328 → c ≤ 140737488355328 → K l.toNat → AMk b l c K
def amake (L : Lay) (d : Nat) (st : AS) (t : TypeId) (l c : AV) (K : AV → AS → Prop) : Prop :=
  match layGet L t, l, c with
  | some ti, .v (.int _ l), .v (.int _ c) => match ti.kind with
    | .slice e => match layGet L e with
      | some ei => bif (Nat.ble 1 ei.size && Nat.beq ei.zero.length ei.size) && ei.zero.all (fun x => x.oneCell') then AMk ei.bytes l c (fun n => K (.own d) (st.obj d d (.row e ei.size n true (fun _ => ei.zero.map .v)))) else False
      | none => False
    | _ => False
  | _, _, _ => False
/-- A slice's first elements, as an array. -/
def atoArr (L : Lay) (t : TypeId) (x : AV) (K : AV → Prop) : Prop :=
  match layGet L t, x with
  | some ti, .sl s n _ f => match ti.kind with
    | .array m e => match layGet L e with
      | some ei => bif Nat.beq s ei.size && Nat.ble 1 m then Req (m ≤ n) (K (.el (flat m f) 0)) else False
      | none => False
    | _ => False
  | _, _ => False

def alen (L : Lay) (st : AS) (t : TypeId) (x : AV) (K : AV → Prop) : Prop :=
  match layGet L t with
  | none => False
  | some i => match i.kind, x with
  | .str, .v (.string b) => K (.v (.int .i64 (b.size : Int)))
  | .slice _, .v (.slice none n _) => K (.v (.int .i64 (n : Int)))
  | .slice _, .sl _ n _ _ => K (.v (.int .i64 (n : Int)))
  | .slice _, .own id => (match findObj id st.heap with | some (.row _ _ n _ _) => K (.v (.int .i64 (n : Int))) | _ => False)
  | .array m _, _ => K (.v (.int .i64 (m : Int)))
  | _, _ => False

/-- A call: what it was given reads as the contract asks. -/
def see0 (h : List (Nat × AO)) : AV → AV
  | .own id => match findObj id h with | some (.row _ s n sc f) => .sl s n sc f | _ => .junk
  | .v x => .v x
  | .sl s n sc f => .sl s n sc f
  | _ => .junk
def see1 (h : List (Nat × AO)) : AV → AV
  | .agg cs => .agg (cs.map (see0 h))
  | x => see0 h x

inductive Sub0 (h : List (Nat × AO)) : AV → AV → Prop where
  | eq (a : AV) : Sub0 h a (see0 h a)
  | nil (s : Nat) (sc : Bool) (f : Nat → List AV) : 0 < s → Sub0 h (.v (.slice none 0 0)) (.sl s 0 sc f)
inductive Sub1 (h : List (Nat × AO)) : AV → AV → Prop where
  | eq (a : AV) : Sub1 h a (see1 h a)
  | nil (s : Nat) (sc : Bool) (f : Nat → List AV) : 0 < s → Sub1 h (.v (.slice none 0 0)) (.sl s 0 sc f)
  | agg (cs ds : List AV) : cs.length = ds.length → (∀ (i : Nat) (x y : AV), cs[i]? = some x → ds[i]? = some y → Sub0 h x y) → Sub1 h (.agg cs) (.agg ds)


def SubL (h : List (Nat × AO)) (xs ys : List AV) : Prop := xs.length = ys.length ∧ ∀ (i : Nat) (x y : AV), xs[i]? = some x → ys[i]? = some y → Sub1 h x y
theorem SubL.nil {h : List (Nat × AO)} : SubL h [] [] := ⟨rfl, fun i x y hx => by simp at hx⟩
theorem SubL.cons {h : List (Nat × AO)} {x y : AV} {xs ys : List AV} (h0 : Sub1 h x y) (hr : SubL h xs ys) : SubL h (x :: xs) (y :: ys) := by
  refine ⟨by simpa using hr.1, fun i a b ha hb => ?_⟩
  cases i with
  | zero => simp at ha hb; subst ha hb; exact h0
  | succ i => exact hr.2 i a b (by simpa using ha) (by simpa using hb)

def nodupL : List Nat → Bool
  | [] => true
  | x :: l => !(l.any (Nat.beq x)) && nodupL l
theorem nodupL_of : ∀ {l : List Nat}, nodupL l = true → l.Nodup
  | [], _ => List.nodup_nil
  | x :: l, h => by
    simp only [nodupL, Bool.and_eq_true, Bool.not_eq_true'] at h
    refine List.nodup_cons.2 ⟨fun hx => ?_, nodupL_of h.2⟩
    have := List.any_eq_false.1 h.1 x hx
    simp at this

/-- A function with a body. -/
def Enters (P : Program) (f : FuncId) : Prop := ∃ fn c, P.funcs[f]? = some fn ∧ (fn.name == "runtime.NumGoroutine") = false ∧ fn.body = some c

/-- What a function leaves, whatever memory it finds: a value, and objects of its own. -/
def ASpec (P : Program) (f : FuncId) (avs : List AV) (r : AV) (h : List (Nat × AO)) : Prop :=
  Enters P f ∧ ∀ (w : World) (keep : Nat → Prop) (args : List Value), (∀ b, keep b → b < w.heap.size) → All2 (C1 ⟨w, keep, fun _ => undef⟩) avs args →
    Calls P f args.toArray w fun e w' => ∃ u ρ, e = .returned u ∧ Below w.heap.size w w' ∧ C2 (cxOf (base0 w keep) w' ρ h) r u ∧ (∀ p ∈ h, ObjOk (cxOf (base0 w keep) w' ρ h) p.1 p.2) ∧ (blocksOf ρ h).Nodup ∧ ∀ b ∈ blocksOf ρ h, w.heap.size ≤ b

/-- What a function does to objects that it is given: from hin to hout (those with the same names are the same objects). -/
def MSpec (P : Program) (f : FuncId) (hin : List (Nat × AO)) (avs : List AV) (r : AV) (hout : List (Nat × AO)) : Prop :=
  Enters P f ∧ ∀ (w : World) (keep : Nat → Prop) (ρ : Nat → Value) (args : List Value), (∀ b, keep b → b < w.heap.size) → (∀ p ∈ hin, ObjOk ⟨w, keep, ρ⟩ p.1 p.2) → (blocksOf ρ hin).Nodup → (∀ b ∈ blocksOf ρ hin, b < w.heap.size ∧ ¬ keep b) → All2 (C1 ⟨w, keep, ρ⟩) avs args →
    Calls P f args.toArray w fun e w' => ∃ u ρ', e = .returned u ∧ BelowM (fun b => b ∈ blocksOf ρ hin) w.heap.size w w' ∧ (∀ p ∈ hin, ∀ q ∈ hout, q.1 = p.1 → ρ' p.1 = ρ p.1) ∧
      C2 (cxOf ⟨w, keep, fun b => b ∈ blocksOf ρ hin⟩ w' ρ' hout) r u ∧ (∀ p ∈ hout, ObjOk (cxOf ⟨w, keep, fun b => b ∈ blocksOf ρ hin⟩ w' ρ' hout) p.1 p.2) ∧ (blocksOf ρ' hout).Nodup ∧ ∀ b ∈ blocksOf ρ' hout, w.heap.size ≤ b ∨ b ∈ blocksOf ρ hin

def hasN (i : Nat) : List (Nat × AO) → Bool
  | [] => false
  | (k, _) :: l => Nat.beq k i || hasN i l
def ref0 (h : List (Nat × AO)) : AV → Bool
  | .own i => hasN i h
  | .eown i .. => hasN i h
  | .box i _ => hasN i h
  | _ => true
def ref1 (h : List (Nat × AO)) : AV → Bool
  | .agg cs => cs.all (ref0 h)
  | .fn _ cs => cs.all (ref0 h)
  | x => ref0 h x
def ref2 (h : List (Nat × AO)) : AV → Bool
  | .tup vs => vs.all (ref1 h)
  | x => ref1 h x
def refsO (h : List (Nat × AO)) : AO → Bool
  | .box _ cs => cs.all (ref0 h)
  | .row .. => true
def closedH (h : List (Nat × AO)) : List (Nat × AO) → Bool
  | [] => true
  | (_, o) :: l => refsO h o && closedH h l
def namesIn (d : Nat) (hin : List (Nat × AO)) : List (Nat × AO) → Bool
  | [] => true
  | (k, _) :: l => (hasN k hin || Nat.beq k d) && namesIn d hin l
def noTup : AV → Bool
  | .tup _ => false
  | _ => true
def restN (d : Nat) (hin : List (Nat × AO)) : List (Nat × AO) → List (Nat × AO)
  | [] => []
  | (k, o) :: l => bif Nat.beq k d || hasN k hin then restN d hin l else (k, o) :: restN d hin l
/-- The objects hin have become hout (of which d alone is new). -/
def AS.chg (st : AS) (d : Nat) (hin hout : List (Nat × AO)) : AS := ⟨mapS (scrub2 d) st.sl, hout ++ scrubH d (restN d hin st.heap), st.back.map (mapS (scrub2 d)), Nat.add d 1⟩
def HasH (st : AS) : List (Nat × AO) → Prop
  | [] => True
  | (k, o) :: l => findObj k st.heap = some o ∧ HasH st l

/-- Results that a caller can take over: plain values, slices that are read, the one new row d. -/
def ok0 (d : Option Nat) : AV → Bool
  | .v _ => true
  | .sl .. => true
  | .own i => (match d with | some j => Nat.beq i j | none => false)
  | _ => false
def ok1 (d : Option Nat) : AV → Bool
  | .agg cs => cs.all (ok0 d)
  | x => ok0 d x
def ok2 (d : Option Nat) : AV → Bool
  | .tup vs => vs.all (ok1 d)
  | x => ok1 d x
def noSl0 : AV → Bool
  | .sl .. => false
  | _ => true
def noSl1 : AV → Bool
  | .agg cs => cs.all noSl0
  | x => noSl0 x
def noSl2 : AV → Bool
  | .tup vs => vs.all noSl1
  | x => noSl1 x

/-- The own rows among what is handed to a call are from now on only read. -/
def frz0 (st : AS) : AV → AS
  | .own id => match findObj id st.heap with | some (.row _ s n sc f) => st.freeze id s n sc f | _ => st
  | _ => st
def frz (st : AS) : AV → AS
  | .agg cs => cs.foldl frz0 st
  | x => frz0 st x
def frzL (st : AS) (l : List AV) : AS := l.foldl frz st

inductive AExit where
  | normal | exit (id : Nat) | ret

/-- How code is reckoned: for a call that is walked into. -/
abbrev Walk := Nat → Nat → Code → (AExit → AS → Prop) → AS → Prop

/-! ### A state, written out: nothing is said by it, but it is reckoned once -/
def hd0 (x : AV) (K : AV → Prop) : Prop :=
  match x with
  | .v y => K (.v y)
  | .agg cs => K (.agg cs)
  | .tup vs => K (.tup vs)
  | .sl s n sc f => K (.sl s n sc f)
  | .own i => K (.own i)
  | .eown i s j k => K (.eown i s j k)
  | .box i k => K (.box i k)
  | .el cs k => K (.el cs k)
  | .fn g cs => K (.fn g cs)
  | .junk => K .junk
def hdL0 : List AV → (List AV → Prop) → Prop
  | [], K => K []
  | x :: l, K => hd0 x (fun x => hdL0 l (fun r => K (x :: r)))
def hd1 (x : AV) (K : AV → Prop) : Prop :=
  match x with
  | .v y => K (.v y)
  | .agg cs => hdL0 cs (fun cs => K (.agg cs))
  | .tup vs => K (.tup vs)
  | .sl s n sc f => K (.sl s n sc f)
  | .own i => K (.own i)
  | .eown i s j k => K (.eown i s j k)
  | .box i k => K (.box i k)
  | .el cs k => hdL0 cs (fun cs => K (.el cs k))
  | .fn g cs => hdL0 cs (fun cs => K (.fn g cs))
  | .junk => K .junk
def hdL1 : List AV → (List AV → Prop) → Prop
  | [], K => K []
  | x :: l, K => hd1 x (fun x => hdL1 l (fun r => K (x :: r)))
def hd2 (x : AV) (K : AV → Prop) : Prop :=
  match x with
  | .v y => K (.v y)
  | .agg cs => hdL0 cs (fun cs => K (.agg cs))
  | .tup vs => hdL1 vs (fun vs => K (.tup vs))
  | .sl s n sc f => K (.sl s n sc f)
  | .own i => K (.own i)
  | .eown i s j k => K (.eown i s j k)
  | .box i k => K (.box i k)
  | .el cs k => hdL0 cs (fun cs => K (.el cs k))
  | .fn g cs => hdL0 cs (fun cs => K (.fn g cs))
  | .junk => K .junk
theorem hd0_eq (x : AV) (K : AV → Prop) : hd0 x K = K x := by cases x <;> rfl
theorem hdL0_eq : ∀ (l : List AV) (K : List AV → Prop), hdL0 l K = K l
  | [], _ => rfl
  | x :: l, K => by simp only [hdL0, hd0_eq, hdL0_eq l]
theorem hd1_eq (x : AV) (K : AV → Prop) : hd1 x K = K x := by cases x <;> first | rfl | exact hdL0_eq _ _
theorem hdL1_eq : ∀ (l : List AV) (K : List AV → Prop), hdL1 l K = K l
  | [], _ => rfl
  | x :: l, K => by simp only [hdL1, hd1_eq, hdL1_eq l]
theorem hd2_eq (x : AV) (K : AV → Prop) : hd2 x K = K x := by cases x <;> first | rfl | exact hdL0_eq _ _ | exact hdL1_eq _ _

def bitB (lv k : Nat) : Bool := Nat.beq (Nat.land (Nat.shiftRight lv k) 1) 1
def filt (lv : Nat) : List (Nat × AV) → List (Nat × AV)
  | [] => []
  | (k, v) :: l => bif bitB lv k then (k, v) :: filt lv l else filt lv l
def nrmS (lv : Nat) : List (Nat × AV) → (List (Nat × AV) → Prop) → Prop
  | [], K => K []
  | (k, v) :: l, K => bif bitB lv k then hd2 v (fun v => nrmS lv l (fun r => K ((k, v) :: r))) else nrmS lv l K
def nrmT : List (Nat × AV) → (List (Nat × AV) → Prop) → Prop
  | [], K => K []
  | (k, v) :: l, K => hd2 v (fun v => nrmT l (fun r => K ((k, v) :: r)))
def nrmH : List (Nat × AO) → (List (Nat × AO) → Prop) → Prop
  | [], K => K []
  | (i, .box t cs) :: l, K => hdL0 cs (fun cs => nrmH l (fun r => K ((i, .box t cs) :: r)))
  | (i, .row e s n sc f) :: l, K => match sc with
    | true => nrmH l (fun r => K ((i, .row e s n true f) :: r))
    | false => nrmH l (fun r => K ((i, .row e s n false f) :: r))
def nrmBk : List (List (Nat × AV)) → (List (List (Nat × AV)) → Prop) → Prop
  | [], K => K []
  | f :: fs, K => nrmT f (fun f => nrmBk fs (fun r => K (f :: r)))
def AS.keepSl (st : AS) (lv : Nat) : AS := ⟨filt lv st.sl, st.heap, st.back, st.base⟩
def nrm (lv : Nat) (st : AS) (K : AS → Prop) : Prop := match st with | ⟨sl, hp, bk, b⟩ => nrmS lv sl (fun l => nrmH hp (fun h => nrmBk bk (fun bk => K ⟨l, h, bk, b⟩)))
def nrmA (st : AS) (K : AS → Prop) : Prop := match st with | ⟨sl, hp, bk, b⟩ => nrmT sl (fun l => nrmH hp (fun h => K ⟨l, h, bk, b⟩))
theorem nrmS_eq (lv : Nat) : ∀ (l : List (Nat × AV)) (K : List (Nat × AV) → Prop), nrmS lv l K = K (filt lv l)
  | [], _ => rfl
  | (k, v) :: l, K => by
    simp only [nrmS, filt]
    cases bitB lv k with
    | true => simp only [cond_true, hd2_eq, nrmS_eq lv l]
    | false => simp only [cond_false, nrmS_eq lv l]
theorem nrmT_eq : ∀ (l : List (Nat × AV)) (K : List (Nat × AV) → Prop), nrmT l K = K l
  | [], _ => rfl
  | (k, v) :: l, K => by simp only [nrmT, hd2_eq, nrmT_eq l]
theorem nrmH_eq : ∀ (l : List (Nat × AO)) (K : List (Nat × AO) → Prop), nrmH l K = K l
  | [], _ => rfl
  | (i, .box t cs) :: l, K => by simp only [nrmH, hdL0_eq, nrmH_eq l]
  | (i, .row e s n true f) :: l, K => by simp only [nrmH, nrmH_eq l]
  | (i, .row e s n false f) :: l, K => by simp only [nrmH, nrmH_eq l]
theorem nrmBk_eq : ∀ (l : List (List (Nat × AV))) (K : List (List (Nat × AV)) → Prop), nrmBk l K = K l
  | [], _ => rfl
  | f :: fs, K => by simp only [nrmBk, nrmT_eq, nrmBk_eq fs]
theorem nrm_eq (lv : Nat) (st : AS) (K : AS → Prop) : nrm lv st K = K (st.keepSl lv) := by cases st; simp only [nrm, nrmS_eq, nrmH_eq, nrmBk_eq]; rfl
theorem nrmA_eq (st : AS) (K : AS → Prop) : nrmA st K = K st := by cases st; simp only [nrmA, nrmT_eq, nrmH_eq]

def aresV (L : Lay) (st : AS) : ResultVar → (AV → Prop) → Prop
  | .tmp t, K => K (st.tmps t)
  | .cell p t, K => aload L st t (st.tmps p) K
def aresL (L : Lay) (st : AS) : List ResultVar → (List AV → Prop) → Prop
  | [], K => K []
  | r :: rs, K => aresV L st r (fun x => aresL L st rs (fun xs => K (x :: xs)))
def untup : AV → AV
  | .tup _ => .junk
  | x => x
def ares (L : Lay) (st : AS) (rs : List ResultVar) (K : AV → Prop) : Prop :=
  aresL L st rs (fun xs => match xs with | [x] => K x | xs => K (.tup (xs.map untup)))

def enumA : Nat → List AV → List (Nat × AV)
  | _, [] => []
  | k, x :: l => (k, x) :: enumA (k + 1) l
def start (avs : List AV) : AS := ⟨enumA 0 avs, [], [], 0⟩
/-- Into a callee; and back. -/
def AS.into (st : AS) (avs : List AV) : AS := ⟨enumA 0 avs, st.heap, st.sl :: st.back, st.base⟩
def intoK (st : AS) (avs : List AV) (K : AS → Prop) : Prop := match st with | ⟨sl, h, bk, b⟩ => K ⟨enumA 0 avs, h, sl :: bk, b⟩
theorem intoK_eq (st : AS) (avs : List AV) (K : AS → Prop) : intoK st avs K = K (st.into avs) := by
  obtain ⟨sl, h, bk, b⟩ := st
  rfl
def AS.out (st : AS) : AS := match st.back with | f :: r => ⟨f, st.heap, r, st.base⟩ | [] => st

/-- A name, as a numeral (it says nothing; but it is reckoned once). -/
def litL (n m : Nat) (K : Nat → Prop) : Prop := bif Nat.beq n m then K m else K n
def litB (b : Bool) (X Y : Prop) : Prop := bif b then X else Y
theorem litL_eq (n m : Nat) (K : Nat → Prop) : litL n m K = K n := by
  unfold litL
  cases h : Nat.beq n m with
  | true => rw [Nat.eq_of_beq_eq_true h]; rfl
  | false => rfl
theorem litB_eq {b : Bool} {X Y Z : Prop} (h1 : X = Z) (h2 : Y = Z) : litB b X Y = Z := by cases b; exact h2; exact h1
def forceLit (n : Nat) (K : Nat → Prop) : Prop :=
  litB (Nat.ble 64 n) (litB (Nat.ble 96 n) (litB (Nat.ble 112 n) (litB (Nat.ble 120 n) (litB (Nat.ble 124 n) (litB (Nat.ble 126 n) (litB (Nat.ble 127 n) (litL n 127 K) (litL n 126 K)) (litB (Nat.ble 125 n) (litL n 125 K) (litL n 124 K))) (litB (Nat.ble 122 n) (litB (Nat.ble 123 n) (litL n 123 K) (litL n 122 K)) (litB (Nat.ble 121 n) (litL n 121 K) (litL n 120 K)))) (litB (Nat.ble 116 n) (litB (Nat.ble 118 n) (litB (Nat.ble 119 n) (litL n 119 K) (litL n 118 K)) (litB (Nat.ble 117 n) (litL n 117 K) (litL n 116 K))) (litB (Nat.ble 114 n) (litB (Nat.ble 115 n) (litL n 115 K) (litL n 114 K)) (litB (Nat.ble 113 n) (litL n 113 K) (litL n 112 K))))) (litB (Nat.ble 104 n) (litB (Nat.ble 108 n) (litB (Nat.ble 110 n) (litB (Nat.ble 111 n) (litL n 111 K) (litL n 110 K)) (litB (Nat.ble 109 n) (litL n 109 K) (litL n 108 K))) (litB (Nat.ble 106 n) (litB (Nat.ble 107 n) (litL n 107 K) (litL n 106 K)) (litB (Nat.ble 105 n) (litL n 105 K) (litL n 104 K)))) (litB (Nat.ble 100 n) (litB (Nat.ble 102 n) (litB (Nat.ble 103 n) (litL n 103 K) (litL n 102 K)) (litB (Nat.ble 101 n) (litL n 101 K) (litL n 100 K))) (litB (Nat.ble 98 n) (litB (Nat.ble 99 n) (litL n 99 K) (litL n 98 K)) (litB (Nat.ble 97 n) (litL n 97 K) (litL n 96 K)))))) (litB (Nat.ble 80 n) (litB (Nat.ble 88 n) (litB (Nat.ble 92 n) (litB (Nat.ble 94 n) (litB (Nat.ble 95 n) (litL n 95 K) (litL n 94 K)) (litB (Nat.ble 93 n) (litL n 93 K) (litL n 92 K))) (litB (Nat.ble 90 n) (litB (Nat.ble 91 n) (litL n 91 K) (litL n 90 K)) (litB (Nat.ble 89 n) (litL n 89 K) (litL n 88 K)))) (litB (Nat.ble 84 n) (litB (Nat.ble 86 n) (litB (Nat.ble 87 n) (litL n 87 K) (litL n 86 K)) (litB (Nat.ble 85 n) (litL n 85 K) (litL n 84 K))) (litB (Nat.ble 82 n) (litB (Nat.ble 83 n) (litL n 83 K) (litL n 82 K)) (litB (Nat.ble 81 n) (litL n 81 K) (litL n 80 K))))) (litB (Nat.ble 72 n) (litB (Nat.ble 76 n) (litB (Nat.ble 78 n) (litB (Nat.ble 79 n) (litL n 79 K) (litL n 78 K)) (litB (Nat.ble 77 n) (litL n 77 K) (litL n 76 K))) (litB (Nat.ble 74 n) (litB (Nat.ble 75 n) (litL n 75 K) (litL n 74 K)) (litB (Nat.ble 73 n) (litL n 73 K) (litL n 72 K)))) (litB (Nat.ble 68 n) (litB (Nat.ble 70 n) (litB (Nat.ble 71 n) (litL n 71 K) (litL n 70 K)) (litB (Nat.ble 69 n) (litL n 69 K) (litL n 68 K))) (litB (Nat.ble 66 n) (litB (Nat.ble 67 n) (litL n 67 K) (litL n 66 K)) (litB (Nat.ble 65 n) (litL n 65 K) (litL n 64 K))))))) (litB (Nat.ble 32 n) (litB (Nat.ble 48 n) (litB (Nat.ble 56 n) (litB (Nat.ble 60 n) (litB (Nat.ble 62 n) (litB (Nat.ble 63 n) (litL n 63 K) (litL n 62 K)) (litB (Nat.ble 61 n) (litL n 61 K) (litL n 60 K))) (litB (Nat.ble 58 n) (litB (Nat.ble 59 n) (litL n 59 K) (litL n 58 K)) (litB (Nat.ble 57 n) (litL n 57 K) (litL n 56 K)))) (litB (Nat.ble 52 n) (litB (Nat.ble 54 n) (litB (Nat.ble 55 n) (litL n 55 K) (litL n 54 K)) (litB (Nat.ble 53 n) (litL n 53 K) (litL n 52 K))) (litB (Nat.ble 50 n) (litB (Nat.ble 51 n) (litL n 51 K) (litL n 50 K)) (litB (Nat.ble 49 n) (litL n 49 K) (litL n 48 K))))) (litB (Nat.ble 40 n) (litB (Nat.ble 44 n) (litB (Nat.ble 46 n) (litB (Nat.ble 47 n) (litL n 47 K) (litL n 46 K)) (litB (Nat.ble 45 n) (litL n 45 K) (litL n 44 K))) (litB (Nat.ble 42 n) (litB (Nat.ble 43 n) (litL n 43 K) (litL n 42 K)) (litB (Nat.ble 41 n) (litL n 41 K) (litL n 40 K)))) (litB (Nat.ble 36 n) (litB (Nat.ble 38 n) (litB (Nat.ble 39 n) (litL n 39 K) (litL n 38 K)) (litB (Nat.ble 37 n) (litL n 37 K) (litL n 36 K))) (litB (Nat.ble 34 n) (litB (Nat.ble 35 n) (litL n 35 K) (litL n 34 K)) (litB (Nat.ble 33 n) (litL n 33 K) (litL n 32 K)))))) (litB (Nat.ble 16 n) (litB (Nat.ble 24 n) (litB (Nat.ble 28 n) (litB (Nat.ble 30 n) (litB (Nat.ble 31 n) (litL n 31 K) (litL n 30 K)) (litB (Nat.ble 29 n) (litL n 29 K) (litL n 28 K))) (litB (Nat.ble 26 n) (litB (Nat.ble 27 n) (litL n 27 K) (litL n 26 K)) (litB (Nat.ble 25 n) (litL n 25 K) (litL n 24 K)))) (litB (Nat.ble 20 n) (litB (Nat.ble 22 n) (litB (Nat.ble 23 n) (litL n 23 K) (litL n 22 K)) (litB (Nat.ble 21 n) (litL n 21 K) (litL n 20 K))) (litB (Nat.ble 18 n) (litB (Nat.ble 19 n) (litL n 19 K) (litL n 18 K)) (litB (Nat.ble 17 n) (litL n 17 K) (litL n 16 K))))) (litB (Nat.ble 8 n) (litB (Nat.ble 12 n) (litB (Nat.ble 14 n) (litB (Nat.ble 15 n) (litL n 15 K) (litL n 14 K)) (litB (Nat.ble 13 n) (litL n 13 K) (litL n 12 K))) (litB (Nat.ble 10 n) (litB (Nat.ble 11 n) (litL n 11 K) (litL n 10 K)) (litB (Nat.ble 9 n) (litL n 9 K) (litL n 8 K)))) (litB (Nat.ble 4 n) (litB (Nat.ble 6 n) (litB (Nat.ble 7 n) (litL n 7 K) (litL n 6 K)) (litB (Nat.ble 5 n) (litL n 5 K) (litL n 4 K))) (litB (Nat.ble 2 n) (litB (Nat.ble 3 n) (litL n 3 K) (litL n 2 K)) (litB (Nat.ble 1 n) (litL n 1 K) (litL n 0 K)))))))
theorem forceLit_eq (n : Nat) (K : Nat → Prop) : forceLit n K = K n := by
  unfold forceLit
  repeat' (first | exact litL_eq _ _ _ | apply litB_eq)

inductive ACall (P : Program) (L : Lay) (W : Walk) (d : Nat) (f : FuncId) (avs : List AV) (st : AS) (K : AV → AS → Prop) : Prop where
  | inl (lv : Nat) (fn : Func) (c : Code) (hf : P.funcs[f]? = some fn) (hn : (fn.name == "runtime.NumGoroutine") = false) (hb : fn.body = some c) (hsz : Nat.ble avs.length fn.ntmps = true)
      (h : intoK st avs (W fn.ntmps lv c (fun e st' => match e with | .exit _ => False | .normal => ares L st' fn.results.toList (fun x => nrmA (st'.out) (K x)) | .ret => ares L st' fn.results.toList (fun x => nrmA (st'.out) (K x))))) : ACall P L W d f avs st K
  | chg (hin hout : List (Nat × AO)) (r : AV) (hs : MSpec P f hin avs r hout) (hh : HasH st hin) (hb : (nodupL (hin.map (·.1)) && avs.all noTup && closedH hout hout && ref2 hout r && namesIn d hin hout) = true) : K r (st.chg d hin hout) → ACall P L W d f avs st K
  | plain (bs : List AV) (r : AV) (hs : ASpec P f bs r []) (hsub : SubL st.heap avs bs) (hr : ok2 none r = true) : K r (bif noSl2 r then st else frzL st avs) → ACall P L W d f avs st K
  | fresh (bs : List AV) (r : AV) (e : TypeId) (s n : Nat) (sc : Bool) (g : Nat → List AV) (hs : ASpec P f bs r [(d, .row e s n sc g)]) (hsub : SubL st.heap avs bs) (hr : ok2 (some d) r = true) :
      K r ((bif noSl2 r && sc then st else frzL st avs).obj d d (.row e s n sc g)) → ACall P L W d f avs st K

def amin (x y : AV) (K : AV → Prop) : Prop :=
  match x, y with
  | .v (.int k a), .v (.int _ b) => K (.v (.int k (if b < a then b else a)))
  | _, _ => False
def amax (x y : AV) (K : AV → Prop) : Prop :=
  match x, y with
  | .v (.int k a), .v (.int _ b) => K (.v (.int k (if b > a then b else a)))
  | _, _ => False

def abuiltin (L : Lay) (d : Nat) (st : AS) (b : Builtin) (ts : List TypeId) (xs : List AV) (K : AV → AS → Prop) : Prop :=
  match b, ts, xs with
  | .len, [t], [x] => alen L st t x (fun y => K y st)
  | .append, [t, tx], [x, y] => aappend L d st t tx x y K
  | .min, _, [x, y] => amin x y (fun z => K z st)
  | .max, _, [x, y] => amax x y (fun z => K z st)
  | _, _, _ => False

/-- The name of a new object. -/
def nameOf (st : AS) (K : Nat → Prop) : Prop := match st with | ⟨_, _, _, b⟩ => forceLit b K
theorem nameOf_eq (st : AS) (K : Nat → Prop) : nameOf st K = K st.base := by cases st; exact forceLit_eq _ _

def aop (P : Program) (L : Lay) (W : Walk) (_d : Nat) (st : AS) (op : Op) (K : AV → AS → Prop) : Prop :=
  match op with
  | .move x => K (st.ev x) st
  | .assign x => K (st.ev x) st
  | .pick c a b => match st.ev c with | .v (.bool t) => K (match t with | true => st.ev a | false => st.ev b) st | _ => False
  | .alloc t => match layGet L t with | some i => nameOf st (fun d => K (.box d 0) (st.obj d d (.box t (i.zero.map .v)))) | none => False
  | .box t x => match (st.ev x).cells? with | some cs => bif cs.all (oneB st.heap) then nameOf st (fun d => K (.box d 0) (st.obj d d (.box t cs))) else False | none => False
  | .load t p => aload L st t (st.ev p) (fun y => K y st)
  | .store t p x => astore L st t (st.ev p) (st.ev x) (fun st' => K (.v undef) st')
  | .fieldAddr t x i => afieldAddr L t (st.ev x) i (fun y => K y st)
  | .field t x i => afield L t (st.ev x) i (fun y => K y st)
  | .indexAddr t x i => aindexAddr L st t (st.ev x) (st.ev i) (fun y => K y st)
  | .index t x i => aindex L t (st.ev x) (st.ev i) (fun y => K y st)
  | .extract x i => aextract (st.ev x) i (fun y => K y st)
  | .build t parts => abuild L st.heap t (parts.toList.map fun p => (p.1, st.ev p.2)) (fun y => K y st)
  | .buildSlice t n parts => nameOf st (fun d => abuildSlice L d st t n (parts.toList.map fun p => (p.1, st.ev p.2)) K)
  | .binOp o t x y _ => abin P L o t (st.ev x) (st.ev y) (fun z => K z st)
  | .unOp o _ x => aun o (st.ev x) (fun z => K z st)
  | .convert s t x => aconvert L st s t (st.ev x) (fun z => K z st)
  | .slice t x lo hi mx => aslice L st t (st.ev x) (lo.map st.ev) (hi.map st.ev) (mx.map st.ev) K
  | .nilCheck x => match st.ev x with | .box i k => K (.box i k) st | .fn g cs => K (.fn g cs) st | _ => False
  | .makeFunc (.func g) first caps => match first.toList with | [] => bif (caps.toList.map st.ev).all (oneB st.heap) then K (.fn g (caps.toList.map st.ev)) st else False | _ => False
  | .call c => match c.callee with
    | .builtin b => nameOf st (fun d => abuiltin L d st b c.argTypes.toList (c.args.toList.map st.ev) K)
    | .value x => match st.ev x with | .fn g caps => nameOf st (fun d => ACall P L W d g (c.args.toList.map st.ev ++ caps) st K) | _ => False
    | _ => False
  | .makeSlice t l c => nameOf st (fun d => amake L d st t (st.ev l) (st.ev c) K)
  | .sliceToArrayPointer t x => atoArr L t (st.ev x) (fun y => K y st)
  | _ => False

/-- A truth value that is not known parts the ways. -/
def BSpl (b : Bool) (A B : Prop) : Prop := match b with | true => A | false => B
theorem BSpl.mk {b : Bool} {A B : Prop} (h1 : b = true → A) (h2 : b = false → B) : BSpl b A B := by cases b; exact h2 rfl; exact h1 rfl
theorem BSpl.dec {p : Prop} [Decidable p] {A B : Prop} (h1 : p → A) (h2 : ¬ p → B) : BSpl (decide p) A B := by
  by_cases h : p
  · rw [decide_eq_true h]; exact h1 h
  · rw [decide_eq_false h]; exact h2 h
theorem BSpl.decY {p : Prop} [Decidable p] {A B : Prop} (h : p) (a : A) : BSpl (decide p) A B := by rw [decide_eq_true h]; exact a
theorem BSpl.decN {p : Prop} [Decidable p] {A B : Prop} (h : ¬ p) (a : B) : BSpl (decide p) A B := by rw [decide_eq_false h]; exact a
theorem BSpl.yes {b : Bool} {A B : Prop} (h : b = true) (a : A) : BSpl b A B := by rw [h]; exact a
theorem BSpl.no {b : Bool} {A B : Prop} (h : b = false) (a : B) : BSpl b A B := by rw [h]; exact a

/-- A value with its outermost sign laid open. -/
def force (x : AV) (K : AV → Prop) : Prop :=
  match x with
  | .v (.bool b) => BSpl b (K (.v (.bool true))) (K (.v (.bool false)))
  | .v y => K (.v y)
  | .agg cs => K (.agg cs)
  | .tup vs => K (.tup vs)
  | .sl s n sc f => K (.sl s n sc f)
  | .own i => K (.own i)
  | .eown i s j k => K (.eown i s j k)
  | .box i k => K (.box i k)
  | .el cs k => K (.el cs k)
  | .fn g cs => K (.fn g cs)
  | .junk => K .junk
theorem force_eq (x : AV) (K : AV → Prop) : force x K = K x := by
  cases x with
  | v y =>
    cases y with
    | bool b => cases b <;> rfl
    | _ => rfl
  | _ => rfl

def aput (N : Nat) (st : AS) (d : Option Tmp) (x : AV) (K : AS → Prop) : Prop :=
  match d with
  | some d => bif Nat.ble (d + 1) N then force x (fun x => match st with | ⟨sl, h, bk, b⟩ => K ⟨(d, x) :: sl, h, bk, b⟩) else False
  | none => K st

def aopD (P : Program) (L : Lay) (W : Walk) (dst : Option Tmp) (st : AS) (op : Op) (K : AV → AS → Prop) : Prop :=
  match dst with
  | some d => aop P L W d st op K
  | none => aop P L W 0 st op K

def awpL (P : Program) (L : Lay) (W : Walk) (N : Nat) (ops : List Oper) (Q : AS → Prop) : List Oper → AS → Prop
  | [], st => Q st
  | ⟨dst, op, _, _, _, guard⟩ :: rest, st =>
    match guard with
    | none => aopD P L W dst st op (fun x st' => aput N st' dst x (awpL P L W N ops Q rest))
    | some (j, want) => match (ops[j]?).bind (·.dst) with
      | some dj => bif Nat.ble (dj + 1) N then (match st.tmps dj with
        | .v (.bool b) => (match b == want with
          | true => aopD P L W dst st op (fun x st' => aput N st' dst x (awpL P L W N ops Q rest))
          | false => aput N st dst (.v undef) (awpL P L W N ops Q rest))
        | .v (.tuple _) => aput N st dst (.v undef) (awpL P L W N ops Q rest)
        | _ => False) else False
      | none => False

/-- A value that says no more than another. -/
def AEq (x y : AV) : Prop := ∀ (X : CX) (u : Value), C2 X x u → C2 X y u
def OEq (o o' : AO) : Prop := ∀ (X : CX) (id : Nat), ObjOk X id o → ObjOk X id o'
theorem AEq.refl (x : AV) : AEq x x := fun _ _ h => h
theorem OEq.refl (o : AO) : OEq o o := fun _ _ h => h

/-- Frames that say no more than others. -/
def BackLe : List (List (Nat × AV)) → List (List (Nat × AV)) → Prop
  | [], [] => True
  | f :: fs, h :: hs => (∀ t, ofL h t = .junk ∨ AEq (ofL f t) (ofL h t)) ∧ BackLe fs hs
  | _, _ => False
theorem BackLe.refl : ∀ fs, BackLe fs fs
  | [] => trivial
  | _ :: fs => ⟨fun _ => .inr (AEq.refl _), BackLe.refl fs⟩

/-- A state that says no more than another (what is not named is not known). -/
structure LeS (st S : AS) : Prop where
  tm : ∀ t, S.tmps t = .junk ∨ AEq (st.tmps t) (S.tmps t)
  hp : ∀ p ∈ S.heap, ∃ o, findObj p.1 st.heap = some o ∧ OEq o p.2
  nd : (S.heap.map (·.1)).Nodup
  bk : BackLe st.back S.back

def LeT (st : AS) : List (Nat × AV) → Prop
  | [] => True
  | p :: l => AEq (st.tmps p.1) p.2 ∧ LeT st l
def LeH (st : AS) : List (Nat × AO) → Prop
  | [] => True
  | p :: l => (∃ o, findObj p.1 st.heap = some o ∧ OEq o p.2) ∧ LeH st l
def nodupB : List Nat → Bool
  | [] => true
  | x :: l => !(l.any (Nat.beq x)) && nodupB l

theorem nodup_of : ∀ {l : List Nat}, nodupB l = true → l.Nodup
  | [], _ => List.nodup_nil
  | x :: l, h => by
    simp only [nodupB, Bool.and_eq_true, Bool.not_eq_true'] at h
    refine List.nodup_cons.2 ⟨fun hx => ?_, nodup_of h.2⟩
    have := List.any_eq_false.1 h.1 x hx
    simp at this

theorem LeS.mk' {st : AS} (l : List (Nat × AV)) (h : List (Nat × AO)) (ht : LeT st l) (hh : LeH st h) (hn : nodupB (h.map (·.1)) = true) : LeS st ⟨l, h, st.back, st.base⟩ := by
  refine ⟨fun t => ?_, fun p hp => ?_, nodup_of hn, BackLe.refl _⟩
  · induction l with
    | nil => exact .inl rfl
    | cons p l ih =>
      show ofL (p :: l) t = .junk ∨ AEq (st.tmps t) (ofL (p :: l) t)
      simp only [ofL]
      cases hb : Nat.beq t p.1 with
      | true =>
        obtain rfl := Nat.eq_of_beq_eq_true hb
        exact .inr ht.1
      | false => exact ih ht.2
  · induction h with
    | nil => cases hp
    | cons q h ih =>
      rcases List.mem_cons.1 hp with rfl | hp'
      · exact hh.1
      · exact ih hh.2 (by simp only [List.map_cons, nodupB, Bool.and_eq_true] at hn; exact hn.2) hp'

/-! ### Other names for the objects -/
def lookN : List (Nat × Nat) → Nat → Option Nat
  | [], _ => none
  | (k, i) :: r, x => bif Nat.beq x k then some i else lookN r x
def tgtB : List (Nat × Nat) → Nat → Bool
  | [], _ => false
  | (_, i) :: r, x => Nat.beq x i || tgtB r x
def renN (σ : List (Nat × Nat)) (k : Nat) : Option Nat := match lookN σ k with | some i => some i | none => bif tgtB σ k then none else some k
def ren0 (σ : List (Nat × Nat)) : AV → AV
  | .v x => .v x
  | .agg cs => .agg cs
  | .tup vs => .tup vs
  | .sl s n sc f => .sl s n sc f
  | .own id => match renN σ id with | some i => .own i | none => .junk
  | .eown id s i k => match renN σ id with | some j => .eown j s i k | none => .junk
  | .box id off => match renN σ id with | some i => .box i off | none => .junk
  | .el cs k => .el cs k
  | .fn g cs => .fn g cs
  | .junk => .junk

def ren1 (σ : List (Nat × Nat)) : AV → AV
  | .v x => .v x
  | .agg cs => .agg (cs.map (ren0 σ))
  | .tup vs => .tup vs
  | .sl s n sc f => .sl s n sc f
  | .own id => match renN σ id with | some i => .own i | none => .junk
  | .eown id s i k => match renN σ id with | some j => .eown j s i k | none => .junk
  | .box id off => match renN σ id with | some i => .box i off | none => .junk
  | .el cs k => .el cs k
  | .fn g cs => .fn g (cs.map (ren0 σ))
  | .junk => .junk

def ren2 (σ : List (Nat × Nat)) : AV → AV
  | .v x => .v x
  | .agg cs => .agg (cs.map (ren0 σ))
  | .tup vs => .tup (vs.map (ren1 σ))
  | .sl s n sc f => .sl s n sc f
  | .own id => match renN σ id with | some i => .own i | none => .junk
  | .eown id s i k => match renN σ id with | some j => .eown j s i k | none => .junk
  | .box id off => match renN σ id with | some i => .box i off | none => .junk
  | .el cs k => .el cs k
  | .fn g cs => .fn g (cs.map (ren0 σ))
  | .junk => .junk

def AO.ren (σ : List (Nat × Nat)) : AO → AO
  | .box t cs => .box t (cs.map (ren0 σ))
  | .row e s n sc f => .row e s n sc f
def renH (σ : List (Nat × Nat)) : List (Nat × AO) → List (Nat × AO)
  | [] => []
  | (k, o) :: h => match renN σ k with | some i => (i, o.ren σ) :: renH σ h | none => renH σ h
def AS.ren (st : AS) (σ : List (Nat × Nat)) : AS := ⟨mapS (ren2 σ) st.sl, renH σ st.heap, st.back.map (mapS (ren2 σ)), st.base⟩
/-- A state that says no more than another, under other names. -/
structure LeR (σ : List (Nat × Nat)) (st S : AS) : Prop where
  nd : nodupB (σ.map (·.2)) = true
  le : LeS (st.ren σ) S

/-- A loop of a known number of rounds. -/
def aunroll (body : (AExit → AS → Prop) → AS → Prop) (Q : AExit → AS → Prop) : Nat → AS → Prop
  | 0, _ => False
  | n + 1, st => body (fun e st' => match e with | .normal => aunroll body Q n st' | .exit i => Q (.exit i) st' | .ret => Q .ret st') st

/-- A loop: what holds at each round's head (S), a measure. -/
inductive ALoop (body : (AExit → AS → Prop) → AS → Prop) (Q : AExit → AS → Prop) : AS → Prop where
  | mk {st : AS} (X : Type) (S : X → AS) (m : X → Nat) (x0 : X) (σ : List (Nat × Nat)) (h0 : LeR σ st (S x0))
    (hb : ∀ x, body (fun e st' => match e with | .normal => ∃ y σ, LeR σ st' (S y) ∧ m y < m x | .exit i => Q (.exit i) st' | .ret => Q .ret st') (S x)) : ALoop body Q st
  | rounds {st : AS} (n : Nat) (h : aunroll body Q n st) : ALoop body Q st
  | nil {st : AS} (t d : Nat) (e : TypeId) (s : Nat) (f : Nat → List AV) (ht : st.tmps t = .v (.slice none 0 0)) (hs : 0 < s) (h : ALoop body Q ((st.obj d d (.row e s 0 true f)).put t (.own d))) : ALoop body Q st
  | frz {st : AS} (id : Nat) {e : TypeId} {s n : Nat} {sc : Bool} {f : Nat → List AV} (hf : findObj id st.heap = some (.row e s n sc f)) (h : ALoop body Q (st.freeze id s n sc f)) : ALoop body Q st

/-- A place in the code where less is known from now on. -/
inductive ACut (body : AS → Prop) (st : AS) : Prop where
  | mk (S : AS) (h0 : LeS st S) (hb : body S) : ACut body st

/-- Operations that leave the memory and the objects as they are. -/
def quietB : Op → Bool
  | .move _ => true
  | .assign _ => true
  | .pick .. => true
  | .load .. => true
  | .fieldAddr .. => true
  | .field .. => true
  | .indexAddr .. => true
  | .index .. => true
  | .extract .. => true
  | .build .. => true
  | .binOp .. => true
  | .unOp .. => true
  | .convert .. => true
  | .nilCheck _ => true
  | .sliceToArrayPointer .. => true
  | .call { callee := .builtin .len, .. } => true
  | _ => false

/-- A region that draws its order: all of it only reads; or it is known (for this very region) what it leaves. -/
inductive ADraw (P : Program) (L : Lay) (W : Walk) (N : Nat) (id : Nat) (ops : Array Oper) (K : AS → Prop) (st : AS) : Prop where
  | quiet (hm : P.follows .mixedOrders = true) (hB : Region.lexB .any ops = true) (hq : ops.toList.all (fun o => quietB o.op) = true) (h : awpL P L W N ops.toList K ops.toList st) : ADraw P L W N id ops K st
  | sem (h : ∀ (g : Base) (bs : List (Array Value)) (ρ : Nat → Value) (a : Act) (w : World) (E : Exit → Act → World → Prop), Rel g N bs ρ a w st → (∀ ρ a w st, Rel g N bs ρ a w st → K st → E .normal a w) → (Code.region id ops true).wp P E a w) : ADraw P L W N id ops K st

def awpS (P : Program) (L : Lay) (W : Walk) (N lv : Nat) : Code → (AExit → AS → Prop) → AS → Prop
  | .skip, Q, st => Q .normal st
  | .region id ops draw, Q, st => match draw with | false => awpL P L W N ops.toList (fun st' => nrm lv st' (Q .normal)) ops.toList st | true => ADraw P L W N id ops (fun st' => nrm lv st' (Q .normal)) st
  | .seq a b, Q, st => awpS P L W N lv a (fun e st' => match e with | .normal => awpS P L W N lv b Q st' | .exit i => Q (.exit i) st' | .ret => Q .ret st') st
  | .cond c a b, Q, st => match st.ev c with | .v (.bool t) => (match t with | true => awpS P L W N lv a Q st | false => awpS P L W N lv b Q st) | _ => False
  | .block id c, Q, st => awpS P L W N lv c (fun e st' => match e with | .normal => Q .normal st' | .exit i => (bif Nat.beq i id then Q .normal st' else Q (.exit i) st') | .ret => Q .ret st') st
  | .exit id, Q, st => Q (.exit id) st
  | .ret, Q, st => Q .ret st
  | .loop c, Q, st => ALoop (awpS P L W N lv c) Q st
  | _, _, _ => False

/-- Code, with calls walked into so many deep. -/
def awp (P : Program) (L : Lay) : Nat → Walk
  | 0 => fun _ _ _ _ _ => False
  | n + 1 => fun N lv c Q st => awpS P L (awp P L n) N lv c Q st

/-- What is handed back: all rows are only read now, but id, which is the new row d. -/
def ret0 (h : List (Nat × AO)) (id d : Nat) : AV → AV
  | .own i => bif Nat.beq i id then .own d else see0 h (.own i)
  | x => see0 h x
def ret1 (h : List (Nat × AO)) (id d : Nat) : AV → AV
  | .agg cs => .agg (cs.map (ret0 h id d))
  | x => ret0 h id d x
def ret2 (h : List (Nat × AO)) (id d : Nat) : AV → AV
  | .tup vs => .tup (vs.map (ret1 h id d))
  | x => ret1 h id d x
def see2 (h : List (Nat × AO)) : AV → AV
  | .tup vs => .tup (vs.map (see1 h))
  | x => see1 h x

inductive ARet (st : AS) (x : AV) : AV → List (Nat × AO) → Prop where
  | plain (r : AV) (hr : AEq (see2 st.heap x) r) : ARet st x r []
  | own (id d : Nat) (r : AV) (e : TypeId) (s n : Nat) (sc : Bool) (f : Nat → List AV) (o' : AO) (hf : findObj id st.heap = some (.row e s n sc f)) (ho : OEq (.row e s n sc f) o') (hr : AEq (ret2 st.heap id d x) r) : ARet st x r [(d, o')]


def retQ (L : Lay) (fn : Func) (r : AV) (h : List (Nat × AO)) : AExit → AS → Prop
  | .normal, st => ares L st fn.results.toList (fun x => ARet st x r h)
  | .ret, st => ares L st fn.results.toList (fun x => ARet st x r h)
  | .exit _, _ => False
end Go.Proofs.Ytbmojelnkldecaa
