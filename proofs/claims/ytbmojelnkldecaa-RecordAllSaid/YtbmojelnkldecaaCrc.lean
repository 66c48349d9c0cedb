/-
  What package crc computes: a register's step, the sum, its four bytes.
-/
import Derived.Test.YtbmojelnkldecaaTk
import Derived.Test.YtbmojelnkldecaaAmUse
import Derived.Laws.BitsAllLaws
import Derived.Laws.StructEq
import Derived.Laws.Cover2
namespace Go.Proofs.Ytbmojelnkldecaa
open Go.RowKit

def stepBit (r : Nat) : Nat := if r % 2 = 1 then (r / 2) ^^^ 3988292384 else r / 2
def stepK (r : Nat) : Nat → Nat
  | 0 => r
  | j + 1 => stepBit (stepK r j)
def crcStep (r : Nat) (c : UInt8) : Nat := stepK (r ^^^ c.toNat) 8
def crcReg (l : List UInt8) : Nat := l.foldl crcStep 4294967295
def crcSum (l : List UInt8) : Nat := 4294967295 ^^^ crcReg l
def crcTail (l : List UInt8) : List UInt8 := [UInt8.ofNat (crcSum l), UInt8.ofNat (crcSum l / 256), UInt8.ofNat (crcSum l / 65536), UInt8.ofNat (crcSum l / 16777216)]
def sealB (l : List UInt8) : List UInt8 := l ++ crcTail l

theorem stepBit_lt {r : Nat} (h : r < 4294967296) : stepBit r < 4294967296 := by
  unfold stepBit
  split
  · exact Nat.xor_lt_two_pow (n := 32) (by omega) (by omega)
  · omega
theorem stepK_lt {r : Nat} (h : r < 4294967296) : ∀ j, stepK r j < 4294967296
  | 0 => h
  | j + 1 => stepBit_lt (stepK_lt h j)
theorem crcStep_lt {r : Nat} (h : r < 4294967296) (c : UInt8) : crcStep r c < 4294967296 := by
  have := UInt8.toNat_lt c
  exact stepK_lt (Nat.xor_lt_two_pow (n := 32) (by omega) (by omega)) 8
theorem foldl_lt : ∀ (l : List UInt8) (r : Nat), r < 4294967296 → l.foldl crcStep r < 4294967296
  | [], _, h => h
  | c :: l, _, h => foldl_lt l _ (crcStep_lt h c)
theorem crcReg_lt (l : List UInt8) : crcReg l < 4294967296 := foldl_lt l _ (by omega)
theorem crcSum_lt (l : List UInt8) : crcSum l < 4294967296 := Nat.xor_lt_two_pow (n := 32) (by omega) (crcReg_lt l)
theorem sealB_len (l : List UInt8) : (sealB l).length = l.length + 4 := by simp [sealB, crcTail]

theorem xor32 {a b : Nat} (ha : a < 4294967296) (hb : b < 4294967296) : IntKind.u32.wrap ((BitVec.ofInt IntKind.u32.bits (a : Int) ^^^ BitVec.ofInt IntKind.u32.bits (b : Int)).toNat : Int) = ((a ^^^ b : Nat) : Int) :=
  u32_xor_nat a b ha hb
theorem and1 {a : Nat} (ha : a < 4294967296) : IntKind.u32.wrap ((BitVec.ofInt IntKind.u32.bits (a : Int) &&& BitVec.ofInt IntKind.u32.bits (1 : Int)).toNat : Int) = ((a % 2 : Nat) : Int) := by
  have h : IntKind.u32.wrap ((BitVec.ofInt IntKind.u32.bits (a : Int) &&& BitVec.ofInt IntKind.u32.bits ((1 : Nat) : Int)).toNat : Int) = ((a &&& 1 : Nat) : Int) := u32_and_nat a 1 ha (by omega)
  rw [Nat.and_one_is_mod] at h
  exact h
theorem Spl.and1 {a : Nat} (ha : a < 4294967296) {A B : Prop} (h1 : a % 2 = 1 → A) (h2 : ¬ a % 2 = 1 → B) : Spl (IntKind.u32.wrap ((BitVec.ofInt IntKind.u32.bits (a : Int) &&& BitVec.ofInt IntKind.u32.bits (1 : Int)).toNat : Int) = 1) A B := by
  have e := _root_.Go.Proofs.Ytbmojelnkldecaa.and1 ha
  rw [e]
  refine ⟨fun h => h1 (by omega), fun h => h2 (by omega)⟩
theorem shr1 (a : Nat) : (a : Int).fdiv (2 ^ min (Int.toNat 1) IntKind.u32.bits) = ((a / 2 : Nat) : Int) := by
  show (a : Int).fdiv (2 : Int) = _
  rw [Int.fdiv_eq_ediv_of_nonneg _ (by omega)]
  omega

set_option maxHeartbeats 2000000 in
set_option maxRecDepth 100000 in
theorem step_spec (r : Nat) (hr : r < 4294967296) (c : UInt8) : ASpec Try.prog 97 [.v (.int .u32 (r : Int)), .v (.int .u8 (c.toNat : Int))] (.v (.int .u32 (crcStep r c : Int))) [] := by
  have hc := UInt8.toNat_lt c
  have h0 : r ^^^ c.toNat < 4294967296 := Nat.xor_lt_two_pow (n := 32) (by omega) (by omega)
  refine aspec_of lay_ok 9747 Try.func97 rfl rfl rfl ?_
  repeat' ((conv => whnf); first | refine Spl.yes (by first | assumption | omega) ?_ | refine Spl.no (by first | assumption | omega) ?_ | refine Wr.i64 (by omega) (by omega) ?_ | refine Still.mk rfl rfl ?_ | refine InB.mk (inB_mk (by omega) (by omega)) ?_ | refine Req.mk (by omega) ?_ | refine Req.mk ⟨by first | omega | (dsimp only; omega), by first | omega | (dsimp only; omega)⟩ ?_ | refine Spl.mk (fun _ => ?_) (fun _ => ?_) | refine Wr.b64 ?_ | refine Wr.bu64 ?_ | refine Wr.bu32 ?_ | refine Wr.bu8 ?_ | refine Wr.u8 (by omega) (by omega) ?_ | refine Wr.u64 (by omega) (by omega) ?_ | refine Wr.u32 (by omega) (by omega) ?_ | refine Dv.pos (by omega) (by omega) ?_ | refine Rm.pos (by omega) (by omega) ?_ | refine ADraw.quiet follows_ok (by kernel_rfl) rfl ?_ | refine BSpl.decY (by first | assumption | omega) ?_ | refine BSpl.decN (by first | assumption | omega) ?_ | refine BSpl.dec (fun _ => ?_) (fun _ => ?_) | refine BSpl.yes (by assumption) ?_ | refine BSpl.no (by assumption) ?_ | refine BSpl.mk (fun _ => ?_) (fun _ => ?_))
  conv => whnf
  refine ALoop.mk { j : Nat // j ≤ 8 } (fun j => ⟨[(0, .v (.int .u32 (stepK (r ^^^ c.toNat) j.1 : Int))), (9, .v (.int .i64 (j.1 : Int)))], [], [], 0⟩) (fun j => 8 - j.1) ⟨0, Nat.zero_le _⟩ _
    (LeR.mk' [] _ _ _ rfl ⟨AEq.int (xor32 hr (by omega)), AEq.int rfl, trivial⟩ trivial rfl) ?_
  rintro ⟨j, hj⟩
  dsimp only
  have hj2 := stepK_lt h0 j
  repeat' ((conv => whnf); first | refine Spl.yes (by first | assumption | omega) ?_ | refine Spl.no (by first | assumption | omega) ?_ | refine Wr.i64 (by omega) (by omega) ?_ | refine Still.mk rfl rfl ?_ | refine InB.mk (inB_mk (by omega) (by omega)) ?_ | refine Req.mk (by omega) ?_ | refine Req.mk ⟨by first | omega | (dsimp only; omega), by first | omega | (dsimp only; omega)⟩ ?_ | refine Spl.and1 hj2 (fun _ => ?_) (fun _ => ?_) | refine ARet.hdI ?_ | refine Spl.mk (fun _ => ?_) (fun _ => ?_) | refine Wr.b64 ?_ | refine Wr.bu64 ?_ | refine Wr.bu32 ?_ | refine Wr.bu8 ?_ | refine Wr.u8 (by omega) (by omega) ?_ | refine Wr.u64 (by omega) (by omega) ?_ | refine Wr.u32 (by omega) (by omega) ?_ | refine Dv.pos (by omega) (by omega) ?_ | refine Rm.pos (by omega) (by omega) ?_ | refine ADraw.quiet follows_ok (by kernel_rfl) rfl ?_ | refine BSpl.decY (by first | assumption | omega) ?_ | refine BSpl.decN (by first | assumption | omega) ?_ | refine BSpl.dec (fun _ => ?_) (fun _ => ?_) | refine BSpl.yes (by assumption) ?_ | refine BSpl.no (by assumption) ?_ | refine BSpl.mk (fun _ => ?_) (fun _ => ?_))
  · rename_i h1
    refine ⟨⟨j + 1, by omega⟩, _, LeR.mk' [] _ _ _ rfl ⟨AEq.int ?_, AEq.int rfl, trivial⟩ trivial rfl, by show 8 - (j + 1) < 8 - j; omega⟩
    show _ = ((stepBit (stepK (r ^^^ c.toNat) j) : Nat) : Int)
    unfold stepBit
    rw [if_pos h1, ← xor32 (by omega) (by omega), ← shr1]
    rfl
  · rename_i h1
    refine ⟨⟨j + 1, by omega⟩, _, LeR.mk' [] _ _ _ rfl ⟨AEq.int ?_, AEq.int rfl, trivial⟩ trivial rfl, by show 8 - (j + 1) < 8 - j; omega⟩
    show _ = ((stepBit (stepK (r ^^^ c.toNat) j) : Nat) : Int)
    unfold stepBit
    rw [if_neg h1]
    exact shr1 _
  · conv => whnf
    have : j = 8 := by omega
    subst this
    exact AEqI.mk (AEq.refl _)

theorem crcReg_take {l : List UInt8} {j : Nat} (h : j < l.length) : crcReg (l.take (j + 1)) = crcStep (crcReg (l.take j)) (l.getD j 0) := by
  rw [List.take_add_one, List.getElem?_eq_getElem h, List.getD, List.getElem?_eq_getElem h, crcReg, List.foldl_append]
  rfl
theorem Wr.bsh8 {s : Nat} {m : Int} {K : Int → Prop} (h : K (IntKind.u8.wrap ((s : Int).fdiv m))) : Wr ((s : Int).fdiv m) K .u8 := .raw .u8 h

set_option maxHeartbeats 2000000 in
set_option maxRecDepth 100000 in
theorem sum_spec {n : Nat} {F : Nat → List AV} (l : List UInt8) (hF : IsB F l) (hn : n = l.length) (hl : l.length ≤ 140737488355328) : ASpec Try.prog 86 [.sl 1 n true F] (.v (.int .u32 (crcSum l : Int))) [] := by
  refine ASpec.args (bvs := [.sl 1 l.length true (bytesF l)]) ?_ (.of (fun X u hu => AEq.isB (sc := true) hF hn X u hu) .nil)
  have hreg (j : Nat) : crcReg (l.take j) < 4294967296 := crcReg_lt _
  have hs (j : Nat) (c : UInt8) := step_spec (crcReg (l.take j)) (hreg j) c
  refine aspec_of lay_ok 1005 Try.func86 rfl rfl rfl ?_
  repeat' ((conv => whnf); first | refine Spl.yes (by first | assumption | omega) ?_ | refine Spl.no (by first | assumption | omega) ?_ | refine Wr.i64 (by omega) (by omega) ?_ | refine Still.mk rfl rfl ?_ | refine InB.mk (inB_mk (by omega) (by omega)) ?_ | refine Req.mk (by omega) ?_ | refine Req.mk ⟨by first | omega | (dsimp only; omega), by first | omega | (dsimp only; omega)⟩ ?_ | refine Spl.mk (fun _ => ?_) (fun _ => ?_) | refine Wr.b64 ?_ | refine Wr.bu64 ?_ | refine Wr.bu32 ?_ | refine Wr.bu8 ?_ | refine Wr.u8 (by omega) (by omega) ?_ | refine Wr.u64 (by omega) (by omega) ?_ | refine Wr.u32 (by omega) (by omega) ?_ | refine Dv.pos (by omega) (by omega) ?_ | refine Rm.pos (by omega) (by omega) ?_ | refine ADraw.quiet follows_ok (by kernel_rfl) rfl ?_ | refine BSpl.decY (by first | assumption | omega) ?_ | refine BSpl.decN (by first | assumption | omega) ?_ | refine BSpl.dec (fun _ => ?_) (fun _ => ?_) | refine BSpl.yes (by assumption) ?_ | refine BSpl.no (by assumption) ?_ | refine BSpl.mk (fun _ => ?_) (fun _ => ?_))
  conv => whnf
  refine ALoop.mk { j : Nat // j ≤ l.length } (fun j => ⟨[(3, .v (.int .u32 (crcReg (l.take j.1) : Int))), (6, .sl 1 l.length true (bytesF l)), (7, .v (.int .i64 (l.length : Int))), (8, .v (.int .i64 (j.1 : Int)))], [], [], 0⟩) (fun j => l.length - j.1) ⟨0, Nat.zero_le _⟩ _
    (LeR.mk' [] _ _ _ rfl ⟨AEq.int rfl, AEq.refl _, AEq.refl _, AEq.int rfl, trivial⟩ trivial rfl) ?_
  rintro ⟨j, hj⟩
  dsimp only
  repeat' ((conv => whnf); first | refine Spl.yes (by first | assumption | omega) ?_ | refine Spl.no (by first | assumption | omega) ?_ | refine Wr.i64 (by omega) (by omega) ?_ | refine Still.mk rfl rfl ?_ | refine InB.mk (inB_mk (by omega) (by omega)) ?_ | refine Req.mk (by omega) ?_ | refine Req.mk ⟨by first | omega | (dsimp only; omega), by first | omega | (dsimp only; omega)⟩ ?_ | refine ACall.plain _ _ (hs j _) (SubL.cons (.eq _) (SubL.cons (.eq _) .nil)) rfl ?_ | refine ARet.hdI ?_ | refine Spl.mk (fun _ => ?_) (fun _ => ?_) | refine Wr.b64 ?_ | refine Wr.bu64 ?_ | refine Wr.bu32 ?_ | refine Wr.bu8 ?_ | refine Wr.u8 (by omega) (by omega) ?_ | refine Wr.u64 (by omega) (by omega) ?_ | refine Wr.u32 (by omega) (by omega) ?_ | refine Dv.pos (by omega) (by omega) ?_ | refine Rm.pos (by omega) (by omega) ?_ | refine ADraw.quiet follows_ok (by kernel_rfl) rfl ?_ | refine BSpl.decY (by first | assumption | omega) ?_ | refine BSpl.decN (by first | assumption | omega) ?_ | refine BSpl.dec (fun _ => ?_) (fun _ => ?_) | refine BSpl.yes (by assumption) ?_ | refine BSpl.no (by assumption) ?_ | refine BSpl.mk (fun _ => ?_) (fun _ => ?_))
  · refine ⟨⟨j + 1, by omega⟩, _, LeR.mk' [] _ _ _ rfl ⟨AEq.int ?_, AEq.refl _, AEq.refl _, AEq.int rfl, trivial⟩ trivial rfl, by show l.length - (j + 1) < l.length - j; omega⟩
    show _ = ((crcReg (l.take (j + 1)) : Nat) : Int)
    rw [crcReg_take (by omega)]
    rfl
  · conv => whnf
    refine AEqI.mk (AEq.int ?_)
    show IntKind.u32.wrap ((BitVec.ofInt IntKind.u32.bits ((4294967295 : Nat) : Int) ^^^ BitVec.ofInt IntKind.u32.bits (crcReg (l.take j) : Int)).toNat : Int) = _
    rw [xor32 (by omega) (hreg j), List.take_of_length_le (by omega)]
    rfl

def u8C (n : Nat) : AV := .v (.int .u8 ((UInt8.ofNat n).toNat : Int))
def tailCs (s : Nat) : List AV := [u8C s, u8C (s / 256), u8C (s / 65536), u8C (s / 16777216)]
theorem u8C_eq (n : Nat) (m : Nat) : IntKind.u8.wrap ((n : Int).fdiv ((m : Nat) : Int)) = ((UInt8.ofNat (n / m)).toNat : Int) := by
  rw [IntKind.wrap_u8, Int.fdiv_eq_ediv_of_nonneg _ (Int.natCast_nonneg m), UInt8.toNat_ofNat']
  simp
theorem u8V (n : Nat) (m : Nat) : AV.v (.int .u8 (IntKind.u8.wrap ((n : Int).fdiv ((m : Nat) : Int)))) = u8C (n / m) := by rw [u8C_eq]; rfl

set_option maxHeartbeats 2000000 in
set_option maxRecDepth 100000 in
theorem tail_spec {n : Nat} {F : Nat → List AV} (l : List UInt8) (hF : IsB F l) (hn : n = l.length) (hl : l.length ≤ 140737488355328) : ASpec Try.prog 68 [.sl 1 n true F] (.agg (tailCs (crcSum l))) [] := by
  have hs := crcSum_lt l
  have hss := sum_spec l hF hn hl
  generalize crcSum l = s at hs hss
  refine aspec_of lay_ok 829 Try.func68 rfl rfl rfl ?_
  repeat' ((conv => whnf); first | refine Spl.yes (by first | assumption | omega) ?_ | refine Spl.no (by first | assumption | omega) ?_ | refine Wr.i64 (by omega) (by omega) ?_ | refine Still.mk rfl rfl ?_ | refine InB.mk (inB_mk (by omega) (by omega)) ?_ | refine Req.mk (by omega) ?_ | refine Req.mk ⟨by first | omega | (dsimp only; omega), by first | omega | (dsimp only; omega)⟩ ?_ | refine ACall.plain _ _ (hss) (SubL.cons (.eq _) .nil) rfl ?_ | refine ALoop.rounds 5 ?_ | refine ARet.hdI ?_ | refine Wr.bsh8 ?_ | refine Spl.mk (fun _ => ?_) (fun _ => ?_) | refine Wr.b64 ?_ | refine Wr.bu64 ?_ | refine Wr.bu32 ?_ | refine Wr.bu8 ?_ | refine Wr.u8 (by omega) (by omega) ?_ | refine Wr.u64 (by omega) (by omega) ?_ | refine Wr.u32 (by omega) (by omega) ?_ | refine Dv.pos (by omega) (by omega) ?_ | refine Rm.pos (by omega) (by omega) ?_ | refine ADraw.quiet follows_ok (by kernel_rfl) rfl ?_ | refine BSpl.decY (by first | assumption | omega) ?_ | refine BSpl.decN (by first | assumption | omega) ?_ | refine BSpl.dec (fun _ => ?_) (fun _ => ?_) | refine BSpl.yes (by assumption) ?_ | refine BSpl.no (by assumption) ?_ | refine BSpl.mk (fun _ => ?_) (fun _ => ?_))
  conv => whnf
  refine AEqI.mk (AEq.of (congrArg AV.agg ?_))
  unfold tailCs
  rw [← u8V s 256, ← u8V s 65536, ← u8V s 16777216, show u8C s = AV.v (.int .u8 (IntKind.u8.wrap ((s : Int).fdiv ((1 : Nat) : Int)))) by rw [u8V, Nat.div_one]]
  rfl

theorem arr4_eq (a0 a1 a2 a3 b0 b1 b2 b3 : Int) : EqFact Try.prog 97 [.int .u8 a0, .int .u8 a1, .int .u8 a2, .int .u8 a3] [.int .u8 b0, .int .u8 b1, .int .u8 b2, .int .u8 b3] (a0 = b0 ∧ a1 = b1 ∧ a2 = b2 ∧ a3 = b3) := by
  refine ⟨by kernel_rfl, fun w => ⟨decide (a0 = b0 ∧ a1 = b1 ∧ a2 = b2 ∧ a3 = b3), by rw [decide_eq_true_eq], ?_⟩⟩
  show (Op.equalIn 10000 97 (.agg #[.int .u8 a0, .int .u8 a1, .int .u8 a2, .int .u8 a3]) (.agg #[.int .u8 b0, .int .u8 b1, .int .u8 b2, .int .u8 b3])).run Try.prog w = _
  rw [show (10000 : Nat) = 9999 + 1 from rfl, Op.equalIn]
  simp only [Sem.run_bind, run_underlying Try.underlying97, Result.andThen_ok]
  simp only [Std.Legacy.Range.forIn_eq_forIn_range', Std.Legacy.Range.size, Nat.sub_zero, Nat.add_sub_cancel, Nat.div_one, List.range'_succ, List.range'_zero, List.forIn_cons, List.forIn_nil]
  have u3 := Try.underlying5
  have a3' := Try.isAgg5
  have z3 := Try.sizeOf5
  go_simp
  repeat' split
  all_goals simp_all

theorem tail_isB (l : List UInt8) : IsB (chunk 1 (tailCs (crcSum l))) (crcTail l) := by
  intro i hi
  have : i = 0 ∨ i = 1 ∨ i = 2 ∨ i = 3 := by simp [crcTail] at hi; omega
  rcases this with rfl | rfl | rfl | rfl <;> rfl

set_option maxHeartbeats 2000000 in
set_option maxRecDepth 100000 in
theorem seal_spec (d : Nat) {n : Nat} {F : Nat → List AV} (l : List UInt8) (hF : IsB F l) (hn : n = l.length) (hl : l.length ≤ 1000000000) :
    ASpec Try.prog 31 [.sl 1 n true F] (.own d) [(d, .row 5 1 (sealB l).length true (bytesF (sealB l)))] := by
  refine ASpec.args (bvs := [.sl 1 l.length true (bytesF l)]) ?_ (.of (fun X u hu => AEq.isB (sc := true) hF hn X u hu) .nil)
  have ht := tail_spec l (IsB.bytes l) rfl (by omega)
  refine aspec_of lay_ok 29 Try.func31 rfl rfl rfl ?_
  repeat' ((conv => whnf); first | refine Spl.yes (by first | assumption | omega) ?_ | refine Spl.no (by first | assumption | omega) ?_ | refine Wr.i64 (by omega) (by omega) ?_ | refine Still.mk rfl rfl ?_ | refine InB.mk (inB_mk (by omega) (by omega)) ?_ | refine Req.mk (by omega) ?_ | refine Req.mk ⟨by first | omega | (dsimp only; omega), by first | omega | (dsimp only; omega)⟩ ?_ | refine ACall.plain _ _ (ht) (SubL.cons (.eq _) .nil) rfl ?_ | refine AMk.none rfl (by omega) (by dsimp only; omega) (by omega) ?_ | refine Spl.mk (fun _ => ?_) (fun _ => ?_) | refine Wr.b64 ?_ | refine Wr.bu64 ?_ | refine Wr.bu32 ?_ | refine Wr.bu8 ?_ | refine Wr.u8 (by omega) (by omega) ?_ | refine Wr.u64 (by omega) (by omega) ?_ | refine Wr.u32 (by omega) (by omega) ?_ | refine Dv.pos (by omega) (by omega) ?_ | refine Rm.pos (by omega) (by omega) ?_ | refine ADraw.quiet follows_ok (by kernel_rfl) rfl ?_ | refine BSpl.decY (by first | assumption | omega) ?_ | refine BSpl.decN (by first | assumption | omega) ?_ | refine BSpl.dec (fun _ => ?_) (fun _ => ?_) | refine BSpl.yes (by assumption) ?_ | refine BSpl.no (by assumption) ?_ | refine BSpl.mk (fun _ => ?_) (fun _ => ?_))
  conv => whnf
  refine ARet.ownX d rfl rfl ?_ (AEq.refl _)
  apply OEq.isB (l := [] ++ l ++ crcTail l)
  · exact IsB.app (IsB.app (IsB.nil _) (IsB.bytes _) rfl) (tail_isB l) (by simp)
  · simp [crcTail]
  · rfl

theorem seal_get (m : List UInt8) (k : Nat) (hk : k = m.length) (i : Nat) : (((sealB m).getD (k + i) default).toNat : Int) = (((crcTail m).getD i default).toNat : Int) := by
  subst hk
  unfold sealB
  rw [List.getD, List.getElem?_append_right (by omega), Nat.add_sub_cancel_left, List.getD]
def okSeal (l : List UInt8) : Prop := 4 ≤ l.length ∧ l = sealB (l.take (l.length - 4))

set_option maxHeartbeats 2000000 in
set_option maxRecDepth 100000 in
theorem open_spec (d : Nat) {n : Nat} {F : Nat → List AV} (m : List UInt8) (hF : IsB F (sealB m)) (hn : n = (sealB m).length) (hl : m.length ≤ 1000000000) :
    ASpec Try.prog 62 [.sl 1 n true F] (.tup [.own d, .v (.bool true)]) [(d, .row 5 1 m.length true (bytesF m))] := by
  refine ASpec.args (bvs := [.sl 1 (sealB m).length true (bytesF (sealB m))]) ?_ (.of (fun X u hu => AEq.isB (sc := true) hF hn X u hu) .nil)
  have hlen := sealB_len m
  have htk : (sealB m).take m.length = m := by simp [sealB]
  have hFm : IsB (bytesF (sealB m)) m := fun i hi => by have := (IsB.bytes (sealB m)).take m.length i; rw [htk] at this; exact this hi
  refine aspec_of lay_ok 2097181 Try.func62 rfl rfl rfl ?_
  repeat' ((conv => whnf); first | refine Spl.yes (by first | assumption | omega) ?_ | refine Spl.no (by first | assumption | omega) ?_ | refine Wr.i64 (by omega) (by omega) ?_ | refine Still.mk rfl rfl ?_ | refine InB.mk (inB_mk (by omega) (by omega)) ?_ | refine Req.mk (by omega) ?_ | refine Req.mk ⟨by first | omega | (dsimp only; omega), by first | omega | (dsimp only; omega)⟩ ?_ | refine ACall.plain _ _ (tail_spec m hFm (by omega) (by omega)) (SubL.cons (.eq _) .nil) rfl ?_ | refine EqA.mk [.int .u8 _, .int .u8 _, .int .u8 _, .int .u8 _] [.int .u8 _, .int .u8 _, .int .u8 _, .int .u8 _] _ rfl rfl (arr4_eq _ _ _ _ _ _ _ _) (Spl.yes ⟨seal_get m _ (by omega) 0, seal_get m _ (by omega) 1, seal_get m _ (by omega) 2, seal_get m _ (by omega) 3⟩ ?_) | refine Spl.mk (fun _ => ?_) (fun _ => ?_) | refine Wr.b64 ?_ | refine Wr.bu64 ?_ | refine Wr.bu32 ?_ | refine Wr.bu8 ?_ | refine Wr.u8 (by omega) (by omega) ?_ | refine Wr.u64 (by omega) (by omega) ?_ | refine Wr.u32 (by omega) (by omega) ?_ | refine Dv.pos (by omega) (by omega) ?_ | refine Rm.pos (by omega) (by omega) ?_ | refine ADraw.quiet follows_ok (by kernel_rfl) rfl ?_ | refine ADraw.sched (id := 2) lay_ok (awp_snd lay_ok _) [(0, none), (1, none), (2, none), (3, none), (4, none), (5, none), (6, none), (7, none), (8, none), (9, none), (10, none), (11, some [1]), (12, none), (13, none)] [(2, [1]), (3, [1]), (4, [1]), (5, [1]), (6, [1]), (7, [1]), (8, [1]), (9, [1]), (10, [1]), (11, [1]), (12, [1]), (13, [1])] follows_ok (by kernel_rfl) ?_ | refine BSpl.decY (by first | assumption | omega) ?_ | refine BSpl.decN (by first | assumption | omega) ?_ | refine BSpl.dec (fun _ => ?_) (fun _ => ?_) | refine BSpl.yes (by assumption) ?_ | refine BSpl.no (by assumption) ?_ | refine BSpl.mk (fun _ => ?_) (fun _ => ?_))
  conv => whnf
  refine ARet.ownX d rfl rfl ?_ (AEq.refl _)
  apply OEq.isB (l := [] ++ m)
  · exact IsB.app (IsB.nil _) hFm rfl
  · simp
    omega
  · rfl

theorem u8_int {a b : UInt8} (h : (a.toNat : Int) = (b.toNat : Int)) : a = b := UInt8.toNat_inj.1 (by omega)
theorem drop4 {l : List UInt8} {k : Nat} (h : l.length = k + 4) : l.drop k = [l.getD (k + 0) default, l.getD (k + 1) default, l.getD (k + 2) default, l.getD (k + 3) default] := by
  apply List.ext_getElem
  · simp [h]
  · intro i h1 h2
    have hi : i < 4 := by simpa using h2
    rw [List.getElem_drop]
    rcases (show i = 0 ∨ i = 1 ∨ i = 2 ∨ i = 3 by omega) with rfl | rfl | rfl | rfl <;> simp [List.getD, h]
theorem seal_of {l : List UInt8} {k : Nat} (h : l.length = k + 4) (e : ((l.getD (k + 0) default).toNat : Int) = ((UInt8.ofNat (crcSum (l.take k))).toNat : Int) ∧ ((l.getD (k + 1) default).toNat : Int) = ((UInt8.ofNat (crcSum (l.take k) / 256)).toNat : Int) ∧
    ((l.getD (k + 2) default).toNat : Int) = ((UInt8.ofNat (crcSum (l.take k) / 65536)).toNat : Int) ∧ ((l.getD (k + 3) default).toNat : Int) = ((UInt8.ofNat (crcSum (l.take k) / 16777216)).toNat : Int)) : okSeal l := by
  obtain ⟨e0, e1, e2, e3⟩ := e
  refine ⟨by omega, ?_⟩
  rw [show l.length - 4 = k by omega]
  unfold sealB crcTail
  conv => lhs; rw [← List.take_append_drop k l, drop4 h]
  rw [u8_int e0, u8_int e1, u8_int e2, u8_int e3]

set_option maxHeartbeats 2000000 in
set_option maxRecDepth 100000 in
theorem open_no {n : Nat} {F : Nat → List AV} (l : List UInt8) (h : ¬ okSeal l) (hF : IsB F l) (hn : n = l.length) (hl : l.length ≤ 1000000000) :
    ASpec Try.prog 62 [.sl 1 n true F] (.tup [.v (.slice none 0 0), .v (.bool false)]) [] := by
  refine ASpec.args (bvs := [.sl 1 l.length true (bytesF l)]) ?_ (.of (fun X u hu => AEq.isB (sc := true) hF hn X u hu) .nil)
  have hso (k : Nat) (hk : l.length = k + 4) := fun e => h (seal_of (k := k) hk e)
  refine aspec_of lay_ok 2097181 Try.func62 rfl rfl rfl ?_
  repeat' ((conv => whnf); first | refine Spl.yes (by first | assumption | omega) ?_ | refine Spl.no (by first | assumption | omega) ?_ | refine Wr.i64 (by omega) (by omega) ?_ | refine Still.mk rfl rfl ?_ | refine InB.mk (inB_mk (by omega) (by omega)) ?_ | refine Req.mk (by omega) ?_ | refine Req.mk ⟨by first | omega | (dsimp only; omega), by first | omega | (dsimp only; omega)⟩ ?_ | refine ACall.plain _ _ (tail_spec (l.take (l.length - 4)) ((IsB.bytes l).take _) (by rw [List.length_take]; omega) (by rw [List.length_take]; omega)) (SubL.cons (.eq _) .nil) rfl ?_ | refine EqA.mk [.int .u8 _, .int .u8 _, .int .u8 _, .int .u8 _] [.int .u8 _, .int .u8 _, .int .u8 _, .int .u8 _] _ rfl rfl (arr4_eq _ _ _ _ _ _ _ _) (Spl.no (fun e => ?_) ?_) | refine ARet.hdI ?_ | refine Spl.mk (fun _ => ?_) (fun _ => ?_) | refine Wr.b64 ?_ | refine Wr.bu64 ?_ | refine Wr.bu32 ?_ | refine Wr.bu8 ?_ | refine Wr.u8 (by omega) (by omega) ?_ | refine Wr.u64 (by omega) (by omega) ?_ | refine Wr.u32 (by omega) (by omega) ?_ | refine Dv.pos (by omega) (by omega) ?_ | refine Rm.pos (by omega) (by omega) ?_ | refine ADraw.quiet follows_ok (by kernel_rfl) rfl ?_ | refine ADraw.sched (id := 2) lay_ok (awp_snd lay_ok _) [(0, none), (1, none), (2, none), (3, none), (4, none), (5, none), (6, none), (7, none), (8, none), (9, none), (10, none), (11, some [1]), (12, none), (13, none)] [(2, [1]), (3, [1]), (4, [1]), (5, [1]), (6, [1]), (7, [1]), (8, [1]), (9, [1]), (10, [1]), (11, [1]), (12, [1]), (13, [1])] follows_ok (by kernel_rfl) ?_ | refine BSpl.decY (by first | assumption | omega) ?_ | refine BSpl.decN (by first | assumption | omega) ?_ | refine BSpl.dec (fun _ => ?_) (fun _ => ?_) | refine BSpl.yes (by assumption) ?_ | refine BSpl.no (by assumption) ?_ | refine BSpl.mk (fun _ => ?_) (fun _ => ?_))
  · conv => whnf
    exact AEqI.mk (AEq.refl _)
  · have hk : ((l.length : Int) - 4).toNat = l.length - 4 := by omega
    rw [hk] at e
    exact hso (l.length - 4) (by omega) e
  · conv => whnf
    exact AEqI.mk (AEq.refl _)
end Go.Proofs.Ytbmojelnkldecaa
