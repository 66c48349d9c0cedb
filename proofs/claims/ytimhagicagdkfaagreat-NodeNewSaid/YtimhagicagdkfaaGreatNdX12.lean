/-
  Contracts of the walk: Tk, Crc, Vin, EvW, Rec, FitP, RecP, RecF, Shape, Frm, FrmP.
-/
import Derived.Test.YtimhagicagdkfaaGreatNdX9
import Derived.Test.YtimhagicagdkfaaGreatNdX6
import Derived.Laws.BitsAllLaws
import Derived.Laws.StructEq
import Derived.Laws.Cover2
import Derived.Test.YtimhagicagdkfaaGreatNdX8
import Derived.Test.YtimhagicagdkfaaGreatNdX11
import Derived.Test.YtimhagicagdkfaaGreatNdX10
import Derived.Test.YtimhagicagdkfaaGreatNdX1
import Derived.WalkSpells
import Derived.WalkLawsBesides
import Derived.Handy
import Derived.WideMake
import Derived.Lib.Hide
/-
 What the pieces of event.Take compute: varint.Take,and the three readers.
-/
namespace Go.Proofs.YtimhagicagdkfaaGreat
open Go.RowKit
theorem IsB.drop {F : Nat → List AV} {l : List UInt8} (h : IsB F l) (k : Nat) : IsB (fun i => F (k + i)) (l.drop k) := by
 intro i hi
 rw [List.length_drop] at hi
 show F (k + i) = bC ((l.drop k).getD i default)
 rw [h (k + i) (by omega)]
 show bC (l.getD (k + i) default) = _
 congr 1
 simp
theorem IsB.take {F : Nat → List AV} {l : List UInt8} (h : IsB F l) (k : Nat) : IsB F (l.take k) := by
 intro i hi
 rw [List.length_take] at hi
 show F i = bC ((l.take k).getD i default)
 rw [h i (by omega)]
 show bC (l.getD i default) = _
 congr 1
 simp [show i < k by omega]
theorem AEq.isB {n : Nat} {sc : Bool} {F : Nat → List AV} {l : List UInt8} (h : IsB F l) (hn : n = l.length) : AEq (.sl 1 n sc F) (.sl 1 l.length sc (bytesF l)) := AEq.sl hn fun i hi => h i (by omega)
theorem flat_bytes : ∀ l : List UInt8,flat l.length (bytesF l) = l.map fun b => .v (.int .u8 (b.toNat : Int))
  | [] => rfl
  | b :: l => by
    show bytesF (b :: l) 0 ++ flat l.length (fun i => bytesF (b :: l) (i + 1)) = _
    rw [List.map_cons,← flat_bytes l]
    rfl
theorem All2.vals {R : AV → Value → Prop} (hR : ∀ x u,R (.v x) u → u = x) : ∀ {xs us : List Value},All2 R (xs.map .v) us → us = xs
  | [],us,h => by
    have := h.1
    simp at this
    exact List.eq_nil_of_length_eq_zero this.symm
  | x :: xs,[],h => by have := h.1; simp at this
  | x :: xs,u :: us,h => by
    have h0 : u = x := hR x u (h.2 0 _ _ rfl rfl)
    have := All2.vals hR (xs := xs) (us := us) ⟨by simpa using h.1,fun i a b ha hb => h.2 (i + 1) a b (by simpa using ha) (by simpa using hb)⟩
    rw [h0,this]
theorem Bs.of {n : Nat} {F : Nat → List AV} {K : List UInt8 → Prop} (l : List UInt8) (hF : IsB F l) (hn : n = l.length) (h : K l) : Bs n F K := .mk l hn (fun i hi => hF i (by omega)) h
theorem dfl8 : (default : UInt8) = 0 := rfl
theorem spec_bytes {P : Program} {f : FuncId} {r : AV} {l : List UInt8} (he : Enters P f) (h : ∀ (A : Option Addr) (n c : Nat) (w : World),Rd w w.heap.size 1 A n (l.map bV) → n = l.length → n ≤ c →
  Calls P f #[.slice A n c] w fun e w' => ∃ u,e = .returned u ∧ Below w.heap.size w w' ∧ ∀ X,C2 X r u) {n : Nat} {F : Nat → List AV} (hF : IsB F l) (hn : n = l.length) : ASpec P f [.sl 1 n true F] r [] := by
 refine ⟨he,fun w keep args hkeep hargs => ?_⟩
 obtain ⟨u,rfl,hu⟩ := one_arg hargs
 have hu : PC w keep (.sl 1 l.length true (bytesF l)) u := AEq.isB hF hn ⟨w,keep,fun _ => undef⟩ u hu
 cases hu with
 | sl _ _ _ _ A c us hs hnc hc hl hf hsc hpc hr =>
   have hall : All2 (PC w keep) (flat l.length (bytesF l)) us := ⟨by rw [hl]; exact flat_len hf,hpc⟩
   have e1 : flat l.length (bytesF l) = (l.map bV).map .v := by rw [flat_bytes,List.map_map]; rfl
   rw [e1] at hall
   have e2 : us = l.map bV := All2.vals (fun x u h => by cases h; rfl) hall
   subst e2
   have hRd : Rd w w.heap.size 1 A l.length (l.map bV) := by
    refine ⟨by simp,fun hpos => ?_⟩
    rcases hr with h0 | ⟨b,o,hA,hk,hcell⟩
    · omega
    · exact ⟨b,o,hA,hkeep b hk,hcell⟩
   refine (h A l.length c w hRd rfl hnc).mono ?_
   rintro e w' ⟨v,h1,h2,h3⟩
   exact ⟨v,fun _ => undef,h1,h2,h3 _,(fun p hp => by cases hp),by simp [blocksOf],(fun b hb => by simp [blocksOf] at hb)⟩
theorem C2.tup3 (X : CX) (a b c : Value) : C2 X (.tup [.v a, .v b, .v c]) (.tuple #[a,b,c]) := ⟨[a,b,c],rfl,All2.cons (R := C1 X) (show C1 X (.v a) a from rfl) (All2.cons (R := C1 X) (show C1 X (.v b) b from rfl) (All2.cons (R := C1 X) (show C1 X (.v c) c from rfl) All2.nil))⟩
theorem vtake_spec {n : Nat} {F : Nat → List AV} (l : List UInt8) (hF : IsB F l) (hn : n = l.length) : ASpec Tryz.prog 80 [.sl 1 n true F] (.tup [.v (.int .u64 ((vtake l).1 : Int)), .v (.int .i64 ((vtake l).2.1 : Int)), .v (.int .i64 (vtake l).2.2)]) [] :=
 spec_bytes ⟨_,_,Tryz.func80,rfl,rfl⟩ (fun A n c w h h1 h2 => (vtake_any A n c l w h h1 h2).mono fun e w' ⟨h3,h4⟩ => ⟨_,h3,by rw [h4]; exact Below.refl _ _,fun X => C2.tup3 X _ _ _⟩) hF hn
def eT (x : Int) : AO := .box 26 [.v (.int .i64 x)]
def iT (u : Nat) : AO := .box 3 [.v (.int .i64 (u : Int))]
def bT (bs : List UInt8) : AO := .box 49 [.sl 1 bs.length true (bytesF bs)]
set_option maxRecDepth 100000 in
theorem octet_m0 (bs : List UInt8) (u : Nat) (x lo hi : Int) (hl : bs.length ≤ 1000000000) :
  MSpec Tryz.prog 141 [(0,eT x),(1,iT u),(2,bT bs)] [.v (.int .i64 lo), .v (.int .i64 hi), .box 0 0, .box 1 0, .box 2 0]
   (.v (.int .i64 (octS bs lo hi (u,x)).1)) [(0,eT (octS bs lo hi (u,x)).2.2),(1,iT (octS bs lo hi (u,x)).2.1),(2,bT bs)] := by
 unfold eT iT bT
 refine K1.M 0x4005019f Tryz.func141 10 ?_
 repeat' ((conv => whnf); first | refine K1.w ?_ | refine K1.u ?_ | refine K1.P1 (within_spec _ _ _) rfl ?_ | refine K1.z ?_ | refine K1.y (fun _ => ?_) (fun _ => ?_) | fail)
 all_goals (conv => whnf)
 all_goals (refine MRet.auto rfl rfl ⟨⟨_,rfl,OEq.box1 ?_⟩,⟨_,rfl,OEq.box1 ?_⟩,⟨_,rfl,OEq.refl _⟩,trivial⟩ rfl rfl (AEq.int ?_))
 all_goals (unfold octS; simp only [dfl8,Int.toNat_natCast] at *; grind)
set_option maxRecDepth 100000 in
theorem number_m0 (bs : List UInt8) (u : Nat) (x lo hi : Int) (hu : u ≤ bs.length) (hl : bs.length ≤ 1000000000) (h0 : 0 ≤ lo) (h1 : lo ≤ hi) (h2 : hi ≤ 16777216) :
  MSpec Tryz.prog 142 [(0,eT x),(1,iT u),(2,bT bs)] [.v (.int .i64 lo), .v (.int .i64 hi), .box 0 0, .box 2 0, .box 1 0]
   (.v (.int .i64 (numS bs lo hi (u,x)).1)) [(0,eT (numS bs lo hi (u,x)).2.2),(1,iT (numS bs lo hi (u,x)).2.1),(2,bT bs)] := by
 unfold eT iT bT
 have hv := vtake_le (bs.drop u)
 rw [List.length_drop] at hv
 refine K1.M 0x140000179f Tryz.func142 10 ?_
 repeat' ((conv => whnf); first | refine K1.w ?_ | refine K1.u ?_ | refine K1.P1 (vtake_spec (bs.drop u) ((IsB.bytes bs).drop _) (by simp)) rfl ?_ | refine K1.z ?_ | refine K1.y (fun _ => ?_) (fun _ => ?_) | fail)
 all_goals (conv => whnf)
 all_goals (refine MRet.auto rfl rfl ⟨⟨_,rfl,OEq.box1 ?_⟩,⟨_,rfl,OEq.box1 ?_⟩,⟨_,rfl,OEq.refl _⟩,trivial⟩ rfl rfl (AEq.int ?_))
 all_goals (unfold numS; grind)
set_option maxRecDepth 100000 in
theorem wordsK_m0 (bs : List UInt8) (u : Nat) (x sz : Int) (hu : u ≤ bs.length) (hl : bs.length ≤ 1000000000) (h0 : 0 ≤ sz) (h2 : sz ≤ 16777216) :
  MSpec Tryz.prog 143 [(0,eT x),(1,iT u),(2,bT bs)] [.v (.int .i64 sz), .fn 115 [], .box 0 0, .box 2 0, .box 1 0]
   (.v (.string (wordS bs sz keyE (u,x)).1)) [(0,eT (wordS bs sz keyE (u,x)).2.2),(1,iT (wordS bs sz keyE (u,x)).2.1),(2,bT bs)] := by
 unfold eT iT bT
 obtain ⟨z,rfl⟩ := Int.eq_ofNat_of_zero_le h0
 refine K1.M 0x40014019f Tryz.func143 10 ?_
 repeat' ((conv => whnf); first | refine K1.w ?_ | refine K1.u ?_ | refine K1.P1 (key_spec _) rfl ?_ | refine Bs.of ((bs.drop u).take z) (((IsB.bytes bs).drop _).take _) (by simp; omega) ?_ | refine K1.z ?_ | refine K1.y (fun _ => ?_) (fun _ => ?_) | fail)
 all_goals (conv => whnf)
 all_goals (refine MRet.auto rfl rfl ⟨⟨_,rfl,OEq.box1 ?_⟩,⟨_,rfl,OEq.box1 ?_⟩,⟨_,rfl,OEq.refl _⟩,trivial⟩ rfl rfl (AEq.str ?_))
 all_goals (unfold wordS; first | (simp only [cutB,Int.toNat_natCast] at *; grind) | grind)
set_option maxRecDepth 100000 in
theorem wordsV_m0 (bs : List UInt8) (u : Nat) (x sz : Int) (hu : u ≤ bs.length) (hl : bs.length ≤ 1000000000) (h0 : 0 ≤ sz) (h2 : sz ≤ 16777216) :
  MSpec Tryz.prog 143 [(0,eT x),(1,iT u),(2,bT bs)] [.v (.int .i64 sz), .fn 117 [], .box 0 0, .box 2 0, .box 1 0]
   (.v (.string (wordS bs sz valueE (u,x)).1)) [(0,eT (wordS bs sz valueE (u,x)).2.2),(1,iT (wordS bs sz valueE (u,x)).2.1),(2,bT bs)] := by
 unfold eT iT bT
 obtain ⟨z,rfl⟩ := Int.eq_ofNat_of_zero_le h0
 refine K1.M 0x40014019f Tryz.func143 10 ?_
 repeat' ((conv => whnf); first | refine K1.w ?_ | refine K1.u ?_ | refine K1.P1 (value_spec _) rfl ?_ | refine Bs.of ((bs.drop u).take z) (((IsB.bytes bs).drop _).take _) (by simp; omega) ?_ | refine K1.z ?_ | refine K1.y (fun _ => ?_) (fun _ => ?_) | fail)
 all_goals (conv => whnf)
 all_goals (refine MRet.auto rfl rfl ⟨⟨_,rfl,OEq.box1 ?_⟩,⟨_,rfl,OEq.box1 ?_⟩,⟨_,rfl,OEq.refl _⟩,trivial⟩ rfl rfl (AEq.str ?_))
 all_goals (unfold wordS; first | (simp only [cutB,Int.toNat_natCast] at *; grind) | grind)
theorem numS_le {bs : List UInt8} {lo hi : Int} {s : Sq} (h : s.1 ≤ bs.length) : (numS bs lo hi s).2.1 ≤ bs.length := by
 have hv := vtake_le (bs.drop s.1)
 rw [List.length_drop] at hv
 unfold numS
 grind
theorem wordS_le {bs : List UInt8} {sz : Int} {may : ByteArray → Int} {s : Sq} (h : s.1 ≤ bs.length) : (wordS bs sz may s).2.1 ≤ bs.length := by unfold wordS; grind
theorem octS_b {bs : List UInt8} {lo hi : Int} {s : Sq} : 0 ≤ (octS bs lo hi s).1 ∧ (octS bs lo hi s).1 ≤ 255 := by
 unfold octS
 have := UInt8.toNat_lt (bs.getD s.1 0)
 grind
theorem octet_e (bs : List UInt8) (s s' : Sq) (lo hi c : Int) (h : octS bs lo hi s = (c,s')) (hl : bs.length ≤ 1000000000) :
  MSpec Tryz.prog 141 [(0,eT s.2),(1,iT s.1),(2,bT bs)] [.v (.int .i64 lo), .v (.int .i64 hi), .box 0 0, .box 1 0, .box 2 0]
   (.v (.int .i64 c)) [(0,eT s'.2),(1,iT s'.1),(2,bT bs)] := by
 have := octet_m0 bs s.1 s.2 lo hi hl
 rw [show (s.1,s.2) = s from rfl,h] at this
 exact this
theorem number_e (bs : List UInt8) (s s' : Sq) (lo hi c : Int) (h : numS bs lo hi s = (c,s')) (hu : s.1 ≤ bs.length) (hl : bs.length ≤ 1000000000) (h0 : 0 ≤ lo) (h1 : lo ≤ hi) (h2 : hi ≤ 16777216) :
  MSpec Tryz.prog 142 [(0,eT s.2),(1,iT s.1),(2,bT bs)] [.v (.int .i64 lo), .v (.int .i64 hi), .box 0 0, .box 2 0, .box 1 0]
   (.v (.int .i64 c)) [(0,eT s'.2),(1,iT s'.1),(2,bT bs)] := by
 have := number_m0 bs s.1 s.2 lo hi hu hl h0 h1 h2
 rw [show (s.1,s.2) = s from rfl,h] at this
 exact this
theorem wordsK_e (bs : List UInt8) (s s' : Sq) (sz : Int) (c : ByteArray) (h : wordS bs sz keyE s = (c,s')) (hu : s.1 ≤ bs.length) (hl : bs.length ≤ 1000000000) (h0 : 0 ≤ sz ∧ sz ≤ 255) :
  MSpec Tryz.prog 143 [(0,eT s.2),(1,iT s.1),(2,bT bs)] [.v (.int .i64 sz), .fn 115 [], .box 0 0, .box 2 0, .box 1 0]
   (.v (.string c)) [(0,eT s'.2),(1,iT s'.1),(2,bT bs)] := by
 have := wordsK_m0 bs s.1 s.2 sz hu hl h0.1 (by omega)
 rw [show (s.1,s.2) = s from rfl,h] at this
 exact this
theorem wordsV_e (bs : List UInt8) (s s' : Sq) (sz : Int) (c : ByteArray) (h : wordS bs sz valueE s = (c,s')) (hu : s.1 ≤ bs.length) (hl : bs.length ≤ 1000000000) (h0 : 0 ≤ sz ∧ sz ≤ 255) :
  MSpec Tryz.prog 143 [(0,eT s.2),(1,iT s.1),(2,bT bs)] [.v (.int .i64 sz), .fn 117 [], .box 0 0, .box 2 0, .box 1 0]
   (.v (.string c)) [(0,eT s'.2),(1,iT s'.1),(2,bT bs)] := by
 have := wordsV_m0 bs s.1 s.2 sz hu hl h0.1 (by omega)
 rw [show (s.1,s.2) = s from rfl,h] at this
 exact this
end Go.Proofs.YtimhagicagdkfaaGreat

/-
 What package crc computes: a register's step,the sum,its four bytes.
-/
namespace Go.Proofs.YtimhagicagdkfaaGreat
open Go.RowKit
def stepBit (r : Nat) : Nat := if r % 2 = 1 then (r / 2) ^^^ 3988292384 else r / 2
def stepK (r : Nat) : Nat → Nat
  | 0 => r
  | j + 1 => stepBit (stepK r j)
def crcStep (r : Nat) (c : UInt8) : Nat := stepK (r ^^^ c.toNat) 8
def crcReg (l : List UInt8) : Nat := l.foldl crcStep 4294967295
def crcSum (l : List UInt8) : Nat := 4294967295 ^^^ crcReg l
def crcTail (l : List UInt8) : List UInt8 := [UInt8.ofNat (crcSum l),UInt8.ofNat (crcSum l / 256),UInt8.ofNat (crcSum l / 65536),UInt8.ofNat (crcSum l / 16777216)]
def sealB (l : List UInt8) : List UInt8 := l ++ crcTail l
theorem stepBit_lt {r : Nat} (h : r < 4294967296) : stepBit r < 4294967296 := by
 unfold stepBit
 split
 · exact Nat.xor_lt_two_pow (n := 32) (by omega) (by omega)
 · omega
theorem stepK_lt {r : Nat} (h : r < 4294967296) : ∀ j,stepK r j < 4294967296
  | 0 => h
  | j + 1 => stepBit_lt (stepK_lt h j)
theorem crcStep_lt {r : Nat} (h : r < 4294967296) (c : UInt8) : crcStep r c < 4294967296 := by
 have := UInt8.toNat_lt c
 exact stepK_lt (Nat.xor_lt_two_pow (n := 32) (by omega) (by omega)) 8
theorem foldl_lt : ∀ (l : List UInt8) (r : Nat),r < 4294967296 → l.foldl crcStep r < 4294967296
  | [],_,h => h
  | c :: l,_,h => foldl_lt l _ (crcStep_lt h c)
theorem crcReg_lt (l : List UInt8) : crcReg l < 4294967296 := foldl_lt l _ (by omega)
theorem crcSum_lt (l : List UInt8) : crcSum l < 4294967296 := Nat.xor_lt_two_pow (n := 32) (by omega) (crcReg_lt l)
theorem sealB_len (l : List UInt8) : (sealB l).length = l.length + 4 := by simp [sealB,crcTail]
theorem xor32 {a b : Nat} (ha : a < 4294967296) (hb : b < 4294967296) : IntKind.u32.wrap ((BitVec.ofInt IntKind.u32.bits (a : Int) ^^^ BitVec.ofInt IntKind.u32.bits (b : Int)).toNat : Int) = ((a ^^^ b : Nat) : Int) :=
 u32_xor_nat a b ha hb
theorem and1 {a : Nat} (ha : a < 4294967296) : IntKind.u32.wrap ((BitVec.ofInt IntKind.u32.bits (a : Int) &&& BitVec.ofInt IntKind.u32.bits (1 : Int)).toNat : Int) = ((a % 2 : Nat) : Int) := by
 have h : IntKind.u32.wrap ((BitVec.ofInt IntKind.u32.bits (a : Int) &&& BitVec.ofInt IntKind.u32.bits ((1 : Nat) : Int)).toNat : Int) = ((a &&& 1 : Nat) : Int) := u32_and_nat a 1 ha (by omega)
 rw [Nat.and_one_is_mod] at h
 exact h
theorem Spl.and1 {a : Nat} (ha : a < 4294967296) {A B : Prop} (h1 : a % 2 = 1 → A) (h2 : ¬ a % 2 = 1 → B) : Spl (IntKind.u32.wrap ((BitVec.ofInt IntKind.u32.bits (a : Int) &&& BitVec.ofInt IntKind.u32.bits (1 : Int)).toNat : Int) = 1) A B := by
 have e := _root_.Go.Proofs.YtimhagicagdkfaaGreat.and1 ha
 rw [e]
 refine ⟨fun h => h1 (by omega),fun h => h2 (by omega)⟩
theorem shr1 (a : Nat) : (a : Int).fdiv (2 ^ min (Int.toNat 1) IntKind.u32.bits) = ((a / 2 : Nat) : Int) := by
 show (a : Int).fdiv (2 : Int) = _
 rw [Int.fdiv_eq_ediv_of_nonneg _ (by omega)]
 omega
set_option maxHeartbeats 2000000 in
set_option maxRecDepth 100000 in
theorem step_spec (r : Nat) (hr : r < 4294967296) (c : UInt8) : ASpec Tryz.prog 140 [.v (.int .u32 (r : Int)), .v (.int .u8 (c.toNat : Int))] (.v (.int .u32 (crcStep r c : Int))) [] := by
 have hc := UInt8.toNat_lt c
 have h0 : r ^^^ c.toNat < 4294967296 := Nat.xor_lt_two_pow (n := 32) (by omega) (by omega)
 refine K1.E 0x2613 Tryz.func140 ?_
 repeat' ((conv => whnf); first | refine K1.w ?_ | refine K1.u ?_ | refine K1.z ?_ | refine K1.y (fun _ => ?_) (fun _ => ?_) | fail)
 conv => whnf
 refine ALoop.mk { j : Nat // j ≤ 8 } (fun j => ⟨[(0, .v (.int .u32 (stepK (r ^^^ c.toNat) j.1 : Int))),(9, .v (.int .i64 (j.1 : Int)))],[],[],0⟩) (fun j => 8 - j.1) ⟨0,Nat.zero_le _⟩ _
  (LeR.mk' [] _ _ _ rfl ⟨AEq.int (xor32 hr (by omega)),AEq.int rfl,trivial⟩ trivial rfl) ?_
 rintro ⟨j,hj⟩
 dsimp only
 have hj2 := stepK_lt h0 j
 repeat' ((conv => whnf); first | refine K1.w ?_ | refine K1.u ?_ | refine Spl.and1 hj2 (fun _ => ?_) (fun _ => ?_) | refine ARet.hdI ?_ | refine K1.z ?_ | refine K1.y (fun _ => ?_) (fun _ => ?_) | fail)
 · rename_i h1
   refine ⟨⟨j + 1,by omega⟩,_,LeR.mk' [] _ _ _ rfl ⟨AEq.int ?_,AEq.int rfl,trivial⟩ trivial rfl,by show 8 - (j + 1) < 8 - j; omega⟩
   show _ = ((stepBit (stepK (r ^^^ c.toNat) j) : Nat) : Int)
   unfold stepBit
   rw [if_pos h1,← xor32 (by omega) (by omega),← shr1]
   rfl
 · rename_i h1
   refine ⟨⟨j + 1,by omega⟩,_,LeR.mk' [] _ _ _ rfl ⟨AEq.int ?_,AEq.int rfl,trivial⟩ trivial rfl,by show 8 - (j + 1) < 8 - j; omega⟩
   show _ = ((stepBit (stepK (r ^^^ c.toNat) j) : Nat) : Int)
   unfold stepBit
   rw [if_neg h1]
   exact shr1 _
 · conv => whnf
   have : j = 8 := by omega
   subst this
   exact AEqI.mk (AEq.refl _)
theorem crcReg_take {l : List UInt8} {j : Nat} (h : j < l.length) : crcReg (l.take (j + 1)) = crcStep (crcReg (l.take j)) (l.getD j 0) := by
 rw [List.take_add_one,List.getElem?_eq_getElem h,List.getD,List.getElem?_eq_getElem h,crcReg,List.foldl_append]
 rfl
theorem Wr.bsh8 {s : Nat} {m : Int} {K : Int → Prop} (h : K (IntKind.u8.wrap ((s : Int).fdiv m))) : Wr ((s : Int).fdiv m) K .u8 := .raw .u8 h
set_option maxHeartbeats 2000000 in
set_option maxRecDepth 100000 in
theorem sum_spec {n : Nat} {F : Nat → List AV} (l : List UInt8) (hF : IsB F l) (hn : n = l.length) (hl : l.length ≤ 140737488355328) : ASpec Tryz.prog 113 [.sl 1 n true F] (.v (.int .u32 (crcSum l : Int))) [] := by
 refine ASpec.args (bvs := [.sl 1 l.length true (bytesF l)]) ?_ (.of (fun X u hu => AEq.isB (sc := true) hF hn X u hu) .nil)
 have hreg (j : Nat) : crcReg (l.take j) < 4294967296 := crcReg_lt _
 have hs (j : Nat) (c : UInt8) := step_spec (crcReg (l.take j)) (hreg j) c
 refine K1.E 0x3ed Tryz.func113 ?_
 repeat' ((conv => whnf); first | refine K1.w ?_ | refine K1.u ?_ | refine K1.z ?_ | refine K1.y (fun _ => ?_) (fun _ => ?_) | fail)
 conv => whnf
 refine ALoop.mk { j : Nat // j ≤ l.length } (fun j => ⟨[(3, .v (.int .u32 (crcReg (l.take j.1) : Int))),(6, .sl 1 l.length true (bytesF l)),(7, .v (.int .i64 (l.length : Int))),(8, .v (.int .i64 (j.1 : Int)))],[],[],0⟩) (fun j => l.length - j.1) ⟨0,Nat.zero_le _⟩ _
  (LeR.mk' [] _ _ _ rfl ⟨AEq.int rfl,AEq.refl _,AEq.refl _,AEq.int rfl,trivial⟩ trivial rfl) ?_
 rintro ⟨j,hj⟩
 dsimp only
 repeat' ((conv => whnf); first | refine K1.w ?_ | refine K1.u ?_ | refine K1.P1 (hs j _) rfl ?_ | refine ARet.hdI ?_ | refine K1.z ?_ | refine K1.y (fun _ => ?_) (fun _ => ?_) | fail)
 · refine ⟨⟨j + 1,by omega⟩,_,LeR.mk' [] _ _ _ rfl ⟨AEq.int ?_,AEq.refl _,AEq.refl _,AEq.int rfl,trivial⟩ trivial rfl,by show l.length - (j + 1) < l.length - j; omega⟩
   show _ = ((crcReg (l.take (j + 1)) : Nat) : Int)
   rw [crcReg_take (by omega)]
   rfl
 · conv => whnf
   refine AEqI.mk (AEq.int ?_)
   show IntKind.u32.wrap ((BitVec.ofInt IntKind.u32.bits ((4294967295 : Nat) : Int) ^^^ BitVec.ofInt IntKind.u32.bits (crcReg (l.take j) : Int)).toNat : Int) = _
   rw [xor32 (by omega) (hreg j),List.take_of_length_le (by omega)]
   rfl
def u8C (n : Nat) : AV := .v (.int .u8 ((UInt8.ofNat n).toNat : Int))
def tailCs (s : Nat) : List AV := [u8C s,u8C (s / 256),u8C (s / 65536),u8C (s / 16777216)]
theorem u8C_eq (n : Nat) (m : Nat) : IntKind.u8.wrap ((n : Int).fdiv ((m : Nat) : Int)) = ((UInt8.ofNat (n / m)).toNat : Int) := by
 rw [IntKind.wrap_u8,Int.fdiv_eq_ediv_of_nonneg _ (Int.natCast_nonneg m),UInt8.toNat_ofNat']
 simp
theorem u8V (n : Nat) (m : Nat) : AV.v (.int .u8 (IntKind.u8.wrap ((n : Int).fdiv ((m : Nat) : Int)))) = u8C (n / m) := by rw [u8C_eq]; rfl
set_option maxHeartbeats 2000000 in
set_option maxRecDepth 100000 in
theorem tail_spec {n : Nat} {F : Nat → List AV} (l : List UInt8) (hF : IsB F l) (hn : n = l.length) (hl : l.length ≤ 140737488355328) : ASpec Tryz.prog 79 [.sl 1 n true F] (.agg (tailCs (crcSum l))) [] := by
 have hs := crcSum_lt l
 have hss := sum_spec l hF hn hl
 generalize crcSum l = s at hs hss
 refine K1.E 0x33d Tryz.func79 ?_
 repeat' ((conv => whnf); first | refine K1.w ?_ | refine K1.u ?_ | refine K1.P1 (hss) rfl ?_ | refine ALoop.rounds 5 ?_ | refine ARet.hdI ?_ | refine Wr.bsh8 ?_ | refine K1.z ?_ | refine K1.y (fun _ => ?_) (fun _ => ?_) | fail)
 conv => whnf
 refine AEqI.mk (AEq.of (congrArg AV.agg ?_))
 unfold tailCs
 rw [← u8V s 256,← u8V s 65536,← u8V s 16777216,show u8C s = AV.v (.int .u8 (IntKind.u8.wrap ((s : Int).fdiv ((1 : Nat) : Int)))) by rw [u8V,Nat.div_one]]
 rfl
theorem arr4_eq (a0 a1 a2 a3 b0 b1 b2 b3 : Int) : EqFact Tryz.prog 137 [.int .u8 a0, .int .u8 a1, .int .u8 a2, .int .u8 a3] [.int .u8 b0, .int .u8 b1, .int .u8 b2, .int .u8 b3] (a0 = b0 ∧ a1 = b1 ∧ a2 = b2 ∧ a3 = b3) := by
 refine ⟨by kernel_rfl,fun w => ⟨decide (a0 = b0 ∧ a1 = b1 ∧ a2 = b2 ∧ a3 = b3),by rw [decide_eq_true_eq],?_⟩⟩
 show (Op.equalIn 10000 137 (.agg #[.int .u8 a0, .int .u8 a1, .int .u8 a2, .int .u8 a3]) (.agg #[.int .u8 b0, .int .u8 b1, .int .u8 b2, .int .u8 b3])).run Tryz.prog w = _
 rw [show (10000 : Nat) = 9999 + 1 from rfl,Op.equalIn]
 simp only [Sem.run_bind,run_underlying Tryz.underlying137,Result.andThen_ok]
 simp only [Std.Legacy.Range.forIn_eq_forIn_range',Std.Legacy.Range.size,Nat.sub_zero,Nat.add_sub_cancel,Nat.div_one,List.range'_succ,List.range'_zero,List.forIn_cons,List.forIn_nil]
 have u3 := Tryz.underlying5
 have a3' := Tryz.isAgg5
 have z3 := Tryz.sizeOf5
 go_simp
 repeat' split
 all_goals simp_all
theorem tail_isB (l : List UInt8) : IsB (chunk 1 (tailCs (crcSum l))) (crcTail l) := by
 intro i hi
 have : i = 0 ∨ i = 1 ∨ i = 2 ∨ i = 3 := by simp [crcTail] at hi; omega
 rcases this with rfl | rfl | rfl | rfl <;> rfl
set_option maxHeartbeats 2000000 in
set_option maxRecDepth 100000 in
theorem seal_spec (d : Nat) {n : Nat} {F : Nat → List AV} (l : List UInt8) (hF : IsB F l) (hn : n = l.length) (hl : l.length ≤ 1000000000) :
  ASpec Tryz.prog 78 [.sl 1 n true F] (.own d) [(d, .row 5 1 (sealB l).length true (bytesF (sealB l)))] := by
 refine ASpec.args (bvs := [.sl 1 l.length true (bytesF l)]) ?_ (.of (fun X u hu => AEq.isB (sc := true) hF hn X u hu) .nil)
 have ht := tail_spec l (IsB.bytes l) rfl (by omega)
 refine K1.E 0x1d Tryz.func78 ?_
 repeat' ((conv => whnf); first | refine K1.w ?_ | refine K1.u ?_ | refine K1.P1 (ht) rfl ?_ | refine AMk.none rfl (by omega) (by dsimp only; omega) (by omega) ?_ | refine K1.z ?_ | refine K1.y (fun _ => ?_) (fun _ => ?_) | fail)
 conv => whnf
 refine ARet.ownX d rfl rfl ?_ (AEq.refl _)
 apply OEq.isB (l := [] ++ l ++ crcTail l)
 · exact IsB.app (IsB.app (IsB.nil _) (IsB.bytes _) rfl) (tail_isB l) (by simp)
 · simp [crcTail]
 · rfl
theorem seal_get (m : List UInt8) (k : Nat) (hk : k = m.length) (i : Nat) : (((sealB m).getD (k + i) default).toNat : Int) = (((crcTail m).getD i default).toNat : Int) := by
 subst hk
 unfold sealB
 rw [List.getD,List.getElem?_append_right (by omega),Nat.add_sub_cancel_left,List.getD]
def okSeal (l : List UInt8) : Prop := 4 ≤ l.length ∧ l = sealB (l.take (l.length - 4))
set_option maxHeartbeats 2000000 in
set_option maxRecDepth 100000 in
theorem open_spec (d : Nat) {n : Nat} {F : Nat → List AV} (m : List UInt8) (hF : IsB F (sealB m)) (hn : n = (sealB m).length) (hl : m.length ≤ 1000000000) :
  ASpec Tryz.prog 44 [.sl 1 n true F] (.tup [.own d, .v (.bool true)]) [(d, .row 5 1 m.length true (bytesF m))] := by
 refine ASpec.args (bvs := [.sl 1 (sealB m).length true (bytesF (sealB m))]) ?_ (.of (fun X u hu => AEq.isB (sc := true) hF hn X u hu) .nil)
 have hlen := sealB_len m
 have htk : (sealB m).take m.length = m := by simp [sealB]
 have hFm : IsB (bytesF (sealB m)) m := fun i hi => by have := (IsB.bytes (sealB m)).take m.length i; rw [htk] at this; exact this hi
 refine K1.E 0x20001d Tryz.func44 ?_
 repeat' ((conv => whnf); first | refine K1.w ?_ | refine K1.u ?_ | refine K1.P1 (tail_spec m hFm (by omega) (by omega)) rfl ?_ | refine EqA.mk [.int .u8 _, .int .u8 _, .int .u8 _, .int .u8 _] [.int .u8 _, .int .u8 _, .int .u8 _, .int .u8 _] _ rfl rfl (arr4_eq _ _ _ _ _ _ _ _) (Spl.yes ⟨seal_get m _ (by omega) 0,seal_get m _ (by omega) 1,seal_get m _ (by omega) 2,seal_get m _ (by omega) 3⟩ ?_) | refine K1.o (id := 2) [(0,none),(1,none),(2,none),(3,none),(4,none),(5,none),(6,none),(7,none),(8,none),(9,none),(10,none),(11,some [1]),(12,none),(13,none)] [(2,[1]),(3,[1]),(4,[1]),(5,[1]),(6,[1]),(7,[1]),(8,[1]),(9,[1]),(10,[1]),(11,[1]),(12,[1]),(13,[1])] ?_ | refine K1.z ?_ | refine K1.y (fun _ => ?_) (fun _ => ?_) | fail)
 conv => whnf
 refine ARet.ownX d rfl rfl ?_ (AEq.refl _)
 apply OEq.isB (l := [] ++ m)
 · exact IsB.app (IsB.nil _) hFm rfl
 · simp
   omega
 · rfl
theorem u8_int {a b : UInt8} (h : (a.toNat : Int) = (b.toNat : Int)) : a = b := UInt8.toNat_inj.1 (by omega)
theorem drop4 {l : List UInt8} {k : Nat} (h : l.length = k + 4) : l.drop k = [l.getD (k + 0) default,l.getD (k + 1) default,l.getD (k + 2) default,l.getD (k + 3) default] := by
 apply List.ext_getElem
 · simp [h]
 · intro i h1 h2
   have hi : i < 4 := by simpa using h2
   rw [List.getElem_drop]
   rcases (show i = 0 ∨ i = 1 ∨ i = 2 ∨ i = 3 by omega) with rfl | rfl | rfl | rfl <;> simp [List.getD,h]
theorem seal_of {l : List UInt8} {k : Nat} (h : l.length = k + 4) (e : ((l.getD (k + 0) default).toNat : Int) = ((UInt8.ofNat (crcSum (l.take k))).toNat : Int) ∧ ((l.getD (k + 1) default).toNat : Int) = ((UInt8.ofNat (crcSum (l.take k) / 256)).toNat : Int) ∧
  ((l.getD (k + 2) default).toNat : Int) = ((UInt8.ofNat (crcSum (l.take k) / 65536)).toNat : Int) ∧ ((l.getD (k + 3) default).toNat : Int) = ((UInt8.ofNat (crcSum (l.take k) / 16777216)).toNat : Int)) : okSeal l := by
 obtain ⟨e0,e1,e2,e3⟩ := e
 refine ⟨by omega,?_⟩
 rw [show l.length - 4 = k by omega]
 unfold sealB crcTail
 conv => lhs; rw [← List.take_append_drop k l,drop4 h]
 rw [u8_int e0,u8_int e1,u8_int e2,u8_int e3]
set_option maxHeartbeats 2000000 in
set_option maxRecDepth 100000 in
theorem open_no {n : Nat} {F : Nat → List AV} (l : List UInt8) (h : ¬ okSeal l) (hF : IsB F l) (hn : n = l.length) (hl : l.length ≤ 1000000000) :
  ASpec Tryz.prog 44 [.sl 1 n true F] (.tup [.v (.slice none 0 0), .v (.bool false)]) [] := by
 refine ASpec.args (bvs := [.sl 1 l.length true (bytesF l)]) ?_ (.of (fun X u hu => AEq.isB (sc := true) hF hn X u hu) .nil)
 have hso (k : Nat) (hk : l.length = k + 4) := fun e => h (seal_of (k := k) hk e)
 refine K1.E 0x20001d Tryz.func44 ?_
 repeat' ((conv => whnf); first | refine K1.w ?_ | refine K1.u ?_ | refine K1.P1 (tail_spec (l.take (l.length - 4)) ((IsB.bytes l).take _) (by rw [List.length_take]; omega) (by rw [List.length_take]; omega)) rfl ?_ | refine EqA.mk [.int .u8 _, .int .u8 _, .int .u8 _, .int .u8 _] [.int .u8 _, .int .u8 _, .int .u8 _, .int .u8 _] _ rfl rfl (arr4_eq _ _ _ _ _ _ _ _) (Spl.no (fun e => ?_) ?_) | refine ARet.hdI ?_ | refine K1.o (id := 2) [(0,none),(1,none),(2,none),(3,none),(4,none),(5,none),(6,none),(7,none),(8,none),(9,none),(10,none),(11,some [1]),(12,none),(13,none)] [(2,[1]),(3,[1]),(4,[1]),(5,[1]),(6,[1]),(7,[1]),(8,[1]),(9,[1]),(10,[1]),(11,[1]),(12,[1]),(13,[1])] ?_ | refine K1.z ?_ | refine K1.y (fun _ => ?_) (fun _ => ?_) | fail)
 · conv => whnf
   exact AEqI.mk (AEq.refl _)
 · have hk : ((l.length : Int) - 4).toNat = l.length - 4 := by omega
   rw [hk] at e
   exact hso (l.length - 4) (by omega) e
 · conv => whnf
   exact AEqI.mk (AEq.refl _)
end Go.Proofs.YtimhagicagdkfaaGreat

/-
 What package varint,and its reference,compute.
-/
namespace Go.Proofs.YtimhagicagdkfaaGreat
open Go.RowKit
theorem byte_nat {n : Nat} (h : n < 256) : ((UInt8.ofNat n).toNat : Int) = n := by
 rw [UInt8.toNat_ofNat',Nat.mod_eq_of_lt (by omega)]
set_option maxRecDepth 100000 in
theorem vput_spec (d n : Nat) (h1 : n ≤ 4294967296) : ASpec Tryz.prog 77 [.v (.int .u64 (n : Int))] (.own d) [(d, .row 5 1 (vput n).length true (bytesF (vput n)))] := by
 have hst := vput_start n h1
 refine K1.E 0x2d Tryz.func77 ?_
 repeat' ((conv => whnf); first | refine K1.w ?_ | refine K1.u ?_ | refine K1.z ?_ | refine K1.y (fun _ => ?_) (fun _ => ?_) | fail)
 refine ALoop.nil 3 90 5 1 (bytesF []) rfl (by omega) ?_
 refine ALoop.mk { x : List UInt8 × Nat × Nat // x.1 ++ vputF x.2.2 x.2.1 = vput n ∧ x.2.1 < 128 ^ (x.2.2 + 1) ∧ x.1.length ≤ 10 ∧ x.2.1 ≤ 4294967296 }
  (fun x => ⟨[(0, .v (.int .u64 (x.1.2.1 : Int))),(3, .own 90)],[(90, .row 5 1 x.1.1.length true (bytesF x.1.1))],[],91⟩) (fun x => x.1.2.1)
  ⟨([],n,9),hst.1,hst.2,by simp,h1⟩ _ (LeR.auto _ _ _ rfl ⟨AEq.refl _,AEq.refl _,trivial⟩ ⟨⟨_,rfl,OEq.refl _⟩,trivial⟩ rfl) ?_
 rintro ⟨⟨acc,m,f⟩,i1,i2,i3,i4⟩
 dsimp only at i1 i2 i3 i4 ⊢
 have hl : acc.length + (vputF f m).length ≤ 10 := by
  have := congrArg List.length i1
  have := vputF_le 9 n
  simp only [List.length_append,vput] at *
  omega
 have hp := vputF_pos f m
 repeat' ((conv => whnf); first | refine K1.w ?_ | refine K1.u ?_ | refine K1.z ?_ | refine K1.y (fun _ => ?_) (fun _ => ?_) | fail)
 · obtain ⟨f',k1,k2⟩ := vput_round i1 i2 (by omega)
   refine ⟨⟨(acc ++ [UInt8.ofNat (m % 128 + 128)],m / 128,f'),k1,k2,by simp; omega,by dsimp only; omega⟩,_,LeR.auto _ _ _ rfl ⟨AEq.int (by dsimp only; omega),AEq.refl _,trivial⟩ ⟨⟨_,rfl,OEq.row (by simp) (els_app1 rfl ?_)⟩,trivial⟩ rfl,by show m / 128 < m; omega⟩
   simp only [chunk,bC,byte_nat (show m % 128 + 128 < 256 by omega)]
   rfl
 · have e := vput_last i1 (by omega)
   refine ARet.ownX d rfl rfl (OEq.row ?_ ?_) (AEq.refl _)
   · rw [← e]; simp
   · rw [← e]
     refine els_app1 rfl ?_
     simp only [chunk,bC,byte_nat (show m < 256 by omega)]
     rfl
end Go.Proofs.YtimhagicagdkfaaGreat

/-
 What event.Put computes.
-/
namespace Go.Proofs.YtimhagicagdkfaaGreat
open Go.RowKit
set_option maxHeartbeats 2000000 in
set_option maxRecDepth 100000 in
theorem put_yes_spec (d : Nat) (e : Ev) (h : mayE e = 0) : ASpec Tryz.prog 76 [e.av] (.tup [.own d, .v (.int .i64 0)]) [(d, .row 5 1 (evBytes e).length true (bytesF (evBytes e)))] := by
 have m := mayE_zero h
 have g := editE_zero m.ed
 obtain ⟨r,n,⟨c0,c1,c2,c3,c4⟩,hh,k,key,l,v⟩ := e
 obtain ⟨r0,r4,n1,n2,h1,h2,a0,a1,a2,a3,a4,own,ed⟩ := m
 dsimp only [Ev.ed] at r0 r4 n1 n2 h1 h2 a0 a1 a2 a3 a4 g
 obtain ⟨g1,g2,g3,g4,g5,g6,g7⟩ := g
 have g8 : v.size ≤ 12 ∧ 0 ≤ l ∧ l ≤ 1 := by
  cases hl : isLong k with
  | true => have := g6 hl; omega
  | false => have := g7 hl; omega
 clear own ed
 obtain ⟨n,rfl⟩ := Int.eq_ofNat_of_zero_le (show 0 ≤ n by omega)
 obtain ⟨hh,rfl⟩ := Int.eq_ofNat_of_zero_le (show 0 ≤ hh by omega)
 obtain ⟨c0,rfl⟩ := Int.eq_ofNat_of_zero_le a0.1
 obtain ⟨c1,rfl⟩ := Int.eq_ofNat_of_zero_le a1.1
 obtain ⟨c2,rfl⟩ := Int.eq_ofNat_of_zero_le a2.1
 obtain ⟨c3,rfl⟩ := Int.eq_ofNat_of_zero_le a3.1
 obtain ⟨c4,rfl⟩ := Int.eq_ofNat_of_zero_le a4.1
 have q (x : Nat) : (vput x).length ≤ 10 := vputF_le 9 x
 have q0 := q n
 have q1 := q hh
 have q2 := q c0
 have q3 := q c1
 have q4 := q c2
 have q5 := q c3
 have q6 := q c4
 clear q
 dsimp only [Ev.av,Ev.cs]
 rcases (show r = 0 ∨ r = 1 ∨ r = 2 ∨ r = 3 ∨ r = 4 by omega) with rfl | rfl | rfl | rfl | rfl
 all_goals
  refine K1.E 0x100020e00023ff Tryz.func76 ?_
  repeat' ((conv => whnf); first | refine K1.w ?_ | refine K1.u ?_ | refine K1.P1 (may_spec ⟨_,(n : Int),⟨(c0 : Int),(c1 : Int),(c2 : Int),(c3 : Int),(c4 : Int)⟩,(hh : Int),k,key,l,v⟩) rfl ?_ | refine K1.F1 (vput_spec _ _ (by omega)) rfl ?_ | refine K1.P1 (isLong_spec _) rfl ?_ | refine ALoop.rounds 6 ?_ | refine K1.I 0x3 Tryz.func110 ?_ | refine K1.I 0x3 Tryz.func111 ?_ | refine K1.o (id := 0) [(0,none),(1,none),(2,none),(3,some [2]),(4,some [2,0]),(5,some [2,0])] [(3,[2]),(4,[2,0]),(5,[2,0])] ?_ | refine K1.z ?_ | refine K1.y (fun _ => ?_) (fun _ => ?_) | fail)
  all_goals (refine ARet.ownX d rfl rfl ?_ (AEq.refl _); apply OEq.isB)
  all_goals (try (repeat' (first | exact IsB.bytes _ | exact IsB.str _ | exact IsB.one (by omega) (by omega) | exact IsB.two (by omega) (by omega) (by omega) (by omega) | apply IsB.app)))
  all_goals first
    | (simp only [List.length_append,List.length_cons,List.length_nil,str_len]; try omega; done)
    | (simp [evBytes,others,words,vputI,byteOf,byteOf', *]; done)
end Go.Proofs.YtimhagicagdkfaaGreat

/-
 What package record computes: which records may be,and their bytes.
-/
namespace Go.Proofs.YtimhagicagdkfaaGreat
open Go.RowKit
set_option maxRecDepth 100000 in
theorem rcFields_spec (k : Int) : ASpec Tryz.prog 127 [.v (.int .i64 k)] (.tup [.v (.bool (rcU k)), .v (.bool (rcE k)), .v (.bool (rcC k)), .v (.bool (rcK k))]) [] := by
 refine K1.E 0xa8fd Tryz.func127 ?_
 repeat' ((conv => whnf); first | refine K1.w ?_ | refine K1.u ?_ | refine ARet.hdI ?_ | refine K1.z ?_ | refine K1.y (fun _ => ?_) (fun _ => ?_) | fail)
 all_goals (conv => whnf)
 all_goals (refine AEqI.mk (AEq.of ?_))
 all_goals first | (subst_vars; rfl) | (simp [rcU,rcE,rcC,rcK, *]; omega)
theorem rcCount_spec (n : Int) : ASpec Tryz.prog 153 [.v (.int .i64 n)] (.v (.bool (okN n))) [] := by
 refine K1.E 0x5 Tryz.func153 ?_
 repeat' ((conv => whnf); first | refine K1.w ?_ | refine K1.u ?_ | refine ARet.hdI ?_ | refine K1.z ?_ | refine K1.y (fun _ => ?_) (fun _ => ?_) | fail)
 all_goals (conv => whnf)
 all_goals (refine AEqI.mk (AEq.of ?_))
 all_goals simp [okN,withinB, *]
theorem all_no {l : List Ev} {j : Nat} (hj : j < l.length) (h : ¬ mayE (l.getD j default) = 0) : l.all (fun e => decide (mayE e = 0)) = false := by
 rw [List.all_eq_false]
 refine ⟨l[j],List.getElem_mem hj,?_⟩
 rw [List.getD,List.getElem?_eq_getElem hj] at h
 simpa using h
theorem all_yes {l : List Ev} (h : ∀ i,i < l.length → mayE (l.getD i default) = 0) : l.all (fun e => decide (mayE e = 0)) = true := by
 rw [List.all_eq_true]
 intro e he
 obtain ⟨i,hi,rfl⟩ := List.mem_iff_getElem.1 he
 have := h i hi
 rw [List.getD,List.getElem?_eq_getElem hi] at this
 simpa using this
theorem rcFields_no (k : Int) (h : ¬ (1 ≤ k ∧ k ≤ 6)) : ASpec Tryz.prog 127 [.v (.int .i64 k)] (.tup [.v (.bool false), .v (.bool false), .v (.bool false), .v (.bool false)]) [] := by
 have := rcFields_spec k
 rw [show rcU k = false by simp [rcU]; omega,show rcE k = false by simp [rcE]; omega,show rcC k = false by simp [rcC]; omega,show rcK k = false by simp [rcK]; omega] at this
 exact this
set_option maxHeartbeats 8000000 in
set_option maxRecDepth 100000 in
theorem rcMay_spec (x : Rc) (hl : x.ev.length ≤ 140737488355328) : ASpec Tryz.prog 126 [x.av] (.v (.bool (mayR x))) [] := by
 obtain ⟨k,r,u,⟨c0,c1,c2,c3,c4⟩,ev⟩ := x
 dsimp only at hl
 rcases (show k = 1 ∨ k = 2 ∨ k = 3 ∨ k = 4 ∨ k = 5 ∨ k = 6 ∨ ¬ (1 ≤ k ∧ k ≤ 6) by omega) with rfl | rfl | rfl | rfl | rfl | rfl | hk
 all_goals dsimp only [Rc.av,Rc.cs]
 all_goals
  refine K1.E 0x10f4000000474000000057f Tryz.func126 ?_
  repeat' ((conv => whnf); first | refine K1.w ?_ | refine K1.u ?_ | refine K1.P1 (rcFields_no _ hk) rfl ?_ | refine K1.P1 (rcFields_spec _) rfl ?_ | refine K1.P1 (rcCount_spec _) rfl ?_ | refine ALoop.unr 45 6 rfl ?_ | refine EqA.mk (Clk.vs ⟨c0,c1,c2,c3,c4⟩) (Clk.vs clk0) (Clk.mk c0 c1 c2 c3 c4 = clk0) rfl rfl (clk_eq _ _) ?_ | refine ARet.hdI ?_ | refine K1.z ?_ | refine K1.y (fun _ => ?_) (fun _ => ?_) | fail)
  all_goals (conv => whnf)
  all_goals first
    | refine AEqI.mk (AEq.of ?_)
    | refine ALoop.mk { j : Nat // j ≤ ev.length ∧ ∀ i,i < j → mayE (ev.getD i default) = 0 } (fun j => ⟨[(1, .box 0 0),(80, .sl 12 ev.length true (evF ev)),(81, .v (.int .i64 (ev.length : Int))),(82, .v (.int .i64 (j.1 : Int)))],
       [(0, .box 59 [.v (.int .i64 _), .v (.int .i64 r), .v (.int .i64 u), .v (.int .i64 c0), .v (.int .i64 c1), .v (.int .i64 c2), .v (.int .i64 c3), .v (.int .i64 c4), .sl 12 ev.length true (evF ev)])],[],4⟩) (fun j => ev.length - j.1) ⟨0,Nat.zero_le _,fun i h => absurd h (Nat.not_lt_zero i)⟩ _
       (LeR.mk' [] _ _ _ rfl ⟨AEq.refl _,AEq.refl _,AEq.refl _,AEq.int rfl,trivial⟩ ⟨⟨_,rfl,OEq.refl _⟩,trivial⟩ rfl) ?_
  all_goals try (simp [mayR,rcK,rcU,rcE,rcC,okC,clkZ_iff, -List.length_eq_zero_iff, *] <;> omega; done)
  all_goals (rintro ⟨j,hj,hall⟩; dsimp only)
  all_goals repeat' ((conv => whnf); first | refine K1.w ?_ | refine K1.u ?_ | refine K1.P1 (may_spec (ev.getD (j : Int).toNat default)) rfl ?_ | refine ARet.hdI ?_ | refine K1.z ?_ | refine K1.y (fun _ => ?_) (fun _ => ?_) | fail)
  all_goals first
    | (conv => whnf
       refine ⟨⟨j + 1,by omega,fun i hi => ?_⟩,_,LeR.mk' [] _ _ _ rfl ⟨AEq.refl _,AEq.refl _,AEq.refl _,AEq.int rfl,trivial⟩ ⟨⟨_,rfl,OEq.refl _⟩,trivial⟩ rfl,by show ev.length - (j + 1) < ev.length - j; omega⟩
       rcases Nat.lt_or_ge i j with h | h
       · exact hall i h
       · rw [show i = j by omega]
         exact ‹mayE (ev.getD (j : Int).toNat default) = 0›)
    | (conv => whnf
       refine AEqI.mk (AEq.of ?_)
       have hno := all_no (l := ev) (j := j) (by omega) ‹¬ mayE (ev.getD (j : Int).toNat default) = 0›
       simp [mayR,hno])
    | (conv => whnf
       refine AEqI.mk (AEq.of ?_)
       have hyes := all_yes (l := ev) (fun i hi => hall i (by omega))
       simp [mayR,show okN 0 = true from rfl,rcK,rcU,rcE,rcC,okC,clkZ_iff, -List.length_eq_zero_iff, *] <;> omega)
def evsB (l : List Ev) : List UInt8 := l.flatMap evBytes
def clkB (c : Clk) : List UInt8 := vputI c.c0 ++ vputI c.c1 ++ vputI c.c2 ++ vputI c.c3 ++ vputI c.c4
def rcBody (x : Rc) : List UInt8 :=
 [byteOf x.k,byteOf x.r] ++ (if rcU x.k then vputI x.u else []) ++ (if rcC x.k then clkB x.c else []) ++ (if rcE x.k then vput x.ev.length ++ evsB x.ev else [])
def rcBytes (x : Rc) : List UInt8 := vput (sealB (rcBody x)).length ++ sealB (rcBody x)
theorem rcPut_no (x : Rc) (hl : x.ev.length ≤ 140737488355328) (h : mayR x = false) : ASpec Tryz.prog 93 [x.av] (.tup [.v (.slice none 0 0), .v (.int .i64 1)]) [] := by
 have hm := rcMay_spec x hl
 rw [h] at hm
 refine K1.E 0x403c0203a040004f57f Tryz.func93 ?_
 repeat' ((conv => whnf); first | refine K1.w ?_ | refine K1.u ?_ | refine K1.P1 (hm) rfl ?_ | refine ARet.hdI ?_ | refine K1.z ?_ | refine K1.y (fun _ => ?_) (fun _ => ?_) | fail)
 conv => whnf
 exact AEqI.mk (AEq.refl _)
end Go.Proofs.YtimhagicagdkfaaGreat

/-
 Plain Lean: what Fit makes may be; and sizes of an event's bytes.
-/
namespace Go.Proofs.YtimhagicagdkfaaGreat
theorem vputF_len : ∀ (f n k : Nat),n < 128 ^ (k + 1) → (vputF f n).length ≤ k + 1
  | 0,n,k,_ => by simp [vputF]
  | f + 1,n,k,h => by
    unfold vputF
    split
    · simp
    · cases k with
      | zero => simp at h; omega
      | succ k =>
        have := vputF_len f (n / 128) k (by rw [Nat.pow_succ] at h; exact Nat.div_lt_of_lt_mul (by rw [Nat.mul_comm]; exact h))
        simp only [List.length_cons]
        omega
theorem vput3 {n : Nat} (h : n ≤ 1048576) : (vput n).length ≤ 3 := vputF_len 9 n 2 (by omega)
theorem vput4 {n : Nat} (h : n ≤ 16777216) : (vput n).length ≤ 4 := vputF_len 9 n 3 (by omega)
theorem vputI3 {n : Int} (h : n ≤ 1048576) : (vputI n).length ≤ 3 := vput3 (by omega)
theorem vputI4 {n : Int} (h : n ≤ 16777216) : (vputI n).length ≤ 4 := vput4 (by omega)
theorem words_len (s : ByteArray) : (words s).length = 1 + s.size := by
 unfold words
 rw [List.length_cons,Array.length_toList]
 show s.size + 1 = _
 omega
theorem evBytes_len {e : Ev} (h : mayE e = 0) : (evBytes e).length ≤ 44 := by
 have m := mayE_zero h
 obtain ⟨k1,k2,s1,s2,_,hl,hs⟩ := editE_zero m.ed
 have hn := vputI3 (n := e.n) (by have := m.n2; omega)
 have hh := vputI4 (n := e.h) (by have := m.h2; omega)
 have c0 := vputI3 m.a0.2
 have c1 := vputI3 m.a1.2
 have c2 := vputI3 m.a2.2
 have c3 := vputI3 m.a3.2
 have c4 := vputI3 m.a4.2
 have r0 := m.r0
 have r4 := m.r4
 have hv : (if isLong e.k then byteOf e.l :: words e.v else []).length ≤ 14 := by
  split
  · rename_i h
    have := hl h
    simp only [List.length_cons,words_len,Ev.ed] at this ⊢
    omega
  · simp
 have ho : ((others e).flatMap vputI).length ≤ 12 := by
  unfold others
  rcases (show e.r = 0 ∨ e.r = 1 ∨ e.r = 2 ∨ e.r = 3 ∨ e.r = 4 by omega) with h | h | h | h | h <;> simp [h] <;> omega
 unfold evBytes
 simp only [List.length_append,List.length_cons,List.length_nil,words_len]
 have : e.key.size ≤ 8 := s2
 omega
end Go.Proofs.YtimhagicagdkfaaGreat

/-
 The bytes of a record that may be.
-/
namespace Go.Proofs.YtimhagicagdkfaaGreat
open Go.RowKit
theorem evsB_len {l : List Ev} (h : ∀ e ∈ l,mayE e = 0) : (evsB l).length ≤ 44 * l.length := by
 induction l with
 | nil => simp [evsB]
 | cons e l ih =>
   have h1 := evBytes_len (h e (by simp))
   have h2 := ih fun x hx => h x (by simp [hx])
   simp only [evsB,List.flatMap_cons,List.length_append,List.length_cons] at *
   omega
theorem evsB_take {l : List Ev} {j : Nat} (h : j < l.length) : evsB (l.take (j + 1)) = evsB (l.take j) ++ evBytes (l.getD j default) := by
 rw [List.take_add_one,List.getElem?_eq_getElem h,List.getD,List.getElem?_eq_getElem h,evsB,List.flatMap_append]
 simp [evsB]
theorem may_at {l : List Ev} (h : l.all (fun e => decide (mayE e = 0)) = true) {j : Nat} (hj : j < l.length) : mayE (l.getD j default) = 0 := by
 rw [List.getD,List.getElem?_eq_getElem hj]
 simpa using List.all_eq_true.1 h l[j] (List.getElem_mem hj)
theorem may_mem {l : List Ev} (h : l.all (fun e => decide (mayE e = 0)) = true) : ∀ e ∈ l,mayE e = 0 := fun e he => by simpa using List.all_eq_true.1 h e he
theorem okN_of {n : Int} (h : okN n = true) : ∃ m : Nat,n = m ∧ m ≤ 1048576 := by
 have := withinB_true h
 exact ⟨n.toNat,by omega,by omega⟩
structure MayR (x : Rc) : Prop where
 k : 1 ≤ x.k ∧ x.k ≤ 6
 r : 0 ≤ x.r ∧ x.r < 5
 u : okN x.u = true
 l : x.ev.length ≤ 4096
 c : okN x.c.c0 = true ∧ okN x.c.c1 = true ∧ okN x.c.c2 = true ∧ okN x.c.c3 = true ∧ okN x.c.c4 = true
 u0 : rcU x.k = true ∨ x.u = 0
 c0 : rcC x.k = true ∨ x.c = clk0
 e0 : rcE x.k = true ∨ x.ev.length = 0
 ev : x.ev.all (fun e => decide (mayE e = 0)) = true
 one : x.k ≠ 1 ∨ x.ev.length = 1
theorem mayR_of {x : Rc} (h : mayR x = true) : MayR x := by
 simp only [mayR,Bool.and_eq_true,Bool.or_eq_true,decide_eq_true_eq,clkZ_iff,okC,rcK] at h
 obtain ⟨⟨⟨⟨⟨⟨⟨⟨⟨⟨h1,h2⟩,h3⟩,h4⟩,h5⟩,⟨⟨⟨h6,h7⟩,h8⟩,h9⟩,h10⟩,h11⟩,h12⟩,h13⟩,h14⟩,h15⟩ := h
 exact ⟨h1,⟨h2,h3⟩,h4,h5,⟨h6,h7,h8,h9,h10⟩,h11,h12,h13,h14,h15⟩
set_option maxHeartbeats 8000000 in
set_option maxRecDepth 100000 in
theorem rcPut_e (d : Nat) (x : Rc) (h : mayR x = true) (hk : x.k = 1 ∨ x.k = 2 ∨ x.k = 5) :
  ASpec Tryz.prog 93 [x.av] (.tup [.own d, .v (.int .i64 0)]) [(d, .row 5 1 (rcBytes x).length true (bytesF (rcBytes x)))] := by
 have m := mayR_of h
 have hm := rcMay_spec x (by have := m.l; omega)
 rw [h] at hm
 obtain ⟨k,r,u,c,ev⟩ := x
 obtain ⟨mk,mr,mu,ml,mc,mu0,mc0,me0,mev,m1⟩ := m
 dsimp only at mk mr mu ml mc mu0 mc0 me0 mev m1 hk
 have hat : ∀ j,j < ev.length → mayE (ev.getD j default) = 0 := fun j hj => may_at mev hj
 have h44 : ∀ j,j < ev.length → (evBytes (ev.getD j default)).length ≤ 44 := fun j hj => evBytes_len (hat j hj)
 have hlen : ∀ j,(evsB (ev.take j)).length ≤ 44 * j := fun j => Nat.le_trans (evsB_len fun e he => may_mem mev e (List.mem_of_mem_take he)) (Nat.mul_le_mul_left _ (by rw [List.length_take]; omega))
 have hv : (vput ev.length).length ≤ 10 := vputF_le 9 _
 obtain ⟨kk,hkk⟩ : ∃ kk,kk = k := ⟨_,rfl⟩
 have hmore : ∀ j,([byteOf' kk,byteOf' r] ++ vput ev.length ++ evsB (ev.take j)).length = 2 + (vput ev.length).length + (evsB (ev.take j)).length := fun j => by simp; omega
 rcases hk with rfl | rfl | rfl
 all_goals
  dsimp only [Rc.av,Rc.cs] at hm ⊢
  refine K1.E 0x403c0203a040004f57f Tryz.func93 ?_
  repeat' ((conv => whnf); first | refine K1.w ?_ | refine K1.u ?_ | refine K1.P1 (hm) rfl ?_ | refine K1.P1 (rcFields_spec _) rfl ?_ | refine K1.F1 (vput_spec _ ev.length (by omega)) rfl ?_ | refine K1.z ?_ | refine K1.y (fun _ => ?_) (fun _ => ?_) | fail)
  conv => whnf
  refine ALoop.mk { j : Nat // j ≤ ev.length } (fun j => ⟨[(1, .box 0 0),(8, .own 90),(62, .sl 12 ev.length true (evF ev)),(63, .v (.int .i64 (ev.length : Int))),(64, .v (.int .i64 (j.1 : Int)))],
    [(90, .row 5 1 ([byteOf' kk,byteOf' r] ++ vput ev.length ++ evsB (ev.take j.1)).length true (bytesF ([byteOf' kk,byteOf' r] ++ vput ev.length ++ evsB (ev.take j.1))))],[],91⟩) (fun j => ev.length - j.1) ⟨0,Nat.zero_le _⟩ _
    (LeR.mk' [(3,90)] _ _ _ rfl ⟨AEq.refl _,AEq.refl _,AEq.refl _,AEq.refl _,AEq.int rfl,trivial⟩ ⟨⟨_,rfl,OEq.isB (IsB.app (IsB.two (by omega) (by omega) (by omega) (by omega)) (IsB.bytes _) rfl) (by simp <;> omega) (by simp [evsB,hkk])⟩,trivial⟩ rfl) ?_
  rintro ⟨j,hj⟩
  dsimp only
  have h44j := h44 (j : Int).toNat
  have hmj := hmore j
  have hlj := hlen j
  have hsl := sealB_len ([byteOf' kk,byteOf' r] ++ vput ev.length ++ evsB (ev.take j))
  have hvs : (vput (sealB ([byteOf' kk,byteOf' r] ++ vput ev.length ++ evsB (ev.take j))).length).length ≤ 10 := vputF_le 9 _
  repeat' ((conv => whnf); first | refine K1.w ?_ | refine K1.u ?_ | refine K1.F1 (put_yes_spec _ (ev.getD (j : Int).toNat default) (hat _ (by omega))) rfl ?_ | refine K1.F1 (seal_spec _ ([byteOf' kk,byteOf' r] ++ vput ev.length ++ evsB (ev.take j)) (IsB.bytes _) rfl (by omega)) rfl ?_ | refine K1.F1 (vput_spec _ (sealB ([byteOf' kk,byteOf' r] ++ vput ev.length ++ evsB (ev.take j))).length (by rw [sealB_len]; omega)) rfl ?_ | refine K1.z ?_ | refine K1.y (fun _ => ?_) (fun _ => ?_) | fail)
  · conv => whnf
    refine ⟨⟨j + 1,by omega⟩,_,LeR.mk' [(93,90)] _ _ _ rfl ⟨AEq.refl _,AEq.refl _,AEq.refl _,AEq.refl _,AEq.int rfl,trivial⟩ ⟨⟨_,rfl,OEq.isB (IsB.app (IsB.bytes _) (IsB.bytes _) rfl) List.length_append.symm ?_⟩,trivial⟩ rfl,by show ev.length - (j + 1) < ev.length - j; omega⟩
    rw [evsB_take (by omega),List.append_assoc]
    rfl
  · conv => whnf
    refine ARet.ownX d rfl rfl ?_ (AEq.refl _)
    refine OEq.isB (IsB.app (IsB.bytes _) (IsB.bytes _) rfl) List.length_append.symm ?_
    rw [List.take_of_length_le (by omega)]
    unfold rcBytes rcBody
    simp [hkk,rcU,rcE,rcC,byteOf,byteOf']
set_option maxHeartbeats 8000000 in
set_option maxRecDepth 100000 in
theorem rcPut_ue (d : Nat) (x : Rc) (h : mayR x = true) (hk : x.k = 4) :
  ASpec Tryz.prog 93 [x.av] (.tup [.own d, .v (.int .i64 0)]) [(d, .row 5 1 (rcBytes x).length true (bytesF (rcBytes x)))] := by
 have m := mayR_of h
 have hm := rcMay_spec x (by have := m.l; omega)
 rw [h] at hm
 obtain ⟨k,r,u,c,ev⟩ := x
 obtain ⟨mk,mr,mu,ml,mc,mu0,mc0,me0,mev,m1⟩ := m
 dsimp only at mk mr mu ml mc mu0 mc0 me0 mev m1 hk
 have hat : ∀ j,j < ev.length → mayE (ev.getD j default) = 0 := fun j hj => may_at mev hj
 have h44 : ∀ j,j < ev.length → (evBytes (ev.getD j default)).length ≤ 44 := fun j hj => evBytes_len (hat j hj)
 have hlen : ∀ j,(evsB (ev.take j)).length ≤ 44 * j := fun j => Nat.le_trans (evsB_len fun e he => may_mem mev e (List.mem_of_mem_take he)) (Nat.mul_le_mul_left _ (by rw [List.length_take]; omega))
 have hv : (vput ev.length).length ≤ 10 := vputF_le 9 _
 obtain ⟨kk,hkk⟩ : ∃ kk,kk = k := ⟨_,rfl⟩
 obtain ⟨un,rfl,hun⟩ := okN_of mu
 have hvu : (vput un).length ≤ 10 := vputF_le 9 _
 have hmore : ∀ j,([byteOf' kk,byteOf' r] ++ vput un ++ vput ev.length ++ evsB (ev.take j)).length = 2 + (vput un).length + (vput ev.length).length + (evsB (ev.take j)).length := fun j => by simp; omega
 subst hk
 all_goals
  dsimp only [Rc.av,Rc.cs] at hm ⊢
  refine K1.E 0x403c0203a040004f57f Tryz.func93 ?_
  repeat' ((conv => whnf); first | refine K1.w ?_ | refine K1.u ?_ | refine K1.P1 (hm) rfl ?_ | refine K1.P1 (rcFields_spec _) rfl ?_ | refine K1.F1 (vput_spec _ un (by omega)) rfl ?_ | refine K1.F1 (vput_spec _ ev.length (by omega)) rfl ?_ | refine K1.z ?_ | refine K1.y (fun _ => ?_) (fun _ => ?_) | fail)
  conv => whnf
  refine ALoop.mk { j : Nat // j ≤ ev.length } (fun j => ⟨[(1, .box 0 0),(8, .own 90),(62, .sl 12 ev.length true (evF ev)),(63, .v (.int .i64 (ev.length : Int))),(64, .v (.int .i64 (j.1 : Int)))],
    [(90, .row 5 1 ([byteOf' kk,byteOf' r] ++ vput un ++ vput ev.length ++ evsB (ev.take j.1)).length true (bytesF ([byteOf' kk,byteOf' r] ++ vput un ++ vput ev.length ++ evsB (ev.take j.1))))],[],91⟩) (fun j => ev.length - j.1) ⟨0,Nat.zero_le _⟩ _
    (LeR.mk' [(5,90)] _ _ _ rfl ⟨AEq.refl _,AEq.refl _,AEq.refl _,AEq.refl _,AEq.int rfl,trivial⟩ ⟨⟨_,rfl,OEq.isB (IsB.app (IsB.app (IsB.two (by omega) (by omega) (by omega) (by omega)) (IsB.bytes _) rfl) (IsB.bytes _) (by simp <;> omega)) (by simp <;> omega) (by simp [evsB,hkk])⟩,trivial⟩ rfl) ?_
  rintro ⟨j,hj⟩
  dsimp only
  have h44j := h44 (j : Int).toNat
  have hmj := hmore j
  have hlj := hlen j
  have hsl := sealB_len ([byteOf' kk,byteOf' r] ++ vput un ++ vput ev.length ++ evsB (ev.take j))
  have hvs : (vput (sealB ([byteOf' kk,byteOf' r] ++ vput un ++ vput ev.length ++ evsB (ev.take j))).length).length ≤ 10 := vputF_le 9 _
  repeat' ((conv => whnf); first | refine K1.w ?_ | refine K1.u ?_ | refine K1.F1 (put_yes_spec _ (ev.getD (j : Int).toNat default) (hat _ (by omega))) rfl ?_ | refine K1.F1 (seal_spec _ ([byteOf' kk,byteOf' r] ++ vput un ++ vput ev.length ++ evsB (ev.take j)) (IsB.bytes _) rfl (by omega)) rfl ?_ | refine K1.F1 (vput_spec _ (sealB ([byteOf' kk,byteOf' r] ++ vput un ++ vput ev.length ++ evsB (ev.take j))).length (by rw [sealB_len]; omega)) rfl ?_ | refine K1.z ?_ | refine K1.y (fun _ => ?_) (fun _ => ?_) | fail)
  · conv => whnf
    refine ⟨⟨j + 1,by omega⟩,_,LeR.mk' [(93,90)] _ _ _ rfl ⟨AEq.refl _,AEq.refl _,AEq.refl _,AEq.refl _,AEq.int rfl,trivial⟩ ⟨⟨_,rfl,OEq.isB (IsB.app (IsB.bytes _) (IsB.bytes _) rfl) List.length_append.symm ?_⟩,trivial⟩ rfl,by show ev.length - (j + 1) < ev.length - j; omega⟩
    rw [evsB_take (by omega),List.append_assoc]
    rfl
  · conv => whnf
    refine ARet.ownX d rfl rfl ?_ (AEq.refl _)
    refine OEq.isB (IsB.app (IsB.bytes _) (IsB.bytes _) rfl) List.length_append.symm ?_
    rw [List.take_of_length_le (by omega)]
    unfold rcBytes rcBody
    simp [hkk,rcU,rcE,rcC,byteOf,byteOf',vputI]
set_option maxHeartbeats 8000000 in
set_option maxRecDepth 100000 in
theorem rcPut_u (d : Nat) (x : Rc) (h : mayR x = true) (hk : x.k = 3) :
  ASpec Tryz.prog 93 [x.av] (.tup [.own d, .v (.int .i64 0)]) [(d, .row 5 1 (rcBytes x).length true (bytesF (rcBytes x)))] := by
 have m := mayR_of h
 have hm := rcMay_spec x (by have := m.l; omega)
 rw [h] at hm
 obtain ⟨k,r,u,c,ev⟩ := x
 obtain ⟨mk,mr,mu,ml,mc,mu0,mc0,me0,mev,m1⟩ := m
 dsimp only at mk mr mu ml mc mu0 mc0 me0 mev m1 hk
 obtain ⟨kk,hkk⟩ : ∃ kk,kk = k := ⟨_,rfl⟩
 obtain ⟨un,rfl,hun⟩ := okN_of mu
 have hvu : (vput un).length ≤ 10 := vputF_le 9 _
 have hmore : ([byteOf' kk,byteOf' r] ++ vput un).length = 2 + (vput un).length := by simp; omega
 have hsl := sealB_len ([byteOf' kk,byteOf' r] ++ vput un)
 have hvs : (vput (sealB ([byteOf' kk,byteOf' r] ++ vput un)).length).length ≤ 10 := vputF_le 9 _
 subst hk
 dsimp only [Rc.av,Rc.cs] at hm ⊢
 refine K1.E 0x403c0203a040004f57f Tryz.func93 ?_
 repeat' ((conv => whnf); first | refine K1.w ?_ | refine K1.u ?_ | refine K1.P1 (hm) rfl ?_ | refine K1.P1 (rcFields_spec _) rfl ?_ | refine K1.F1 (vput_spec _ un (by omega)) rfl ?_ | refine K1.F1 (seal_spec _ ([byteOf' kk,byteOf' r] ++ vput un) (hkk ▸ IsB.app (IsB.two (by omega) (by omega) (by omega) (by omega)) (IsB.bytes _) rfl) (by simp <;> omega) (by omega)) rfl ?_ | refine K1.F1 (vput_spec _ (sealB ([byteOf' kk,byteOf' r] ++ vput un)).length (by rw [sealB_len]; omega)) rfl ?_ | refine K1.z ?_ | refine K1.y (fun _ => ?_) (fun _ => ?_) | fail)
 conv => whnf
 refine ARet.ownX d rfl rfl ?_ (AEq.refl _)
 refine OEq.isB (IsB.app (IsB.bytes _) (IsB.bytes _) rfl) List.length_append.symm ?_
 unfold rcBytes rcBody
 simp [hkk,rcU,rcE,rcC,byteOf,byteOf',vputI]
set_option maxHeartbeats 8000000 in
set_option maxRecDepth 100000 in
theorem rcPut_c (d : Nat) (x : Rc) (h : mayR x = true) (hk : x.k = 6) :
  ASpec Tryz.prog 93 [x.av] (.tup [.own d, .v (.int .i64 0)]) [(d, .row 5 1 (rcBytes x).length true (bytesF (rcBytes x)))] := by
 have m := mayR_of h
 have hm := rcMay_spec x (by have := m.l; omega)
 rw [h] at hm
 obtain ⟨k,r,u,⟨c0,c1,c2,c3,c4⟩,ev⟩ := x
 obtain ⟨mk,mr,mu,ml,⟨m0,m1,m2,m3,m4⟩,mu0,mc0,me0,mev,mone⟩ := m
 dsimp only at mk mr mu ml m0 m1 m2 m3 m4 mu0 mc0 me0 mev mone hk
 obtain ⟨kk,hkk⟩ : ∃ kk,kk = k := ⟨_,rfl⟩
 obtain ⟨c0,rfl,hc0⟩ := okN_of m0
 obtain ⟨c1,rfl,hc1⟩ := okN_of m1
 obtain ⟨c2,rfl,hc2⟩ := okN_of m2
 obtain ⟨c3,rfl,hc3⟩ := okN_of m3
 obtain ⟨c4,rfl,hc4⟩ := okN_of m4
 have q0 : (vput c0).length ≤ 10 := vputF_le 9 _
 have q1 : (vput c1).length ≤ 10 := vputF_le 9 _
 have q2 : (vput c2).length ≤ 10 := vputF_le 9 _
 have q3 : (vput c3).length ≤ 10 := vputF_le 9 _
 have q4 : (vput c4).length ≤ 10 := vputF_le 9 _
 have hmore : ([byteOf' kk,byteOf' r] ++ vput c0 ++ vput c1 ++ vput c2 ++ vput c3 ++ vput c4).length = 2 + (vput c0).length + (vput c1).length + (vput c2).length + (vput c3).length + (vput c4).length := by simp; omega
 have hsl := sealB_len ([byteOf' kk,byteOf' r] ++ vput c0 ++ vput c1 ++ vput c2 ++ vput c3 ++ vput c4)
 have hvs : (vput (sealB ([byteOf' kk,byteOf' r] ++ vput c0 ++ vput c1 ++ vput c2 ++ vput c3 ++ vput c4)).length).length ≤ 10 := vputF_le 9 _
 subst hk
 dsimp only [Rc.av,Rc.cs] at hm ⊢
 refine K1.E 0x403c0203a040004f57f Tryz.func93 ?_
 repeat' ((conv => whnf); first | refine K1.w ?_ | refine K1.u ?_ | refine K1.P1 (hm) rfl ?_ | refine K1.P1 (rcFields_spec _) rfl ?_ | refine K1.F1 (vput_spec _ c0 (by omega)) rfl ?_ | refine K1.F1 (vput_spec _ c1 (by omega)) rfl ?_ | refine K1.F1 (vput_spec _ c2 (by omega)) rfl ?_ | refine K1.F1 (vput_spec _ c3 (by omega)) rfl ?_ | refine K1.F1 (vput_spec _ c4 (by omega)) rfl ?_ | refine K1.F1 (seal_spec _ ([byteOf' kk,byteOf' r] ++ vput c0 ++ vput c1 ++ vput c2 ++ vput c3 ++ vput c4) (hkk ▸ IsB.app (IsB.app (IsB.app (IsB.app (IsB.app (IsB.two (by omega) (by omega) (by omega) (by omega)) (IsB.bytes _) rfl) (IsB.bytes _) (by simp <;> omega)) (IsB.bytes _) (by simp <;> omega)) (IsB.bytes _) (by simp <;> omega)) (IsB.bytes _) (by simp <;> omega)) (by simp <;> omega) (by omega)) rfl ?_ | refine K1.F1 (vput_spec _ (sealB ([byteOf' kk,byteOf' r] ++ vput c0 ++ vput c1 ++ vput c2 ++ vput c3 ++ vput c4)).length (by rw [sealB_len]; omega)) rfl ?_ | refine ALoop.unr 44 6 rfl ?_ | refine K1.z ?_ | refine K1.y (fun _ => ?_) (fun _ => ?_) | fail)
 conv => whnf
 refine ARet.ownX d rfl rfl ?_ (AEq.refl _)
 refine OEq.isB (IsB.app (IsB.bytes _) (IsB.bytes _) rfl) List.length_append.symm ?_
 unfold rcBytes rcBody
 simp [hkk,rcU,rcE,rcC,byteOf,byteOf',vputI,clkB]
theorem rcPut_yes (d : Nat) (x : Rc) (h : mayR x = true) :
  ASpec Tryz.prog 93 [x.av] (.tup [.own d, .v (.int .i64 0)]) [(d, .row 5 1 (rcBytes x).length true (bytesF (rcBytes x)))] := by
 have m := (mayR_of h).k
 rcases (show x.k = 1 ∨ x.k = 2 ∨ x.k = 3 ∨ x.k = 4 ∨ x.k = 5 ∨ x.k = 6 by omega) with hk | hk | hk | hk | hk | hk
 · exact rcPut_e d x h (.inl hk)
 · exact rcPut_e d x h (.inr (.inl hk))
 · exact rcPut_u d x h hk
 · exact rcPut_ue d x h hk
 · exact rcPut_e d x h (.inr (.inr hk))
 · exact rcPut_c d x h hk
end Go.Proofs.YtimhagicagdkfaaGreat

/-
 The maker of records that may be (kithref18.Fit); the document's example of a record.
-/
namespace Go.Proofs.YtimhagicagdkfaaGreat
open Go.RowKit
theorem C1.nilEv {X : CX} {a1 a2 a3 a4 a5 a6 a7 a8 : AV} {f : Nat → List AV} {u : Value} (h : C1 X (.agg [a1,a2,a3,a4,a5,a6,a7,a8, .v (.slice none 0 0)]) u) : C1 X (.agg [a1,a2,a3,a4,a5,a6,a7,a8, .sl 12 0 true f]) u := by
 obtain ⟨us,e,ha⟩ := h
 obtain ⟨v,hv,hc⟩ := ha.get (i := 8) rfl
 have hc : v = .slice none 0 0 := hc
 subst hc
 refine ⟨us,e,?_⟩
 have := ha.set 8 (x := .sl 12 0 true f) (u := .slice none 0 0) (show C0 X (.sl 12 0 true f) (.slice none 0 0) from .sl 12 0 true f none 0 [] (by omega) (Nat.le_refl _) (by simp [maxLen]) (by simp) (fun i hi => absurd hi (Nat.not_lt_zero i)) (fun _ x hx => by simp [flat] at hx) (fun i x u hx => by simp [flat] at hx) (.inl rfl))
 have e2 : us.set 8 (.slice none 0 0) = us := by
  apply List.ext_getElem?
  intro i
  rw [List.getElem?_set]
  by_cases h8 : 8 = i
  · subst h8
    rw [if_pos rfl,hv]
    have : 8 < us.length := by
     rcases Nat.lt_or_ge 8 us.length with h | h
     · exact h
     · rw [List.getElem?_eq_none h] at hv; cases hv
    rw [if_pos this]
  · rw [if_neg h8]
 rw [e2] at this
 exact this
theorem AEq.nilEv {a1 a2 a3 a4 a5 a6 a7 a8 : AV} (f : Nat → List AV) : AEq (.agg [a1,a2,a3,a4,a5,a6,a7,a8, .v (.slice none 0 0)]) (.agg [a1,a2,a3,a4,a5,a6,a7,a8, .sl 12 0 true f]) := fun _ _ h => C1.nilEv h
theorem rcBytes_len (x : Rc) : 5 < (rcBytes x).length := by
 have hv := vputF_pos 9 (sealB (rcBody x)).length
 have hb : 2 ≤ (rcBody x).length := by simp [rcBody] <;> omega
 have hs := sealB_len (rcBody x)
 unfold rcBytes
 rw [List.length_append]
 show 5 < (vputF 9 (sealB (rcBody x)).length).length + _
 omega
def IsE (F : Nat → List AV) (l : List Ev) : Prop := ∀ i,i < l.length → F i = evF l i
theorem IsE.nil (F : Nat → List AV) : IsE F [] := fun i h => absurd h (by simp)
theorem IsE.app {F G : Nat → List AV} {l l' : List Ev} {n : Nat} (h : IsE F l) (h' : IsE G l') (hn : n = l.length) : IsE (appF n F G) (l ++ l') := by
 intro i hi
 rw [List.length_append] at hi
 show _ = elsF Ev.cs (l ++ l') i
 rw [← els_app hn]
 unfold appF
 cases hb : Nat.ble n i with
 | true =>
   have := Nat.le_of_ble_eq_true hb
   exact h' (i - n) (by omega)
 | false =>
   have : i < n := Nat.lt_of_not_le fun h => by rw [Nat.ble_eq_true_of_le h] at hb; cases hb
   exact h i (by omega)
theorem IsE.one {F : Nat → List AV} {e : Ev} (h : F 0 = e.cs) : IsE F [e] := fun i hi => by
 have : i = 0 := by simpa using hi
 subst this
 exact h
end Go.Proofs.YtimhagicagdkfaaGreat

/-
 Which fields a kind of frames names (frame.shapeOf: a literal map is asked).
-/
namespace Go.Proofs.YtimhagicagdkfaaGreat
open Go.RowKit
def shE (k : Int) : Bool := k == 1 || k == 4
def shU (k : Int) : Bool := k == 2
def shC (k : Int) : Bool := k == 3 || k == 5
end Go.Proofs.YtimhagicagdkfaaGreat

/-
 What package frame computes: which frames may be.
-/
namespace Go.Proofs.YtimhagicagdkfaaGreat
open Go.RowKit
def evOk (k r : Int) (e : Ev) : Bool := decide (mayE e = 0) && (decide (k ≠ 1) || decide (e.r = r))
end Go.Proofs.YtimhagicagdkfaaGreat

/-
 The bytes of a frame that may be.
-/
namespace Go.Proofs.YtimhagicagdkfaaGreat
open Go.RowKit
structure MayF (x : Rc) : Prop where
 k : 1 ≤ x.k ∧ x.k ≤ 5
 r : 0 ≤ x.r ∧ x.r < 5
 u : okN x.u = true
 u0 : shU x.k = true ∨ x.u = 0
 c0 : shC x.k = true ∨ x.c = clk0
 e0 : shE x.k = true ∨ x.ev.length = 0
 c : okN x.c.c0 = true ∧ okN x.c.c1 = true ∧ okN x.c.c2 = true ∧ okN x.c.c3 = true ∧ okN x.c.c4 = true
 l : x.ev.length ≤ 20
 one : x.k ≠ 1 ∨ x.ev.length ≠ 0
 ev : x.ev.all (evOk x.k x.r) = true
end Go.Proofs.YtimhagicagdkfaaGreat
