/-
  What the pieces of event.Take compute: varint.Take, and the three readers.
-/
import Derived.Test.YtbmojelnkldecaaTxt
import Derived.Test.YtbmojelnkldecaaVTake
import Derived.Test.YtbmojelnkldecaaTkPlain
namespace Go.Proofs.Ytbmojelnkldecaa
open Go.RowKit

theorem IsB.drop {F : Nat → List AV} {l : List UInt8} (h : IsB F l) (k : Nat) : IsB (fun i => F (k + i)) (l.drop k) := by
  intro i hi
  rw [List.length_drop] at hi
  show F (k + i) = bC ((l.drop k).getD i default)
  rw [h (k + i) (by omega)]
  show bC (l.getD (k + i) default) = _
  congr 1
  simp
theorem IsB.take {F : Nat → List AV} {l : List UInt8} (h : IsB F l) (k : Nat) : IsB F (l.take k) := by
  intro i hi
  rw [List.length_take] at hi
  show F i = bC ((l.take k).getD i default)
  rw [h i (by omega)]
  show bC (l.getD i default) = _
  congr 1
  simp [show i < k by omega]
theorem AEq.isB {n : Nat} {sc : Bool} {F : Nat → List AV} {l : List UInt8} (h : IsB F l) (hn : n = l.length) : AEq (.sl 1 n sc F) (.sl 1 l.length sc (bytesF l)) := AEq.sl hn fun i hi => h i (by omega)

theorem flat_bytes : ∀ l : List UInt8, flat l.length (bytesF l) = l.map fun b => .v (.int .u8 (b.toNat : Int))
  | [] => rfl
  | b :: l => by
    show bytesF (b :: l) 0 ++ flat l.length (fun i => bytesF (b :: l) (i + 1)) = _
    rw [List.map_cons, ← flat_bytes l]
    rfl
theorem All2.vals {R : AV → Value → Prop} (hR : ∀ x u, R (.v x) u → u = x) : ∀ {xs us : List Value}, All2 R (xs.map .v) us → us = xs
  | [], us, h => by
    have := h.1
    simp at this
    exact List.eq_nil_of_length_eq_zero this.symm
  | x :: xs, [], h => by have := h.1; simp at this
  | x :: xs, u :: us, h => by
    have h0 : u = x := hR x u (h.2 0 _ _ rfl rfl)
    have := All2.vals hR (xs := xs) (us := us) ⟨by simpa using h.1, fun i a b ha hb => h.2 (i + 1) a b (by simpa using ha) (by simpa using hb)⟩
    rw [h0, this]

theorem Bs.of {n : Nat} {F : Nat → List AV} {K : List UInt8 → Prop} (l : List UInt8) (hF : IsB F l) (hn : n = l.length) (h : K l) : Bs n F K := .mk l hn (fun i hi => hF i (by omega)) h
theorem dfl8 : (default : UInt8) = 0 := rfl
/-- A contract of the walk, for a slice of bytes that is read. -/
theorem spec_bytes {P : Program} {f : FuncId} {r : AV} {l : List UInt8} (he : Enters P f) (h : ∀ (A : Option Addr) (n c : Nat) (w : World), Rd w w.heap.size 1 A n (l.map bV) → n = l.length → n ≤ c →
    Calls P f #[.slice A n c] w fun e w' => ∃ u, e = .returned u ∧ Below w.heap.size w w' ∧ ∀ X, C2 X r u) {n : Nat} {F : Nat → List AV} (hF : IsB F l) (hn : n = l.length) : ASpec P f [.sl 1 n true F] r [] := by
  refine ⟨he, fun w keep args hkeep hargs => ?_⟩
  obtain ⟨u, rfl, hu⟩ := one_arg hargs
  have hu : PC w keep (.sl 1 l.length true (bytesF l)) u := AEq.isB hF hn ⟨w, keep, fun _ => undef⟩ u hu
  cases hu with
  | sl _ _ _ _ A c us hs hnc hc hl hf hsc hpc hr =>
    have hall : All2 (PC w keep) (flat l.length (bytesF l)) us := ⟨by rw [hl]; exact flat_len hf, hpc⟩
    have e1 : flat l.length (bytesF l) = (l.map bV).map .v := by rw [flat_bytes, List.map_map]; rfl
    rw [e1] at hall
    have e2 : us = l.map bV := All2.vals (fun x u h => by cases h; rfl) hall
    subst e2
    have hRd : Rd w w.heap.size 1 A l.length (l.map bV) := by
      refine ⟨by simp, fun hpos => ?_⟩
      rcases hr with h0 | ⟨b, o, hA, hk, hcell⟩
      · omega
      · exact ⟨b, o, hA, hkeep b hk, hcell⟩
    refine (h A l.length c w hRd rfl hnc).mono ?_
    rintro e w' ⟨v, h1, h2, h3⟩
    exact ⟨v, fun _ => undef, h1, h2, h3 _, (fun p hp => by cases hp), by simp [blocksOf], (fun b hb => by simp [blocksOf] at hb)⟩

theorem C2.tup3 (X : CX) (a b c : Value) : C2 X (.tup [.v a, .v b, .v c]) (.tuple #[a, b, c]) := ⟨[a, b, c], rfl, All2.cons (R := C1 X) (show C1 X (.v a) a from rfl) (All2.cons (R := C1 X) (show C1 X (.v b) b from rfl) (All2.cons (R := C1 X) (show C1 X (.v c) c from rfl) All2.nil))⟩

theorem vtake_spec {n : Nat} {F : Nat → List AV} (l : List UInt8) (hF : IsB F l) (hn : n = l.length) : ASpec Try.prog 42 [.sl 1 n true F] (.tup [.v (.int .u64 ((vtake l).1 : Int)), .v (.int .i64 ((vtake l).2.1 : Int)), .v (.int .i64 (vtake l).2.2)]) [] :=
  spec_bytes ⟨_, _, Try.func42, rfl, rfl⟩ (fun A n c w h h1 h2 => (vtake_any A n c l w h h1 h2).mono fun e w' ⟨h3, h4⟩ => ⟨_, h3, by rw [h4]; exact Below.refl _ _, fun X => C2.tup3 X _ _ _⟩) hF hn

def eT (x : Int) : AO := .box 29 [.v (.int .i64 x)]
def iT (u : Nat) : AO := .box 3 [.v (.int .i64 (u : Int))]
def bT (bs : List UInt8) : AO := .box 26 [.sl 1 bs.length true (bytesF bs)]

set_option maxRecDepth 100000 in
theorem octet_m0 (bs : List UInt8) (u : Nat) (x lo hi : Int) (hl : bs.length ≤ 1000000000) :
    MSpec Try.prog 49 [(0, eT x), (1, iT u), (2, bT bs)] [.v (.int .i64 lo), .v (.int .i64 hi), .box 0 0, .box 1 0, .box 2 0]
      (.v (.int .i64 (octS bs lo hi (u, x)).1)) [(0, eT (octS bs lo hi (u, x)).2.2), (1, iT (octS bs lo hi (u, x)).2.1), (2, bT bs)] := by
  unfold eT iT bT
  refine mspec_of lay_ok 1074069919 10 Try.func49 rfl rfl rfl ?_
  repeat' ((conv => whnf); first | refine Spl.yes (by first | assumption | omega) ?_ | refine Spl.no (by first | assumption | omega) ?_ | refine Wr.i64 (by omega) (by omega) ?_ | refine Still.mk rfl rfl ?_ | refine InB.mk (inB_mk (by omega) (by omega)) ?_ | refine Req.mk (by omega) ?_ | refine Req.mk ⟨by first | omega | (dsimp only; omega), by first | omega | (dsimp only; omega)⟩ ?_ | refine ACall.plain _ _ (within_spec _ _ _) (SubL.cons (.eq _) (SubL.cons (.eq _) (SubL.cons (.eq _) .nil))) rfl ?_ | refine Spl.mk (fun _ => ?_) (fun _ => ?_) | refine Wr.b64 ?_ | refine Wr.bu64 ?_ | refine Wr.bu32 ?_ | refine Wr.bu8 ?_ | refine Wr.u8 (by omega) (by omega) ?_ | refine Wr.u64 (by omega) (by omega) ?_ | refine Wr.u32 (by omega) (by omega) ?_ | refine Dv.pos (by omega) (by omega) ?_ | refine Rm.pos (by omega) (by omega) ?_ | refine ADraw.quiet follows_ok (by kernel_rfl) rfl ?_ | refine BSpl.decY (by first | assumption | omega) ?_ | refine BSpl.decN (by first | assumption | omega) ?_ | refine BSpl.dec (fun _ => ?_) (fun _ => ?_) | refine BSpl.yes (by assumption) ?_ | refine BSpl.no (by assumption) ?_ | refine BSpl.mk (fun _ => ?_) (fun _ => ?_))
  all_goals (conv => whnf)
  all_goals (refine MRet.auto rfl rfl ⟨⟨_, rfl, OEq.box1 ?_⟩, ⟨_, rfl, OEq.box1 ?_⟩, ⟨_, rfl, OEq.refl _⟩, trivial⟩ rfl rfl (AEq.int ?_))
  all_goals (unfold octS; simp only [dfl8, Int.toNat_natCast] at *; grind)

set_option maxRecDepth 100000 in
theorem number_m0 (bs : List UInt8) (u : Nat) (x lo hi : Int) (hu : u ≤ bs.length) (hl : bs.length ≤ 1000000000) (h0 : 0 ≤ lo) (h1 : lo ≤ hi) (h2 : hi ≤ 16777216) :
    MSpec Try.prog 51 [(0, eT x), (1, iT u), (2, bT bs)] [.v (.int .i64 lo), .v (.int .i64 hi), .box 0 0, .box 2 0, .box 1 0]
      (.v (.int .i64 (numS bs lo hi (u, x)).1)) [(0, eT (numS bs lo hi (u, x)).2.2), (1, iT (numS bs lo hi (u, x)).2.1), (2, bT bs)] := by
  unfold eT iT bT
  have hv := vtake_le (bs.drop u)
  rw [List.length_drop] at hv
  refine mspec_of lay_ok 85899351967 10 Try.func51 rfl rfl rfl ?_
  repeat' ((conv => whnf); first | refine Spl.yes (by first | assumption | omega) ?_ | refine Spl.no (by first | assumption | omega) ?_ | refine Wr.i64 (by omega) (by omega) ?_ | refine Still.mk rfl rfl ?_ | refine InB.mk (inB_mk (by omega) (by omega)) ?_ | refine Req.mk (by omega) ?_ | refine Req.mk ⟨by first | omega | (dsimp only; omega), by first | omega | (dsimp only; omega)⟩ ?_ | refine ACall.plain _ _ (vtake_spec (bs.drop u) ((IsB.bytes bs).drop _) (by simp)) (SubL.cons (.eq _) .nil) rfl ?_ | refine Spl.mk (fun _ => ?_) (fun _ => ?_) | refine Wr.b64 ?_ | refine Wr.bu64 ?_ | refine Wr.bu32 ?_ | refine Wr.bu8 ?_ | refine Wr.u8 (by omega) (by omega) ?_ | refine Wr.u64 (by omega) (by omega) ?_ | refine Wr.u32 (by omega) (by omega) ?_ | refine Dv.pos (by omega) (by omega) ?_ | refine Rm.pos (by omega) (by omega) ?_ | refine ADraw.quiet follows_ok (by kernel_rfl) rfl ?_ | refine BSpl.decY (by first | assumption | omega) ?_ | refine BSpl.decN (by first | assumption | omega) ?_ | refine BSpl.dec (fun _ => ?_) (fun _ => ?_) | refine BSpl.yes (by assumption) ?_ | refine BSpl.no (by assumption) ?_ | refine BSpl.mk (fun _ => ?_) (fun _ => ?_))
  all_goals (conv => whnf)
  all_goals (refine MRet.auto rfl rfl ⟨⟨_, rfl, OEq.box1 ?_⟩, ⟨_, rfl, OEq.box1 ?_⟩, ⟨_, rfl, OEq.refl _⟩, trivial⟩ rfl rfl (AEq.int ?_))
  all_goals (unfold numS; grind)

set_option maxRecDepth 100000 in
theorem wordsK_m0 (bs : List UInt8) (u : Nat) (x sz : Int) (hu : u ≤ bs.length) (hl : bs.length ≤ 1000000000) (h0 : 0 ≤ sz) (h2 : sz ≤ 16777216) :
    MSpec Try.prog 52 [(0, eT x), (1, iT u), (2, bT bs)] [.v (.int .i64 sz), .fn 74 [], .box 0 0, .box 2 0, .box 1 0]
      (.v (.string (wordS bs sz keyE (u, x)).1)) [(0, eT (wordS bs sz keyE (u, x)).2.2), (1, iT (wordS bs sz keyE (u, x)).2.1), (2, bT bs)] := by
  unfold eT iT bT
  obtain ⟨z, rfl⟩ := Int.eq_ofNat_of_zero_le h0
  refine mspec_of lay_ok 17181180319 10 Try.func52 rfl rfl rfl ?_
  repeat' ((conv => whnf); first | refine Spl.yes (by first | assumption | omega) ?_ | refine Spl.no (by first | assumption | omega) ?_ | refine Wr.i64 (by omega) (by omega) ?_ | refine Still.mk rfl rfl ?_ | refine InB.mk (inB_mk (by omega) (by omega)) ?_ | refine Req.mk (by omega) ?_ | refine Req.mk ⟨by first | omega | (dsimp only; omega), by first | omega | (dsimp only; omega)⟩ ?_ | refine ACall.plain _ _ (key_spec _) (SubL.cons (.eq _) .nil) rfl ?_ | refine Bs.of ((bs.drop u).take z) (((IsB.bytes bs).drop _).take _) (by simp; omega) ?_ | refine Spl.mk (fun _ => ?_) (fun _ => ?_) | refine Wr.b64 ?_ | refine Wr.bu64 ?_ | refine Wr.bu32 ?_ | refine Wr.bu8 ?_ | refine Wr.u8 (by omega) (by omega) ?_ | refine Wr.u64 (by omega) (by omega) ?_ | refine Wr.u32 (by omega) (by omega) ?_ | refine Dv.pos (by omega) (by omega) ?_ | refine Rm.pos (by omega) (by omega) ?_ | refine ADraw.quiet follows_ok (by kernel_rfl) rfl ?_ | refine BSpl.decY (by first | assumption | omega) ?_ | refine BSpl.decN (by first | assumption | omega) ?_ | refine BSpl.dec (fun _ => ?_) (fun _ => ?_) | refine BSpl.yes (by assumption) ?_ | refine BSpl.no (by assumption) ?_ | refine BSpl.mk (fun _ => ?_) (fun _ => ?_))
  all_goals (conv => whnf)
  all_goals (refine MRet.auto rfl rfl ⟨⟨_, rfl, OEq.box1 ?_⟩, ⟨_, rfl, OEq.box1 ?_⟩, ⟨_, rfl, OEq.refl _⟩, trivial⟩ rfl rfl (AEq.str ?_))
  all_goals (unfold wordS; first | (simp only [cutB, Int.toNat_natCast] at *; grind) | grind)

set_option maxRecDepth 100000 in
theorem wordsV_m0 (bs : List UInt8) (u : Nat) (x sz : Int) (hu : u ≤ bs.length) (hl : bs.length ≤ 1000000000) (h0 : 0 ≤ sz) (h2 : sz ≤ 16777216) :
    MSpec Try.prog 52 [(0, eT x), (1, iT u), (2, bT bs)] [.v (.int .i64 sz), .fn 75 [], .box 0 0, .box 2 0, .box 1 0]
      (.v (.string (wordS bs sz valueE (u, x)).1)) [(0, eT (wordS bs sz valueE (u, x)).2.2), (1, iT (wordS bs sz valueE (u, x)).2.1), (2, bT bs)] := by
  unfold eT iT bT
  obtain ⟨z, rfl⟩ := Int.eq_ofNat_of_zero_le h0
  refine mspec_of lay_ok 17181180319 10 Try.func52 rfl rfl rfl ?_
  repeat' ((conv => whnf); first | refine Spl.yes (by first | assumption | omega) ?_ | refine Spl.no (by first | assumption | omega) ?_ | refine Wr.i64 (by omega) (by omega) ?_ | refine Still.mk rfl rfl ?_ | refine InB.mk (inB_mk (by omega) (by omega)) ?_ | refine Req.mk (by omega) ?_ | refine Req.mk ⟨by first | omega | (dsimp only; omega), by first | omega | (dsimp only; omega)⟩ ?_ | refine ACall.plain _ _ (value_spec _) (SubL.cons (.eq _) .nil) rfl ?_ | refine Bs.of ((bs.drop u).take z) (((IsB.bytes bs).drop _).take _) (by simp; omega) ?_ | refine Spl.mk (fun _ => ?_) (fun _ => ?_) | refine Wr.b64 ?_ | refine Wr.bu64 ?_ | refine Wr.bu32 ?_ | refine Wr.bu8 ?_ | refine Wr.u8 (by omega) (by omega) ?_ | refine Wr.u64 (by omega) (by omega) ?_ | refine Wr.u32 (by omega) (by omega) ?_ | refine Dv.pos (by omega) (by omega) ?_ | refine Rm.pos (by omega) (by omega) ?_ | refine ADraw.quiet follows_ok (by kernel_rfl) rfl ?_ | refine BSpl.decY (by first | assumption | omega) ?_ | refine BSpl.decN (by first | assumption | omega) ?_ | refine BSpl.dec (fun _ => ?_) (fun _ => ?_) | refine BSpl.yes (by assumption) ?_ | refine BSpl.no (by assumption) ?_ | refine BSpl.mk (fun _ => ?_) (fun _ => ?_))
  all_goals (conv => whnf)
  all_goals (refine MRet.auto rfl rfl ⟨⟨_, rfl, OEq.box1 ?_⟩, ⟨_, rfl, OEq.box1 ?_⟩, ⟨_, rfl, OEq.refl _⟩, trivial⟩ rfl rfl (AEq.str ?_))
  all_goals (unfold wordS; first | (simp only [cutB, Int.toNat_natCast] at *; grind) | grind)

/-! The same, over the state of the reader. -/
theorem numS_le {bs : List UInt8} {lo hi : Int} {s : St} (h : s.1 ≤ bs.length) : (numS bs lo hi s).2.1 ≤ bs.length := by
  have hv := vtake_le (bs.drop s.1)
  rw [List.length_drop] at hv
  unfold numS
  grind
theorem wordS_le {bs : List UInt8} {sz : Int} {may : ByteArray → Int} {s : St} (h : s.1 ≤ bs.length) : (wordS bs sz may s).2.1 ≤ bs.length := by unfold wordS; grind
theorem octS_b {bs : List UInt8} {lo hi : Int} {s : St} : 0 ≤ (octS bs lo hi s).1 ∧ (octS bs lo hi s).1 ≤ 255 := by
  unfold octS
  have := UInt8.toNat_lt (bs.getD s.1 0)
  grind
theorem octet_e (bs : List UInt8) (s s' : St) (lo hi c : Int) (h : octS bs lo hi s = (c, s')) (hl : bs.length ≤ 1000000000) :
    MSpec Try.prog 49 [(0, eT s.2), (1, iT s.1), (2, bT bs)] [.v (.int .i64 lo), .v (.int .i64 hi), .box 0 0, .box 1 0, .box 2 0]
      (.v (.int .i64 c)) [(0, eT s'.2), (1, iT s'.1), (2, bT bs)] := by
  have := octet_m0 bs s.1 s.2 lo hi hl
  rw [show (s.1, s.2) = s from rfl, h] at this
  exact this
theorem number_e (bs : List UInt8) (s s' : St) (lo hi c : Int) (h : numS bs lo hi s = (c, s')) (hu : s.1 ≤ bs.length) (hl : bs.length ≤ 1000000000) (h0 : 0 ≤ lo) (h1 : lo ≤ hi) (h2 : hi ≤ 16777216) :
    MSpec Try.prog 51 [(0, eT s.2), (1, iT s.1), (2, bT bs)] [.v (.int .i64 lo), .v (.int .i64 hi), .box 0 0, .box 2 0, .box 1 0]
      (.v (.int .i64 c)) [(0, eT s'.2), (1, iT s'.1), (2, bT bs)] := by
  have := number_m0 bs s.1 s.2 lo hi hu hl h0 h1 h2
  rw [show (s.1, s.2) = s from rfl, h] at this
  exact this
theorem wordsK_e (bs : List UInt8) (s s' : St) (sz : Int) (c : ByteArray) (h : wordS bs sz keyE s = (c, s')) (hu : s.1 ≤ bs.length) (hl : bs.length ≤ 1000000000) (h0 : 0 ≤ sz ∧ sz ≤ 255) :
    MSpec Try.prog 52 [(0, eT s.2), (1, iT s.1), (2, bT bs)] [.v (.int .i64 sz), .fn 74 [], .box 0 0, .box 2 0, .box 1 0]
      (.v (.string c)) [(0, eT s'.2), (1, iT s'.1), (2, bT bs)] := by
  have := wordsK_m0 bs s.1 s.2 sz hu hl h0.1 (by omega)
  rw [show (s.1, s.2) = s from rfl, h] at this
  exact this
theorem wordsV_e (bs : List UInt8) (s s' : St) (sz : Int) (c : ByteArray) (h : wordS bs sz valueE s = (c, s')) (hu : s.1 ≤ bs.length) (hl : bs.length ≤ 1000000000) (h0 : 0 ≤ sz ∧ sz ≤ 255) :
    MSpec Try.prog 52 [(0, eT s.2), (1, iT s.1), (2, bT bs)] [.v (.int .i64 sz), .fn 75 [], .box 0 0, .box 2 0, .box 1 0]
      (.v (.string c)) [(0, eT s'.2), (1, iT s'.1), (2, bT bs)] := by
  have := wordsV_m0 bs s.1 s.2 sz hu hl h0.1 (by omega)
  rw [show (s.1, s.2) = s from rfl, h] at this
  exact this
end Go.Proofs.Ytbmojelnkldecaa
