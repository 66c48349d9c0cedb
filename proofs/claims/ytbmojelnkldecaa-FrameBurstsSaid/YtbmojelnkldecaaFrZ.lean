/-
  The statement FrameBursts, walked.
-/
import Derived.Test.YtbmojelnkldecaaFrX
import Derived.Test.YtbmojelnkldecaaTurn
namespace Go.Proofs.Ytbmojelnkldecaa
open Go.RowKit

theorem Spl.bit {m i : Nat} (hm : m < 4294967296) (hi : i < 32) {A B : Prop} (h1 : m.testBit i = true → A) (h2 : ¬ m.testBit i = true → B) : Spl (IntKind.u32.wrap ((BitVec.ofInt IntKind.u32.bits ((m : Int).fdiv (2 ^ min (Int.toNat (i : Int)) IntKind.u32.bits)) &&& BitVec.ofInt IntKind.u32.bits (1 : Int)).toNat : Int) = 1) A B := by
  have e1 : (m : Int).fdiv (2 ^ min (Int.toNat (i : Int)) IntKind.u32.bits) = ((m / 2 ^ i : Nat) : Int) := by
    have : min (Int.toNat (i : Int)) IntKind.u32.bits = i := by show min (Int.toNat (i : Int)) 32 = i; omega
    rw [this, Int.fdiv_eq_ediv_of_nonneg _ (Int.pow_nonneg (by omega))]
    push_cast
    rfl
  have hlt : m / 2 ^ i < 4294967296 := Nat.lt_of_le_of_lt (Nat.div_le_self _ _) hm
  rw [e1, _root_.Go.Proofs.Ytbmojelnkldecaa.and1 hlt]
  have e2 : m.testBit i = decide (m / 2 ^ i % 2 = 1) := by rw [Nat.testBit_eq_decide_div_mod_eq]
  rw [e2, decide_eq_true_eq] at h1 h2
  exact ⟨fun h => h1 (by omega), fun h => h2 (by omega)⟩
theorem Wr.shl {b : Int} {q : Nat} (hb : b = (q : Int)) (h : q < 8) {K : Int → Prop} (k : K ((2 ^ q : Nat) : Int)) : Wr (1 * 2 ^ min (Int.toNat b) IntKind.u8.bits) K .u8 := by
  subst hb
  have hp : 2 ^ q ≤ 2 ^ 7 := Nat.pow_le_pow_right (by omega) (by omega)
  have e : (1 * 2 ^ min (Int.toNat (q : Int)) IntKind.u8.bits : Int) = ((2 ^ q : Nat) : Int) := by
    have : min (Int.toNat (q : Int)) IntKind.u8.bits = q := by show min (Int.toNat (q : Int)) 8 = q; omega
    rw [this, Int.one_mul]
    push_cast
    rfl
  have h0 : (0 : Int) ≤ ((2 ^ q : Nat) : Int) := Int.natCast_nonneg _
  rw [e]
  exact .u8 (by omega) (by omega) k
theorem row_turn (l : List UInt8) (q : Nat) {j : Nat} (hj : j = q / 8) (hq : q / 8 < l.length) {v : Int} (hv : v = ((l.getD (q / 8) default ^^^ UInt8.ofNat (2 ^ (q % 8))).toNat : Int)) (mm : Nat) :
    (bif Nat.beq mm j then [AV.v (.int .u8 v)] else bytesF l mm) = bytesF (turn1 l q) mm := by
  subst hj hv
  unfold turn1
  show _ = bC ((l.set (q / 8) _).getD mm default)
  rw [List.getD_eq_getElem?_getD (l := l.set _ _), List.getElem?_set]
  cases hb : Nat.beq mm (q / 8) with
  | true =>
    obtain rfl := Nat.eq_of_beq_eq_true hb
    rw [if_pos rfl, if_pos hq]
    rfl
  | false =>
    have hne : q / 8 ≠ mm := fun e => by subst e; rw [Nat.beq_refl] at hb; cases hb
    rw [if_neg hne]
    rfl
theorem xor8 (c : UInt8) {q : Nat} (h : q < 8) : IntKind.u8.wrap ((BitVec.ofInt IntKind.u8.bits (c.toNat : Int) ^^^ BitVec.ofInt IntKind.u8.bits ((2 ^ q : Nat) : Int)).toNat : Int) = ((c ^^^ UInt8.ofNat (2 ^ q)).toNat : Int) := by
  have hp : 2 ^ q ≤ 2 ^ 7 := Nat.pow_le_pow_right (by omega) (by omega)
  have hc := UInt8.toNat_lt c
  rw [UInt8.toNat_xor, bit_u8 h]
  exact u8_xor_nat c.toNat (2 ^ q) hc (by omega)

set_option maxHeartbeats 8000000 in
set_option maxRecDepth 100000 in
theorem frBursts_spec (x : Rc) (at' mask : Int) (hr : ∀ e ∈ x.ev, e.key.size ≤ 140737488355328 ∧ e.v.size ≤ 140737488355328) (hl : x.ev.length ≤ 140737488355328) (hat : -9223372036854775808 ≤ at' ∧ at' ≤ 9223372036854775807) (hm : 0 ≤ mask ∧ mask ≤ 4294967295) :
    ASpec Try.prog 8 [x.av, .v (.int .i64 at'), .v (.int .u32 mask)] (.v (.bool true)) [] := by
  have hfit := fit07_spec x hr hl
  have hy := fitF_may x
  generalize fitF x = y at hfit hy
  have hput := frPut_sl y hy
  have h5 := frBytes_len y
  have hmx := frBytes_max y hy
  have htk := takeF_put y hy
  have hok : okSeal (frBytes y) := ok_seal _
  generalize frBytes y = P at hput h5 hmx htk hok
  obtain ⟨m, rfl⟩ : ∃ m : Nat, mask = (m : Int) := ⟨mask.toNat, by omega⟩
  have ht1 := Int.tmod_lt_of_pos at' (b := 8 * (P.length : Int)) (by omega)
  have ht2 : -(8 * (P.length : Int)) < at'.tmod (8 * (P.length : Int)) := by
    rcases Int.le_total 0 at' with h | h
    · have := Int.tmod_nonneg (8 * (P.length : Int)) h
      omega
    · have h3 := Int.tmod_lt_of_pos (-at') (b := 8 * (P.length : Int)) (by omega)
      rw [Int.neg_tmod] at h3
      omega
  obtain ⟨k, hk, hk0⟩ : ∃ k : Nat, (at'.tmod (8 * (P.length : Int)) + 8 * (P.length : Int)) % (8 * (P.length : Int)) = (k : Int) ∧ k < 8 * P.length := by
    have h1 := Int.emod_nonneg (at'.tmod (8 * (P.length : Int)) + 8 * (P.length : Int)) (b := 8 * (P.length : Int)) (by omega)
    have h2 := Int.emod_lt_of_pos (at'.tmod (8 * (P.length : Int)) + 8 * (P.length : Int)) (b := 8 * (P.length : Int)) (by omega)
    exact ⟨((at'.tmod (8 * (P.length : Int)) + 8 * (P.length : Int)) % (8 * (P.length : Int))).toNat, by omega, by omega⟩
  have hsame : ASpec Try.prog 32 [rc0.av, .agg (rcCs 0 0 0 0 0 0 0 0 (.v (.slice none 0 0)))] (.v (.bool true)) [] :=
    (same07_spec rc0 rc0 true (by simp) (by decide) (by decide)).args (.same (.of (fun X u h => C1.nilEv h) .nil))
  have hT : ∀ i, i ≤ 32 → k + i ≤ 8 * P.length → (takeF (turnN P k m i) = (y, 0) ∧ turnN P k m i = P) ∨ (takeF (turnN P k m i) = (rc0, 4) ∧ ¬ turnN P k m i = P) := by
    intro i h1 h2
    by_cases hs : okSeal (turnN P k m i)
    · have e := turnN_found hok h2 h1 hs
      exact .inl ⟨by rw [e]; exact htk, e⟩
    · refine .inr ⟨?_, fun e => hs (by rw [e]; exact hok)⟩
      unfold takeF
      rw [if_neg (by rw [turnN_len]; omega), if_neg hs]
  refine aspec_of lay_ok 2475880083218475373834600399 Try.func8 rfl rfl rfl ?_
  repeat' ((conv => whnf); first | refine Spl.yes (by first | assumption | omega) ?_ | refine Spl.no (by first | assumption | omega) ?_ | refine Wr.i64 (by omega) (by omega) ?_ | refine Still.mk rfl rfl ?_ | refine InB.mk (inB_mk (by omega) (by omega)) ?_ | refine Req.mk (by omega) ?_ | refine Req.mk ⟨by first | omega | (dsimp only; omega), by first | omega | (dsimp only; omega)⟩ ?_ | refine ACall.plain _ _ (shown07_spec) .nil rfl ?_ | refine ACall.plain _ _ (hfit) (SubL.cons (.eq _) .nil) rfl ?_ | refine ACall.plain _ _ (hput) (SubL.cons (.eq _) .nil) rfl ?_ | refine Rm.is (c := (k : Int)) (by omega) (by omega) hk ?_ | refine Rm.raw (by omega) ?_ | refine Spl.mk (fun _ => ?_) (fun _ => ?_) | refine Wr.b64 ?_ | refine Wr.bu64 ?_ | refine Wr.bu32 ?_ | refine Wr.bu8 ?_ | refine Wr.u8 (by omega) (by omega) ?_ | refine Wr.u64 (by omega) (by omega) ?_ | refine Wr.u32 (by omega) (by omega) ?_ | refine Dv.pos (by omega) (by omega) ?_ | refine Rm.pos (by omega) (by omega) ?_ | refine ADraw.quiet follows_ok (by kernel_rfl) rfl ?_ | refine ADraw.sched (id := 12) lay_ok (awp_snd lay_ok _) [(0, none), (1, none), (2, none), (3, none), (4, none), (5, none), (6, none), (7, none), (8, none), (9, none), (10, none), (11, none), (12, none), (13, none), (14, none), (15, none), (16, none), (17, none), (18, none), (19, some [17, 16, 15, 14, 11, 9, 8, 4, 3])] [(4, [3]), (9, [8]), (10, [9, 8]), (11, [9, 8]), (15, [14]), (16, [15, 14]), (17, [16, 15, 14, 11, 9, 8]), (18, [17, 16, 15, 14, 11, 9, 8, 4, 3]), (19, [17, 16, 15, 14, 11, 9, 8, 4, 3])] follows_ok (by kernel_rfl) ?_ | refine BSpl.decY (by first | assumption | omega) ?_ | refine BSpl.decN (by first | assumption | omega) ?_ | refine BSpl.dec (fun _ => ?_) (fun _ => ?_) | refine BSpl.yes (by assumption) ?_ | refine BSpl.no (by assumption) ?_ | refine BSpl.mk (fun _ => ?_) (fun _ => ?_))
  conv => whnf
  refine ALoop.mk { i : Nat // i ≤ 32 ∧ k + i ≤ 8 * P.length } (fun i => ⟨[(2, .v (.int .u32 (m : Int))), (8, .sl 1 P.length true (bytesF P)), (10, .v (.int .i64 (8 * (P.length : Int)))), (11, .v (.int .i64 (k : Int))), (12, .own 90), (13, .v (.int .i64 (i.1 : Int)))],
    [(90, .row 5 1 P.length true (bytesF (turnN P k m i.1)))], [], 91⟩) (fun i => 32 - i.1) ⟨0, by omega, by omega⟩ _
    (LeR.mk' [(2, 90)] _ _ _ rfl ⟨AEq.refl _, AEq.refl _, AEq.refl _, AEq.refl _, AEq.refl _, AEq.int rfl, trivial⟩ ⟨⟨_, rfl, OEq.row (by simp) (fun i hi => IsB.app (IsB.nil _) (IsB.bytes P) rfl i (by simpa using hi))⟩, trivial⟩ rfl) ?_
  rintro ⟨i, hi, hki⟩
  dsimp only
  have hTi := hT i hi hki
  have hlen := turnN_len P k m i
  have hnext : m.testBit i = true → turnN P k m (i + 1) = turn1 (turnN P k m i) (k + i) := fun h => by show (if _ then _ else _) = _; rw [if_pos h]
  have hsame' : ¬ m.testBit i = true → turnN P k m (i + 1) = turnN P k m i := fun h => by show (if _ then _ else _) = _; rw [if_neg h]
  have hrow : ∀ j : Nat, j = (k + i) / 8 → (k + i) / 8 < (turnN P k m i).length → ∀ mm, (bif Nat.beq mm j then [AV.v (.int .u8 (IntKind.u8.wrap ((BitVec.ofInt IntKind.u8.bits (((turnN P k m i).getD j default).toNat : Int) ^^^ BitVec.ofInt IntKind.u8.bits ((2 ^ ((k + i) % 8) : Nat) : Int)).toNat : Int)))] else bytesF (turnN P k m i) mm) = bytesF (turn1 (turnN P k m i) (k + i)) mm := by
    intro j hj hq
    subst hj
    exact row_turn (turnN P k m i) (k + i) rfl hq (xor8 _ (by omega))
  generalize turnN P k m i = T at hTi hlen hrow hnext hsame'
  have hble : k + i < 8 * P.length → Nat.ble (((k : Int) + (i : Int)) / 8).toNat.succ P.length = true := fun h => Nat.ble_eq_true_of_le (by omega)
  rcases hTi with ⟨ht, he⟩ | ⟨ht, he⟩
  · repeat' ((conv => whnf); first | refine Spl.yes (by first | assumption | omega) ?_ | refine Spl.no (by first | assumption | omega) ?_ | refine Wr.i64 (by omega) (by omega) ?_ | refine Still.mk rfl rfl ?_ | refine InB.mk (inB_mk (by omega) (by omega)) ?_ | refine Req.mk (by omega) ?_ | refine Req.mk ⟨by first | omega | (dsimp only; omega), by first | omega | (dsimp only; omega)⟩ ?_ | refine ACall.plain _ _ (frTake_any T ht (IsB.bytes _) (by omega)) (SubL.cons (.eq _) .nil) rfl ?_ | refine Spl.bit (by omega) (by omega) (fun _ => ?_) (fun _ => ?_) | refine Wr.shl (q := (k + i) % 8) (by omega) (by omega) ?_ | refine BSpl.yes (hble (by omega)) ?_ | refine Bs.of T (IsB.bytes _) (by omega) ?_ | refine Bs.of P (IsB.bytes _) rfl ?_ | refine Spl.yes (by rw [he]) ?_ | refine ARet.hdI ?_ | refine Spl.mk (fun _ => ?_) (fun _ => ?_) | refine Wr.b64 ?_ | refine Wr.bu64 ?_ | refine Wr.bu32 ?_ | refine Wr.bu8 ?_ | refine Wr.u8 (by omega) (by omega) ?_ | refine Wr.u64 (by omega) (by omega) ?_ | refine Wr.u32 (by omega) (by omega) ?_ | refine Dv.pos (by omega) (by omega) ?_ | refine Rm.pos (by omega) (by omega) ?_ | refine ADraw.quiet follows_ok (by kernel_rfl) rfl ?_ | refine ADraw.sched (id := 12) lay_ok (awp_snd lay_ok _) [(0, none), (1, none), (2, none), (3, none), (4, none), (5, none), (6, none), (7, none), (8, none), (9, none), (10, none), (11, none), (12, none), (13, none), (14, none), (15, none), (16, none), (17, none), (18, none), (19, some [17, 16, 15, 14, 11, 9, 8, 4, 3])] [(4, [3]), (9, [8]), (10, [9, 8]), (11, [9, 8]), (15, [14]), (16, [15, 14]), (17, [16, 15, 14, 11, 9, 8]), (18, [17, 16, 15, 14, 11, 9, 8, 4, 3]), (19, [17, 16, 15, 14, 11, 9, 8, 4, 3])] follows_ok (by kernel_rfl) ?_ | refine BSpl.decY (by first | assumption | omega) ?_ | refine BSpl.decN (by first | assumption | omega) ?_ | refine BSpl.dec (fun _ => ?_) (fun _ => ?_) | refine BSpl.yes (by assumption) ?_ | refine BSpl.no (by assumption) ?_ | refine BSpl.mk (fun _ => ?_) (fun _ => ?_))
    all_goals (conv => whnf)
    · refine ⟨⟨i + 1, by omega, by omega⟩, _, LeR.mk' [] _ _ _ rfl ⟨AEq.refl _, AEq.refl _, AEq.refl _, AEq.refl _, AEq.refl _, AEq.int rfl, trivial⟩ ⟨⟨_, rfl, OEq.row rfl (fun mm _ => ?_)⟩, trivial⟩ rfl, by show 32 - (i + 1) < 32 - i; omega⟩
      show _ = bytesF (turnN P k m (i + 1)) mm
      rw [hnext ‹_›]
      exact hrow _ (by omega) (by omega) mm
    · refine ⟨⟨i + 1, by omega, by omega⟩, _, LeR.mk' [] _ _ _ rfl ⟨AEq.refl _, AEq.refl _, AEq.refl _, AEq.refl _, AEq.refl _, AEq.int rfl, trivial⟩ ⟨⟨_, rfl, OEq.row rfl (fun mm _ => ?_)⟩, trivial⟩ rfl, by show 32 - (i + 1) < 32 - i; omega⟩
      show _ = bytesF (turnN P k m (i + 1)) mm
      rw [hsame' ‹_›]
    all_goals exact AEqI.mk (AEq.refl _)
  · repeat' ((conv => whnf); first | refine Spl.yes (by first | assumption | omega) ?_ | refine Spl.no (by first | assumption | omega) ?_ | refine Wr.i64 (by omega) (by omega) ?_ | refine Still.mk rfl rfl ?_ | refine InB.mk (inB_mk (by omega) (by omega)) ?_ | refine Req.mk (by omega) ?_ | refine Req.mk ⟨by first | omega | (dsimp only; omega), by first | omega | (dsimp only; omega)⟩ ?_ | refine ACall.plain _ _ (frTake_any T ht (IsB.bytes _) (by omega)) (SubL.cons (.eq _) .nil) rfl ?_ | refine ACall.plain _ _ (hsame) (SubL.cons (.eq _) (SubL.cons (.eq _) .nil)) rfl ?_ | refine Spl.bit (by omega) (by omega) (fun _ => ?_) (fun _ => ?_) | refine Wr.shl (q := (k + i) % 8) (by omega) (by omega) ?_ | refine BSpl.yes (hble (by omega)) ?_ | refine Bs.of T (IsB.bytes _) (by omega) ?_ | refine Bs.of P (IsB.bytes _) rfl ?_ | refine Spl.no (str_ne he) ?_ | refine ARet.hdI ?_ | refine Spl.mk (fun _ => ?_) (fun _ => ?_) | refine Wr.b64 ?_ | refine Wr.bu64 ?_ | refine Wr.bu32 ?_ | refine Wr.bu8 ?_ | refine Wr.u8 (by omega) (by omega) ?_ | refine Wr.u64 (by omega) (by omega) ?_ | refine Wr.u32 (by omega) (by omega) ?_ | refine Dv.pos (by omega) (by omega) ?_ | refine Rm.pos (by omega) (by omega) ?_ | refine ADraw.quiet follows_ok (by kernel_rfl) rfl ?_ | refine ADraw.sched (id := 12) lay_ok (awp_snd lay_ok _) [(0, none), (1, none), (2, none), (3, none), (4, none), (5, none), (6, none), (7, none), (8, none), (9, none), (10, none), (11, none), (12, none), (13, none), (14, none), (15, none), (16, none), (17, none), (18, none), (19, some [17, 16, 15, 14, 11, 9, 8, 4, 3])] [(4, [3]), (9, [8]), (10, [9, 8]), (11, [9, 8]), (15, [14]), (16, [15, 14]), (17, [16, 15, 14, 11, 9, 8]), (18, [17, 16, 15, 14, 11, 9, 8, 4, 3]), (19, [17, 16, 15, 14, 11, 9, 8, 4, 3])] follows_ok (by kernel_rfl) ?_ | refine BSpl.decY (by first | assumption | omega) ?_ | refine BSpl.decN (by first | assumption | omega) ?_ | refine BSpl.dec (fun _ => ?_) (fun _ => ?_) | refine BSpl.yes (by assumption) ?_ | refine BSpl.no (by assumption) ?_ | refine BSpl.mk (fun _ => ?_) (fun _ => ?_))
    all_goals (conv => whnf)
    · refine ⟨⟨i + 1, by omega, by omega⟩, _, LeR.mk' [] _ _ _ rfl ⟨AEq.refl _, AEq.refl _, AEq.refl _, AEq.refl _, AEq.refl _, AEq.int rfl, trivial⟩ ⟨⟨_, rfl, OEq.row rfl (fun mm _ => ?_)⟩, trivial⟩ rfl, by show 32 - (i + 1) < 32 - i; omega⟩
      show _ = bytesF (turnN P k m (i + 1)) mm
      rw [hnext ‹_›]
      exact hrow _ (by omega) (by omega) mm
    · refine ⟨⟨i + 1, by omega, by omega⟩, _, LeR.mk' [] _ _ _ rfl ⟨AEq.refl _, AEq.refl _, AEq.refl _, AEq.refl _, AEq.refl _, AEq.int rfl, trivial⟩ ⟨⟨_, rfl, OEq.row rfl (fun mm _ => ?_)⟩, trivial⟩ rfl, by show 32 - (i + 1) < 32 - i; omega⟩
      show _ = bytesF (turnN P k m (i + 1)) mm
      rw [hsame' ‹_›]
    all_goals exact AEqI.mk (AEq.refl _)
end Go.Proofs.Ytbmojelnkldecaa
