/-
  The statement RecordBursts, walked.
-/
import Derived.Test.YtbmojelnkldecaaRecJ
import Derived.Test.YtbmojelnkldecaaTurn
namespace Go.Proofs.Ytbmojelnkldecaa
open Go.RowKit

theorem turn1_mid (A S C : List UInt8) {q : Nat} (hq : q < 8 * S.length) : turn1 (A ++ S ++ C) (8 * A.length + q) = A ++ turn1 S q ++ C := by
  unfold turn1
  rw [show (8 * A.length + q) / 8 = A.length + q / 8 by omega, show (8 * A.length + q) % 8 = q % 8 by omega, List.append_assoc]
  rw [List.getD, List.getElem?_append_right (by omega), Nat.add_sub_cancel_left, List.getElem?_append_left (by omega)]
  rw [List.set_append_right _ _ (by omega), Nat.add_sub_cancel_left, List.set_append_left _ _ (by omega), List.append_assoc]
  rfl
theorem turnN_mid (A S C : List UInt8) (k m : Nat) : ∀ i, k + i ≤ 8 * S.length → turnN (A ++ S ++ C) (8 * A.length + k) m i = A ++ turnN S k m i ++ C
  | 0, _ => rfl
  | i + 1, h => by
    have ih := turnN_mid A S C k m i (by omega)
    unfold turnN
    split
    · rw [ih, Nat.add_assoc, turn1_mid _ _ _ (by rw [turnN_len]; omega)]
    · exact ih
theorem first_turned {n0 : Nat} {S' post : List UInt8} (hn : n0 ≤ 4294967296) (hl : S'.length = n0) (ho : ¬ okSeal S') : firstF (vput n0 ++ (S' ++ post)) = none := by
  unfold firstF
  rw [vtake_put _ _ hn, List.drop_left]
  dsimp only
  rw [← hl, List.take_left, if_neg ho]
  split <;> rfl

set_option maxHeartbeats 8000000 in
set_option maxRecDepth 100000 in
theorem rcBursts_spec (a : List Rc) (x0 x1 mask : Int) (ha : ∀ r ∈ a, r.rng) (hla : a.length ≤ 140737488355328) (hx0 : 0 ≤ x0 ∧ x0 ≤ 65535) (hx1 : 0 ≤ x1 ∧ x1 ≤ 65535) (hm : 0 ≤ mask ∧ mask ≤ 4294967295) :
    ASpec Try.prog 14 [.sl 9 a.length false (rcF a), .agg [.v (.int .u16 x0), .v (.int .u16 x1)], .v (.int .u32 mask)] (.v (.bool true)) [] := by
  have hA := made_spec a ha hla
  have hX : ∀ r ∈ madeF a, mayR r = true := made_may
  have hXl : (madeF a).length ≤ 10 := by unfold madeF; rw [List.length_map, List.length_take]; omega
  generalize madeF a = W at hA hX hXl
  have hXb := rcsB_max hX
  have hATl : (atsF W).length = W.length := by unfold atsF; rw [List.length_map, List.length_range]
  have hAT : ∀ i, i < W.length → (atsF W).getD i default = ((rcsB (W.take i)).length : Int) := by
    intro i hi
    unfold atsF
    rw [List.getD, List.getElem?_map, List.getElem?_range hi]
    rfl
  generalize atsF W = AT at hA hATl hAT
  obtain ⟨m, rfl⟩ : ∃ m : Nat, mask = (m : Int) := ⟨mask.toNat, by omega⟩
  by_cases hW0 : W.length = 0
  · refine aspec_of lay_ok 174224571883961359297485862956082621538263 Try.func14 rfl rfl rfl ?_
    repeat' ((conv => whnf); first | refine Spl.yes (by first | assumption | omega) ?_ | refine Spl.no (by first | assumption | omega) ?_ | refine Wr.i64 (by omega) (by omega) ?_ | refine Still.mk rfl rfl ?_ | refine InB.mk (inB_mk (by omega) (by omega)) ?_ | refine Req.mk (by omega) ?_ | refine Req.mk ⟨by first | omega | (dsimp only; omega), by first | omega | (dsimp only; omega)⟩ ?_ | refine ACall.plain _ _ (shown18_spec) .nil rfl ?_ | refine ACall.plain _ _ (hA) (SubL.cons (.eq _) .nil) rfl ?_ | refine ARet.hdI ?_ | refine Spl.mk (fun _ => ?_) (fun _ => ?_) | refine Wr.b64 ?_ | refine Wr.bu64 ?_ | refine Wr.bu32 ?_ | refine Wr.bu8 ?_ | refine Wr.u8 (by omega) (by omega) ?_ | refine Wr.u64 (by omega) (by omega) ?_ | refine Wr.u32 (by omega) (by omega) ?_ | refine Dv.pos (by omega) (by omega) ?_ | refine Rm.pos (by omega) (by omega) ?_ | refine ADraw.quiet follows_ok (by kernel_rfl) rfl ?_ | refine ADraw.sched (id := 20) lay_ok (awp_snd lay_ok _) [(0, none), (1, none), (2, none), (3, none), (4, none), (5, none), (6, none), (7, none), (8, none), (9, none), (10, none), (11, none), (12, none), (13, none), (14, none), (15, none), (16, none), (17, none), (18, none), (19, none), (20, none), (21, none), (22, none), (23, some [21, 20, 19, 18, 15, 13, 12, 11, 6, 5, 4])] [(5, [4]), (6, [5, 4]), (12, [11]), (13, [12, 11]), (14, [13, 12, 11]), (15, [13, 12, 11]), (19, [18]), (20, [19, 18]), (21, [20, 19, 18, 15, 13, 12, 11]), (22, [21, 20, 19, 18, 15, 13, 12, 11, 6, 5, 4]), (23, [21, 20, 19, 18, 15, 13, 12, 11, 6, 5, 4])] follows_ok (by kernel_rfl) ?_ | refine BSpl.decY (by first | assumption | omega) ?_ | refine BSpl.decN (by first | assumption | omega) ?_ | refine BSpl.dec (fun _ => ?_) (fun _ => ?_) | refine BSpl.yes (by assumption) ?_ | refine BSpl.no (by assumption) ?_ | refine BSpl.mk (fun _ => ?_) (fun _ => ?_))
    conv => whnf
    exact AEqI.mk (AEq.refl _)
  · obtain ⟨K, hK, hK0⟩ : ∃ K : Nat, x0 % (W.length : Int) = (K : Int) ∧ K < W.length := by
      have h1 := Int.emod_nonneg x0 (b := (W.length : Int)) (by omega)
      have h2 := Int.emod_lt_of_pos x0 (b := (W.length : Int)) (by omega)
      exact ⟨(x0 % (W.length : Int)).toNat, by omega, by omega⟩
    have hall := all_spec (rcsB W) (IsB.bytes _) rfl (by omega) (recs_self hX)
    obtain ⟨x, hx⟩ : ∃ x, x = W.getD K default := ⟨_, rfl⟩
    have hxm : mayR x = true := by rw [hx, List.getD, List.getElem?_eq_getElem hK0]; exact hX _ (List.getElem_mem _)
    have hbx := rcBody_len x hxm
    have hsx := sealB_len (rcBody x)
    obtain ⟨S, hS⟩ : ∃ S, S = sealB (rcBody x) := ⟨_, rfl⟩
    have hSok : okSeal S := by rw [hS]; exact ok_seal _
    have hxB : rcBytes x = vput S.length ++ S := by rw [hS]; rfl
    rw [← hS] at hsx
    have hv10 : (vput S.length).length ≤ 10 := vputF_le 9 _
    obtain ⟨pre, hpre⟩ : ∃ pre, pre = rcsB (W.take K) := ⟨_, rfl⟩
    obtain ⟨post, hpost⟩ : ∃ post, post = rcsB (W.drop (K + 1)) := ⟨_, rfl⟩
    have hB : rcsB W = pre ++ vput S.length ++ S ++ post := by
      have e : W = W.take K ++ x :: W.drop (K + 1) := by
        rw [hx, List.getD, List.getElem?_eq_getElem hK0]
        simp
      conv => lhs; rw [e]
      rw [rcsB_app, hpre, hpost]
      show rcsB (W.take K) ++ (rcBytes x ++ rcsB (W.drop (K + 1))) = _
      rw [hxB]
      simp only [List.append_assoc]
    have hBl : (rcsB W).length = pre.length + (vput S.length).length + S.length + post.length := by rw [hB]; simp only [List.length_append]
    have hA0 : AT.getD (K : Int).toNat default = (pre.length : Int) := by rw [hpre]; exact hAT K hK0
    have hA1 : K + 1 < W.length → AT.getD ((K : Int) + 1).toNat default = ((pre.length + (vput S.length).length + S.length : Nat) : Int) := by
      intro h
      have := hAT (K + 1) h
      rw [recs_take hK0, ← hx, hxB, List.length_append, ← hpre, List.length_append] at this
      rw [show ((K : Int) + 1).toNat = K + 1 by omega, this]
      congr 1
      omega
    have hA2 : K + 1 = W.length → post.length = 0 := fun h => by rw [hpost, List.drop_of_length_le (by omega)]; rfl
    have hvt : vtake (vput S.length ++ S) = (S.length, (vput S.length).length, 0) := vtake_put _ _ (by omega)
    have hvs : ∀ {n : Nat} {F : Nat → List AV} (_ : IsB F (vput S.length ++ S)) (_ : n = (vput S.length ++ S).length), _ := fun {n} {F} hF hn => vtake_spec (n := n) (F := F) (vput S.length ++ S) hF hn
    rw [hvt] at hvs
    dsimp only at hvs
    have hFv : IsB (fun i => bytesF (rcsB W) ((AT.getD (K : Int).toNat default).toNat + i)) (vput S.length ++ S) := by
      have h := (IsB.drop (IsB.bytes (rcsB W)) pre.length).take (vput S.length ++ S).length
      have e : ((rcsB W).drop pre.length).take (vput S.length ++ S).length = vput S.length ++ S := by
        rw [hB, List.append_assoc, List.append_assoc, List.drop_left, ← List.append_assoc, List.take_left]
      rw [e] at h
      rw [hA0]
      exact h
    obtain ⟨bit, hbit, hbit0⟩ : ∃ bit : Nat, x1 % (8 * (S.length : Int)) = (bit : Int) ∧ bit < 8 * S.length := by
      have h1 := Int.emod_nonneg x1 (b := 8 * (S.length : Int)) (by omega)
      have h2 := Int.emod_lt_of_pos x1 (b := 8 * (S.length : Int)) (by omega)
      exact ⟨(x1 % (8 * (S.length : Int))).toNat, by omega, by omega⟩
    have hbit2 : ∀ z : Int, z = 8 * (S.length : Int) → x1 % z = (bit : Int) := fun z hz => by rw [hz]; exact hbit
    obtain ⟨fr, hfr⟩ : ∃ fr, fr = pre.length + (vput S.length).length := ⟨_, rfl⟩
    have hTl : (W.take K).length = K := by rw [List.length_take]; omega
    have hTm : ∀ r ∈ W.take K, mayR r = true := fun r hr => hX r (List.mem_of_mem_take hr)
    have hs2 : ∀ {n : Nat} {F : Nat → List AV} (_ : IsR F (W.take K)) (_ : n = K), _ := fun {n} {F} hF hn => same18_self (n := n) (F := F) (W.take K) hTm (by omega) hF (by rw [hTl]; exact hn)
    have hT : ∀ i, i ≤ 32 → bit + i ≤ 8 * S.length → turnN (rcsB W) (8 * fr + bit) m i = rcsB W ∨ (¬ turnN (rcsB W) (8 * fr + bit) m i = rcsB W ∧ ∃ t, Recs (turnN (rcsB W) (8 * fr + bit) m i) (W.take K) t) := by
      intro i h1 h2
      have e : turnN (rcsB W) (8 * fr + bit) m i = (pre ++ vput S.length) ++ turnN S bit m i ++ post := by
        rw [hB, hfr, show pre.length + (vput S.length).length = (pre ++ vput S.length).length from List.length_append.symm]
        exact turnN_mid (pre ++ vput S.length) S post bit m i h2
      by_cases hs : okSeal (turnN S bit m i)
      · refine .inl ?_
        rw [e, turnN_found hSok h2 h1 hs, hB]
      · refine .inr ⟨fun he => hs ?_, vput S.length ++ (turnN S bit m i ++ post), hTm, ?_, first_turned (by omega) (turnN_len ..) hs⟩
        · rw [e, hB] at he
          have h3 := List.append_inj_left' he rfl
          have h4 := List.append_cancel_left h3
          rw [h4]
          exact hSok
        · rw [e, hpre]
          simp only [List.append_assoc]
    have hpreL : (rcsB (W.take K)).length = pre.length := by rw [hpre]
    generalize rcsB W = B at *
    clear hB hpost hpre hxB hS hx hbx hxm
    rcases (show K + 1 < W.length ∨ K + 1 = W.length by omega) with hc | hc
    all_goals
      have hA1 := hA1
      have hA2 := hA2
      first | have hA1 := hA1 hc | have hA2 := hA2 hc
      refine aspec_of lay_ok 174224571883961359297485862956082621538263 Try.func14 rfl rfl rfl ?_
      repeat' ((conv => whnf); first | refine Spl.yes (by first | assumption | omega) ?_ | refine Spl.no (by first | assumption | omega) ?_ | refine Wr.i64 (by omega) (by omega) ?_ | refine Still.mk rfl rfl ?_ | refine InB.mk (inB_mk (by omega) (by omega)) ?_ | refine Req.mk (by omega) ?_ | refine Req.mk ⟨by first | omega | (dsimp only; omega), by first | omega | (dsimp only; omega)⟩ ?_ | refine ACall.plain _ _ (shown18_spec) .nil rfl ?_ | refine ACall.plain _ _ (hA) (SubL.cons (.eq _) .nil) rfl ?_ | refine ACall.plain _ _ (hvs hFv (by rw [List.length_append]; omega)) (SubL.cons (.eq _) .nil) rfl ?_ | refine Rm.is (c := (K : Int)) (by omega) (by omega) hK ?_ | refine ARet.hdI ?_ | refine Spl.mk (fun _ => ?_) (fun _ => ?_) | refine Wr.b64 ?_ | refine Wr.bu64 ?_ | refine Wr.bu32 ?_ | refine Wr.bu8 ?_ | refine Wr.u8 (by omega) (by omega) ?_ | refine Wr.u64 (by omega) (by omega) ?_ | refine Wr.u32 (by omega) (by omega) ?_ | refine Dv.pos (by omega) (by omega) ?_ | refine Rm.pos (by omega) (by omega) ?_ | refine ADraw.quiet follows_ok (by kernel_rfl) rfl ?_ | refine ADraw.sched (id := 20) lay_ok (awp_snd lay_ok _) [(0, none), (1, none), (2, none), (3, none), (4, none), (5, none), (6, none), (7, none), (8, none), (9, none), (10, none), (11, none), (12, none), (13, none), (14, none), (15, none), (16, none), (17, none), (18, none), (19, none), (20, none), (21, none), (22, none), (23, some [21, 20, 19, 18, 15, 13, 12, 11, 6, 5, 4])] [(5, [4]), (6, [5, 4]), (12, [11]), (13, [12, 11]), (14, [13, 12, 11]), (15, [13, 12, 11]), (19, [18]), (20, [19, 18]), (21, [20, 19, 18, 15, 13, 12, 11]), (22, [21, 20, 19, 18, 15, 13, 12, 11, 6, 5, 4]), (23, [21, 20, 19, 18, 15, 13, 12, 11, 6, 5, 4])] follows_ok (by kernel_rfl) ?_ | refine BSpl.decY (by first | assumption | omega) ?_ | refine BSpl.decN (by first | assumption | omega) ?_ | refine BSpl.dec (fun _ => ?_) (fun _ => ?_) | refine BSpl.yes (by assumption) ?_ | refine BSpl.no (by assumption) ?_ | refine BSpl.mk (fun _ => ?_) (fun _ => ?_))
      conv => whnf
      refine ALoop.mk { i : Nat // i ≤ 32 ∧ bit + i ≤ 8 * S.length } (fun i => ⟨[(2, .v (.int .u32 (m : Int))), (8, .sl 9 W.length false (rcF W)), (9, .sl 1 B.length true (bytesF B)), (10, .sl 1 AT.length true (intF AT)), (11, .v (.int .i64 (K : Int))), (16, .v (.int .i64 (fr : Int))), (17, .v (.int .i64 (8 * (S.length : Int)))), (18, .v (.int .i64 (bit : Int))), (19, .own 90), (20, .v (.int .i64 (i.1 : Int)))],
        [(90, .row 5 1 B.length true (bytesF (turnN B (8 * fr + bit) m i.1)))], [], 91⟩) (fun i => 32 - i.1) ⟨0, by omega, by omega⟩ _
        (LeR.mk' [(2, 90)] _ _ _ rfl ⟨AEq.refl _, AEq.refl _, AEq.refl _, AEq.refl _, AEq.refl _, AEq.int (by omega), AEq.int (by omega), AEq.int (hbit2 _ (by omega)), AEq.refl _, AEq.int rfl, trivial⟩ ⟨⟨_, rfl, OEq.row (by simp) (fun i hi => IsB.app (IsB.nil _) (IsB.bytes B) rfl i (by simpa using hi))⟩, trivial⟩ rfl) ?_
      rintro ⟨i, hi, hki⟩
      dsimp only
      have hTi := hT i hi hki
      have hlen := turnN_len B (8 * fr + bit) m i
      have hnext : m.testBit i = true → turnN B (8 * fr + bit) m (i + 1) = turn1 (turnN B (8 * fr + bit) m i) (8 * fr + bit + i) := fun h => by show (if _ then _ else _) = _; rw [if_pos h]
      have hsame' : ¬ m.testBit i = true → turnN B (8 * fr + bit) m (i + 1) = turnN B (8 * fr + bit) m i := fun h => by show (if _ then _ else _) = _; rw [if_neg h]
      have hrow : ∀ j : Nat, j = (8 * fr + bit + i) / 8 → (8 * fr + bit + i) / 8 < (turnN B (8 * fr + bit) m i).length → ∀ mm, (bif Nat.beq mm j then [AV.v (.int .u8 (IntKind.u8.wrap ((BitVec.ofInt IntKind.u8.bits (((turnN B (8 * fr + bit) m i).getD j default).toNat : Int) ^^^ BitVec.ofInt IntKind.u8.bits ((2 ^ ((8 * fr + bit + i) % 8) : Nat) : Int)).toNat : Int)))] else bytesF (turnN B (8 * fr + bit) m i) mm) = bytesF (turn1 (turnN B (8 * fr + bit) m i) (8 * fr + bit + i)) mm := by
        intro j hj hq
        subst hj
        exact row_turn (turnN B (8 * fr + bit) m i) (8 * fr + bit + i) rfl hq (xor8 _ (by omega))
      generalize turnN B (8 * fr + bit) m i = T at hTi hlen hrow hnext hsame'
      have hble : bit + i < 8 * S.length → Nat.ble ((fr : Int) + ((bit : Int) + (i : Int)) / 8).toNat.succ B.length = true := fun h => Nat.ble_eq_true_of_le (by omega)
      rcases hTi with he | ⟨he, t, ht⟩
      · have hall' : ∀ {n : Nat} {F : Nat → List AV} (_ : IsB F T) (_ : n = T.length), ASpec Try.prog 37 [.sl 1 n true F] (.tup [.sl 9 W.length false (rcF W), .v (.int .i64 (B.length : Int))]) [] := fun {n} {F} hF hn => hall.args (.isB (by rw [← he]; exact hF) (by rw [← he]; exact hn) .nil)
        repeat' ((conv => whnf); first | refine Spl.yes (by first | assumption | omega) ?_ | refine Spl.no (by first | assumption | omega) ?_ | refine Wr.i64 (by omega) (by omega) ?_ | refine Still.mk rfl rfl ?_ | refine InB.mk (inB_mk (by omega) (by omega)) ?_ | refine Req.mk (by omega) ?_ | refine Req.mk ⟨by first | omega | (dsimp only; omega), by first | omega | (dsimp only; omega)⟩ ?_ | refine ACall.plain _ _ (hall' (IsB.bytes _) (by omega)) (SubL.cons (.eq _) .nil) rfl ?_ | refine Spl.bit (by omega) (by omega) (fun _ => ?_) (fun _ => ?_) | refine Wr.shl (q := (8 * fr + bit + i) % 8) (by omega) (by omega) ?_ | refine BSpl.yes (hble (by omega)) ?_ | refine Bs.of T (IsB.bytes _) (by omega) ?_ | refine Bs.of B (IsB.bytes _) rfl ?_ | refine Spl.yes (by rw [he]) ?_ | refine ARet.hdI ?_ | refine Spl.mk (fun _ => ?_) (fun _ => ?_) | refine Wr.b64 ?_ | refine Wr.bu64 ?_ | refine Wr.bu32 ?_ | refine Wr.bu8 ?_ | refine Wr.u8 (by omega) (by omega) ?_ | refine Wr.u64 (by omega) (by omega) ?_ | refine Wr.u32 (by omega) (by omega) ?_ | refine Dv.pos (by omega) (by omega) ?_ | refine Rm.pos (by omega) (by omega) ?_ | refine ADraw.quiet follows_ok (by kernel_rfl) rfl ?_ | refine ADraw.sched (id := 20) lay_ok (awp_snd lay_ok _) [(0, none), (1, none), (2, none), (3, none), (4, none), (5, none), (6, none), (7, none), (8, none), (9, none), (10, none), (11, none), (12, none), (13, none), (14, none), (15, none), (16, none), (17, none), (18, none), (19, none), (20, none), (21, none), (22, none), (23, some [21, 20, 19, 18, 15, 13, 12, 11, 6, 5, 4])] [(5, [4]), (6, [5, 4]), (12, [11]), (13, [12, 11]), (14, [13, 12, 11]), (15, [13, 12, 11]), (19, [18]), (20, [19, 18]), (21, [20, 19, 18, 15, 13, 12, 11]), (22, [21, 20, 19, 18, 15, 13, 12, 11, 6, 5, 4]), (23, [21, 20, 19, 18, 15, 13, 12, 11, 6, 5, 4])] follows_ok (by kernel_rfl) ?_ | refine BSpl.decY (by first | assumption | omega) ?_ | refine BSpl.decN (by first | assumption | omega) ?_ | refine BSpl.dec (fun _ => ?_) (fun _ => ?_) | refine BSpl.yes (by assumption) ?_ | refine BSpl.no (by assumption) ?_ | refine BSpl.mk (fun _ => ?_) (fun _ => ?_))
        all_goals (conv => whnf)
        · refine ⟨⟨i + 1, by omega, by omega⟩, _, LeR.mk' [] _ _ _ rfl ⟨AEq.refl _, AEq.refl _, AEq.refl _, AEq.refl _, AEq.refl _, AEq.refl _, AEq.refl _, AEq.refl _, AEq.refl _, AEq.int rfl, trivial⟩ ⟨⟨_, rfl, OEq.row rfl (fun mm _ => ?_)⟩, trivial⟩ rfl, by show 32 - (i + 1) < 32 - i; omega⟩
          show _ = bytesF (turnN B (8 * fr + bit) m (i + 1)) mm
          rw [hnext ‹_›]
          exact hrow _ (by omega) (by omega) mm
        · refine ⟨⟨i + 1, by omega, by omega⟩, _, LeR.mk' [] _ _ _ rfl ⟨AEq.refl _, AEq.refl _, AEq.refl _, AEq.refl _, AEq.refl _, AEq.refl _, AEq.refl _, AEq.refl _, AEq.refl _, AEq.int rfl, trivial⟩ ⟨⟨_, rfl, OEq.row rfl (fun mm _ => ?_)⟩, trivial⟩ rfl, by show 32 - (i + 1) < 32 - i; omega⟩
          show _ = bytesF (turnN B (8 * fr + bit) m (i + 1)) mm
          rw [hsame' ‹_›]
        all_goals first
          | exact AEqI.mk (AEq.refl _)
          | (exfalso; omega)
      · have hall' : ∀ {n : Nat} {F : Nat → List AV} (_ : IsB F T) (_ : n = T.length), _ := fun {n} {F} hF hn => all_spec (n := n) (F := F) T hF hn (by omega) ht
        repeat' ((conv => whnf); first | refine Spl.yes (by first | assumption | omega) ?_ | refine Spl.no (by first | assumption | omega) ?_ | refine Wr.i64 (by omega) (by omega) ?_ | refine Still.mk rfl rfl ?_ | refine InB.mk (inB_mk (by omega) (by omega)) ?_ | refine Req.mk (by omega) ?_ | refine Req.mk ⟨by first | omega | (dsimp only; omega), by first | omega | (dsimp only; omega)⟩ ?_ | refine ACall.plain _ _ (hall' (IsB.bytes _) (by omega)) (SubL.cons (.eq _) .nil) rfl ?_ | refine ACall.plain _ _ (hs2 ((IsR.els W).take K) (by omega)) (SubL.cons (.eq _) (SubL.cons (.eq _) .nil)) rfl ?_ | refine Spl.bit (by omega) (by omega) (fun _ => ?_) (fun _ => ?_) | refine Wr.shl (q := (8 * fr + bit + i) % 8) (by omega) (by omega) ?_ | refine BSpl.yes (hble (by omega)) ?_ | refine Bs.of T (IsB.bytes _) (by omega) ?_ | refine Bs.of B (IsB.bytes _) rfl ?_ | refine Spl.no (str_ne' he) ?_ | refine ARet.hdI ?_ | refine Spl.mk (fun _ => ?_) (fun _ => ?_) | refine Wr.b64 ?_ | refine Wr.bu64 ?_ | refine Wr.bu32 ?_ | refine Wr.bu8 ?_ | refine Wr.u8 (by omega) (by omega) ?_ | refine Wr.u64 (by omega) (by omega) ?_ | refine Wr.u32 (by omega) (by omega) ?_ | refine Dv.pos (by omega) (by omega) ?_ | refine Rm.pos (by omega) (by omega) ?_ | refine ADraw.quiet follows_ok (by kernel_rfl) rfl ?_ | refine ADraw.sched (id := 20) lay_ok (awp_snd lay_ok _) [(0, none), (1, none), (2, none), (3, none), (4, none), (5, none), (6, none), (7, none), (8, none), (9, none), (10, none), (11, none), (12, none), (13, none), (14, none), (15, none), (16, none), (17, none), (18, none), (19, none), (20, none), (21, none), (22, none), (23, some [21, 20, 19, 18, 15, 13, 12, 11, 6, 5, 4])] [(5, [4]), (6, [5, 4]), (12, [11]), (13, [12, 11]), (14, [13, 12, 11]), (15, [13, 12, 11]), (19, [18]), (20, [19, 18]), (21, [20, 19, 18, 15, 13, 12, 11]), (22, [21, 20, 19, 18, 15, 13, 12, 11, 6, 5, 4]), (23, [21, 20, 19, 18, 15, 13, 12, 11, 6, 5, 4])] follows_ok (by kernel_rfl) ?_ | refine BSpl.decY (by first | assumption | omega) ?_ | refine BSpl.decN (by first | assumption | omega) ?_ | refine BSpl.dec (fun _ => ?_) (fun _ => ?_) | refine BSpl.yes (by assumption) ?_ | refine BSpl.no (by assumption) ?_ | refine BSpl.mk (fun _ => ?_) (fun _ => ?_))
        all_goals (conv => whnf)
        · refine ⟨⟨i + 1, by omega, by omega⟩, _, LeR.mk' [] _ _ _ rfl ⟨AEq.refl _, AEq.refl _, AEq.refl _, AEq.refl _, AEq.refl _, AEq.refl _, AEq.refl _, AEq.refl _, AEq.refl _, AEq.int rfl, trivial⟩ ⟨⟨_, rfl, OEq.row rfl (fun mm _ => ?_)⟩, trivial⟩ rfl, by show 32 - (i + 1) < 32 - i; omega⟩
          show _ = bytesF (turnN B (8 * fr + bit) m (i + 1)) mm
          rw [hnext ‹_›]
          exact hrow _ (by omega) (by omega) mm
        · refine ⟨⟨i + 1, by omega, by omega⟩, _, LeR.mk' [] _ _ _ rfl ⟨AEq.refl _, AEq.refl _, AEq.refl _, AEq.refl _, AEq.refl _, AEq.refl _, AEq.refl _, AEq.refl _, AEq.refl _, AEq.int rfl, trivial⟩ ⟨⟨_, rfl, OEq.row rfl (fun mm _ => ?_)⟩, trivial⟩ rfl, by show 32 - (i + 1) < 32 - i; omega⟩
          show _ = bytesF (turnN B (8 * fr + bit) m (i + 1)) mm
          rw [hsame' ‹_›]
        all_goals first
          | exact AEqI.mk (AEq.refl _)
          | (exfalso; omega)
end Go.Proofs.Ytbmojelnkldecaa
