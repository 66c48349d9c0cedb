/-
  What the reference of layer 1 takes: the same as varint.Take.
-/
import Derived.Test.YtbmojelnkldecaaRefA
import Derived.Test.YtbmojelnkldecaaTkLaw
namespace Go.Proofs.Ytbmojelnkldecaa
open Go.RowKit

/-! ### Plain: the number of some bytes' low seven bits -/
/-- The bytes ahead of the first one that is below 128. -/
def lead : List UInt8 → Nat
  | [] => 0
  | c :: t => if 128 ≤ c.toNat then lead t + 1 else 0
/-- The number, modulo 2^64, as the reference reckons it: from the last byte to the first. -/
def sumR (b : List UInt8) : Nat → Nat → Nat
  | 0, n => n
  | k + 1, n => sumR b k ((n * 128 + (b.getD k default).toNat % 128) % 18446744073709551616)
def rtake (b : List UInt8) : Nat × Nat × Int :=
  if lead (b.take 10) = (b.take 10).length then (if (b.take 10).length = 10 then (0, 0, 3) else (0, 0, 2))
  else if vput (sumR b (lead (b.take 10) + 1) 0) = b.take (lead (b.take 10) + 1) then (sumR b (lead (b.take 10) + 1) 0, lead (b.take 10) + 1, 0) else (0, 0, 3)

theorem lead_le : ∀ l : List UInt8, lead l ≤ l.length
  | [] => Nat.le_refl _
  | c :: t => by
    have := lead_le t
    unfold lead
    split <;> simp <;> omega
theorem lead_at : ∀ (l : List UInt8) (i : Nat), i < lead l → 128 ≤ (l.getD i default).toNat
  | [], i, h => absurd h (Nat.not_lt_zero i)
  | c :: t, i, h => by
    unfold lead at h
    split at h
    · rename_i hc
      cases i with
      | zero => exact hc
      | succ i => exact lead_at t i (by omega)
    · omega
theorem lead_end : ∀ (l : List UInt8), lead l < l.length → (l.getD (lead l) default).toNat < 128
  | [], h => absurd h (Nat.lt_irrefl 0)
  | c :: t, h => by
    unfold lead at h ⊢
    split
    · rename_i hc
      rw [if_pos hc] at h
      exact lead_end t (by simpa using h)
    · show c.toNat < 128
      omega
theorem lead_is {l : List UInt8} {k : Nat} (hk : k ≤ l.length) (h : ∀ i, i < k → 128 ≤ (l.getD i default).toNat) (he : k = l.length ∨ (l.getD k default).toNat < 128) : lead l = k := by
  have h1 := lead_le l
  rcases Nat.lt_trichotomy (lead l) k with h2 | h2 | h2
  · have := h _ h2
    have := lead_end l (by omega)
    omega
  · exact h2
  · have := lead_at l k h2
    omega

theorem getD_take' {l : List UInt8} {i j : Nat} (h : j < i) : (l.take i).getD j default = l.getD j default := by
  rw [List.getD, List.getD, List.getElem?_take_of_lt h]
theorem str_ne2 {a b : List UInt8} (h : a ≠ b) : ¬ (⟨a.toArray⟩ : ByteArray) = ⟨b.toArray⟩ := fun e => h (by
  have := congrArg (fun s => s.data.toList) e
  simpa using this)
theorem w64 (n : Int) : IntKind.u64.wrap n = n % 18446744073709551616 := by simp [IntKind.wrap, IntKind.bits, IntKind.signed]

set_option maxHeartbeats 4000000 in
set_option maxRecDepth 100000 in
theorem rtake_w (b : List UInt8) (hl : b.length ≤ 1000000000) : ASpec Try.prog 66 [.sl 1 b.length true (bytesF b)] (.tup [.v (.int .u64 ((rtake b).1 : Int)), .v (.int .i64 ((rtake b).2.1 : Int)), .v (.int .i64 (rtake b).2.2)]) [] := by
  obtain ⟨M, hM⟩ : ∃ M, M = (b.take 10).length := ⟨_, rfl⟩
  have hM2 : M = if 10 < b.length then 10 else b.length := by rw [hM, List.length_take]; split <;> omega
  have hM3 : M ≤ 10 ∧ M ≤ b.length := by rw [hM2]; split <;> omega
  have hM4 : M = 10 ∨ M = b.length := by rw [hM2]; split <;> omega
  have hget : ∀ i, i < M → (b.take 10).getD i default = b.getD i default := fun i hi => getD_take' (by omega)
  refine aspec_of lay_ok 2251802298810877 Try.func66 rfl rfl rfl ?_
  repeat' ((conv => whnf); first | refine Spl.yes (by first | assumption | omega) ?_ | refine Spl.no (by first | assumption | omega) ?_ | refine Wr.i64 (by omega) (by omega) ?_ | refine Still.mk rfl rfl ?_ | refine InB.mk (inB_mk (by omega) (by omega)) ?_ | refine Req.mk (by omega) ?_ | refine Req.mk ⟨by first | omega | (dsimp only; omega), by first | omega | (dsimp only; omega)⟩ ?_ | refine ARet.hdI ?_ | refine Spl.mk (fun _ => ?_) (fun _ => ?_) | refine Wr.b64 ?_ | refine Wr.bu64 ?_ | refine Wr.bu32 ?_ | refine Wr.bu8 ?_ | refine Wr.u8 (by omega) (by omega) ?_ | refine Wr.u64 (by omega) (by omega) ?_ | refine Wr.u32 (by omega) (by omega) ?_ | refine Dv.pos (by omega) (by omega) ?_ | refine Rm.pos (by omega) (by omega) ?_ | refine ADraw.quiet follows_ok (by kernel_rfl) rfl ?_ | refine ADraw.sched (id := 14) lay_ok (awp_snd lay_ok _) [(0, none), (3, none), (4, none), (5, none), (6, none), (7, none), (1, some []), (2, none), (8, none)] [(1, [])] follows_ok (by kernel_rfl) ?_ | refine BSpl.decY (by first | assumption | omega) ?_ | refine BSpl.decN (by first | assumption | omega) ?_ | refine BSpl.dec (fun _ => ?_) (fun _ => ?_) | refine BSpl.yes (by assumption) ?_ | refine BSpl.no (by assumption) ?_ | refine BSpl.mk (fun _ => ?_) (fun _ => ?_))
  conv => whnf
  refine ALoop.mk { k : Nat // k ≤ M ∧ ∀ i, i < k → 128 ≤ (b.getD i default).toNat } (fun k => ⟨[(0, .sl 1 b.length true (bytesF b)), (5, .v (.int .i64 (M : Int))), (6, .v (.int .i64 (k.1 : Int)))], [], [], 0⟩) (fun k => M - k.1) ⟨0, Nat.zero_le _, fun i h => absurd h (Nat.not_lt_zero i)⟩ _
    (LeR.mk' [] _ _ _ rfl ⟨AEq.refl _, AEq.int (by rw [hM2]; split <;> split <;> omega), AEq.int rfl, trivial⟩ trivial rfl) ?_
  rintro ⟨k, hk, hall⟩
  dsimp only
  by_cases hgo : k < M ∧ 128 ≤ (b.getD k default).toNat
  · have h128 : 128 ≤ (b.getD (k : Int).toNat default).toNat := hgo.2
    repeat' ((conv => whnf); first | refine Spl.yes (by first | assumption | omega) ?_ | refine Spl.no (by first | assumption | omega) ?_ | refine Wr.i64 (by omega) (by omega) ?_ | refine Still.mk rfl rfl ?_ | refine InB.mk (inB_mk (by omega) (by omega)) ?_ | refine Req.mk (by omega) ?_ | refine Req.mk ⟨by first | omega | (dsimp only; omega), by first | omega | (dsimp only; omega)⟩ ?_ | refine ARet.hdI ?_ | refine Spl.mk (fun _ => ?_) (fun _ => ?_) | refine Wr.b64 ?_ | refine Wr.bu64 ?_ | refine Wr.bu32 ?_ | refine Wr.bu8 ?_ | refine Wr.u8 (by omega) (by omega) ?_ | refine Wr.u64 (by omega) (by omega) ?_ | refine Wr.u32 (by omega) (by omega) ?_ | refine Dv.pos (by omega) (by omega) ?_ | refine Rm.pos (by omega) (by omega) ?_ | refine ADraw.quiet follows_ok (by kernel_rfl) rfl ?_ | refine ADraw.sched (id := 14) lay_ok (awp_snd lay_ok _) [(0, none), (3, none), (4, none), (5, none), (6, none), (7, none), (1, some []), (2, none), (8, none)] [(1, [])] follows_ok (by kernel_rfl) ?_ | refine BSpl.decY (by first | assumption | omega) ?_ | refine BSpl.decN (by first | assumption | omega) ?_ | refine BSpl.dec (fun _ => ?_) (fun _ => ?_) | refine BSpl.yes (by assumption) ?_ | refine BSpl.no (by assumption) ?_ | refine BSpl.mk (fun _ => ?_) (fun _ => ?_))
    all_goals (conv => whnf)
    all_goals first
      | (refine ⟨⟨k + 1, by omega, fun i hi => ?_⟩, _, LeR.mk' [] _ _ _ rfl ⟨AEq.refl _, AEq.refl _, AEq.int rfl, trivial⟩ trivial rfl, by show M - (k + 1) < M - k; omega⟩
         rcases Nat.lt_or_ge i k with h | h
         · exact hall i h
         · rw [show i = k by omega]
           exact hgo.2)
      | (exfalso; omega)
  · have hlead : lead (b.take 10) = k := lead_is (by omega) (fun i hi => by rw [hget i (by omega)]; exact hall i hi) (by
      rcases Nat.lt_or_ge k M with h | h
      · exact .inr (by rw [hget k h]; omega)
      · exact .inl (by omega))
    by_cases hkM : k = M
    · have hr : rtake b = if M = 10 then (0, 0, 3) else (0, 0, 2) := by
        unfold rtake
        rw [hlead, ← hM, if_pos hkM]
      rw [hr]
      by_cases h10 : M = 10
      · rw [if_pos h10]
        repeat' ((conv => whnf); first | refine Spl.yes (by first | assumption | omega) ?_ | refine Spl.no (by first | assumption | omega) ?_ | refine Wr.i64 (by omega) (by omega) ?_ | refine Still.mk rfl rfl ?_ | refine InB.mk (inB_mk (by omega) (by omega)) ?_ | refine Req.mk (by omega) ?_ | refine Req.mk ⟨by first | omega | (dsimp only; omega), by first | omega | (dsimp only; omega)⟩ ?_ | refine ARet.hdI ?_ | refine Spl.mk (fun _ => ?_) (fun _ => ?_) | refine Wr.b64 ?_ | refine Wr.bu64 ?_ | refine Wr.bu32 ?_ | refine Wr.bu8 ?_ | refine Wr.u8 (by omega) (by omega) ?_ | refine Wr.u64 (by omega) (by omega) ?_ | refine Wr.u32 (by omega) (by omega) ?_ | refine Dv.pos (by omega) (by omega) ?_ | refine Rm.pos (by omega) (by omega) ?_ | refine ADraw.quiet follows_ok (by kernel_rfl) rfl ?_ | refine ADraw.sched (id := 14) lay_ok (awp_snd lay_ok _) [(0, none), (3, none), (4, none), (5, none), (6, none), (7, none), (1, some []), (2, none), (8, none)] [(1, [])] follows_ok (by kernel_rfl) ?_ | refine BSpl.decY (by first | assumption | omega) ?_ | refine BSpl.decN (by first | assumption | omega) ?_ | refine BSpl.dec (fun _ => ?_) (fun _ => ?_) | refine BSpl.yes (by assumption) ?_ | refine BSpl.no (by assumption) ?_ | refine BSpl.mk (fun _ => ?_) (fun _ => ?_))
        all_goals (conv => whnf)
        all_goals first
          | exact AEqI.mk (AEq.refl _)
          | (exfalso; omega)
      · rw [if_neg h10]
        repeat' ((conv => whnf); first | refine Spl.yes (by first | assumption | omega) ?_ | refine Spl.no (by first | assumption | omega) ?_ | refine Wr.i64 (by omega) (by omega) ?_ | refine Still.mk rfl rfl ?_ | refine InB.mk (inB_mk (by omega) (by omega)) ?_ | refine Req.mk (by omega) ?_ | refine Req.mk ⟨by first | omega | (dsimp only; omega), by first | omega | (dsimp only; omega)⟩ ?_ | refine ARet.hdI ?_ | refine Spl.mk (fun _ => ?_) (fun _ => ?_) | refine Wr.b64 ?_ | refine Wr.bu64 ?_ | refine Wr.bu32 ?_ | refine Wr.bu8 ?_ | refine Wr.u8 (by omega) (by omega) ?_ | refine Wr.u64 (by omega) (by omega) ?_ | refine Wr.u32 (by omega) (by omega) ?_ | refine Dv.pos (by omega) (by omega) ?_ | refine Rm.pos (by omega) (by omega) ?_ | refine ADraw.quiet follows_ok (by kernel_rfl) rfl ?_ | refine ADraw.sched (id := 14) lay_ok (awp_snd lay_ok _) [(0, none), (3, none), (4, none), (5, none), (6, none), (7, none), (1, some []), (2, none), (8, none)] [(1, [])] follows_ok (by kernel_rfl) ?_ | refine BSpl.decY (by first | assumption | omega) ?_ | refine BSpl.decN (by first | assumption | omega) ?_ | refine BSpl.dec (fun _ => ?_) (fun _ => ?_) | refine BSpl.yes (by assumption) ?_ | refine BSpl.no (by assumption) ?_ | refine BSpl.mk (fun _ => ?_) (fun _ => ?_))
        all_goals (conv => whnf)
        all_goals first
          | exact AEqI.mk (AEq.refl _)
          | (exfalso; omega)
    · have hlt : k < M := by omega
      have hk128 : (b.getD k default).toNat < 128 := by omega
      have hk128' : (b.getD (k : Int).toNat default).toNat < 128 := hk128
      have hr : rtake b = if vput (sumR b (k + 1) 0) = b.take (k + 1) then (sumR b (k + 1) 0, k + 1, 0) else (0, 0, 3) := by
        unfold rtake
        rw [hlead, ← hM, if_neg hkM]
      rw [hr]
      clear hr hall
      repeat' ((conv => whnf); first | refine Spl.yes (by first | assumption | omega) ?_ | refine Spl.no (by first | assumption | omega) ?_ | refine Wr.i64 (by omega) (by omega) ?_ | refine Still.mk rfl rfl ?_ | refine InB.mk (inB_mk (by omega) (by omega)) ?_ | refine Req.mk (by omega) ?_ | refine Req.mk ⟨by first | omega | (dsimp only; omega), by first | omega | (dsimp only; omega)⟩ ?_ | refine ARet.hdI ?_ | refine Spl.mk (fun _ => ?_) (fun _ => ?_) | refine Wr.b64 ?_ | refine Wr.bu64 ?_ | refine Wr.bu32 ?_ | refine Wr.bu8 ?_ | refine Wr.u8 (by omega) (by omega) ?_ | refine Wr.u64 (by omega) (by omega) ?_ | refine Wr.u32 (by omega) (by omega) ?_ | refine Dv.pos (by omega) (by omega) ?_ | refine Rm.pos (by omega) (by omega) ?_ | refine ADraw.quiet follows_ok (by kernel_rfl) rfl ?_ | refine ADraw.sched (id := 14) lay_ok (awp_snd lay_ok _) [(0, none), (3, none), (4, none), (5, none), (6, none), (7, none), (1, some []), (2, none), (8, none)] [(1, [])] follows_ok (by kernel_rfl) ?_ | refine BSpl.decY (by first | assumption | omega) ?_ | refine BSpl.decN (by first | assumption | omega) ?_ | refine BSpl.dec (fun _ => ?_) (fun _ => ?_) | refine BSpl.yes (by assumption) ?_ | refine BSpl.no (by assumption) ?_ | refine BSpl.mk (fun _ => ?_) (fun _ => ?_))
      all_goals (conv => whnf)
      all_goals first
        | refine ALoop.mk { p : Nat × Nat // p.1 ≤ k + 1 ∧ p.2 < 18446744073709551616 ∧ sumR b p.1 p.2 = sumR b (k + 1) 0 } (fun p => ⟨[(0, .sl 1 b.length true (bytesF b)), (6, .v (.int .i64 (k : Int))), (7, .v (.int .u64 (p.1.2 : Int))), (8, .v (.int .i64 ((p.1.1 : Int) - 1)))], [], [], 0⟩) (fun p => p.1.1) ⟨(k + 1, 0), by dsimp only; omega, by dsimp only; omega, rfl⟩ _
            (LeR.mk' [] _ _ _ rfl ⟨AEq.refl _, AEq.refl _, AEq.int rfl, AEq.int (by dsimp only; omega), trivial⟩ trivial rfl) ?_
        | (exfalso; omega)
      rintro ⟨⟨j, n⟩, hj, hn, hs⟩
      dsimp only at hj hn hs ⊢
      rcases j with _ | j
      · have hn0 : n = sumR b (k + 1) 0 := hs
        have hput := fun d => rvput_spec d n (by omega)
        rw [← hn0]
        by_cases hv : vput n = b.take (k + 1)
        · rw [if_pos hv]
          repeat' ((conv => whnf); first | refine Spl.yes (by first | assumption | omega) ?_ | refine Spl.no (by first | assumption | omega) ?_ | refine Wr.i64 (by omega) (by omega) ?_ | refine Still.mk rfl rfl ?_ | refine InB.mk (inB_mk (by omega) (by omega)) ?_ | refine Req.mk (by omega) ?_ | refine Req.mk ⟨by first | omega | (dsimp only; omega), by first | omega | (dsimp only; omega)⟩ ?_ | refine ACall.fresh _ _ _ _ _ _ _ (hput _) (SubL.cons (.eq _) .nil) rfl ?_ | refine Bs.of (vput n) (IsB.bytes _) rfl ?_ | refine Bs.of (b.take (k + 1)) ((IsB.bytes b).take _) (by rw [List.length_take]; omega) ?_ | refine Spl.yes (by rw [hv]) ?_ | refine ARet.hdI ?_ | refine Spl.mk (fun _ => ?_) (fun _ => ?_) | refine Wr.b64 ?_ | refine Wr.bu64 ?_ | refine Wr.bu32 ?_ | refine Wr.bu8 ?_ | refine Wr.u8 (by omega) (by omega) ?_ | refine Wr.u64 (by omega) (by omega) ?_ | refine Wr.u32 (by omega) (by omega) ?_ | refine Dv.pos (by omega) (by omega) ?_ | refine Rm.pos (by omega) (by omega) ?_ | refine ADraw.quiet follows_ok (by kernel_rfl) rfl ?_ | refine ADraw.sched (id := 14) lay_ok (awp_snd lay_ok _) [(0, none), (3, none), (4, none), (5, none), (6, none), (7, none), (1, some []), (2, none), (8, none)] [(1, [])] follows_ok (by kernel_rfl) ?_ | refine BSpl.decY (by first | assumption | omega) ?_ | refine BSpl.decN (by first | assumption | omega) ?_ | refine BSpl.dec (fun _ => ?_) (fun _ => ?_) | refine BSpl.yes (by assumption) ?_ | refine BSpl.no (by assumption) ?_ | refine BSpl.mk (fun _ => ?_) (fun _ => ?_))
          all_goals (conv => whnf)
          all_goals first
            | exact AEqI.mk (AEq.refl _)
            | (exfalso; omega)
        · rw [if_neg hv]
          repeat' ((conv => whnf); first | refine Spl.yes (by first | assumption | omega) ?_ | refine Spl.no (by first | assumption | omega) ?_ | refine Wr.i64 (by omega) (by omega) ?_ | refine Still.mk rfl rfl ?_ | refine InB.mk (inB_mk (by omega) (by omega)) ?_ | refine Req.mk (by omega) ?_ | refine Req.mk ⟨by first | omega | (dsimp only; omega), by first | omega | (dsimp only; omega)⟩ ?_ | refine ACall.fresh _ _ _ _ _ _ _ (hput _) (SubL.cons (.eq _) .nil) rfl ?_ | refine Bs.of (vput n) (IsB.bytes _) rfl ?_ | refine Bs.of (b.take (k + 1)) ((IsB.bytes b).take _) (by rw [List.length_take]; omega) ?_ | refine Spl.no (str_ne2 hv) ?_ | refine ARet.hdI ?_ | refine Spl.mk (fun _ => ?_) (fun _ => ?_) | refine Wr.b64 ?_ | refine Wr.bu64 ?_ | refine Wr.bu32 ?_ | refine Wr.bu8 ?_ | refine Wr.u8 (by omega) (by omega) ?_ | refine Wr.u64 (by omega) (by omega) ?_ | refine Wr.u32 (by omega) (by omega) ?_ | refine Dv.pos (by omega) (by omega) ?_ | refine Rm.pos (by omega) (by omega) ?_ | refine ADraw.quiet follows_ok (by kernel_rfl) rfl ?_ | refine ADraw.sched (id := 14) lay_ok (awp_snd lay_ok _) [(0, none), (3, none), (4, none), (5, none), (6, none), (7, none), (1, some []), (2, none), (8, none)] [(1, [])] follows_ok (by kernel_rfl) ?_ | refine BSpl.decY (by first | assumption | omega) ?_ | refine BSpl.decN (by first | assumption | omega) ?_ | refine BSpl.dec (fun _ => ?_) (fun _ => ?_) | refine BSpl.yes (by assumption) ?_ | refine BSpl.no (by assumption) ?_ | refine BSpl.mk (fun _ => ?_) (fun _ => ?_))
          all_goals (conv => whnf)
          all_goals first
            | exact AEqI.mk (AEq.refl _)
            | (exfalso; omega)
      · have e1 : (((j + 1 : Nat) : Int) - 1).toNat = j := by omega
        repeat' ((conv => whnf); first | refine Spl.yes (by first | assumption | omega) ?_ | refine Spl.no (by first | assumption | omega) ?_ | refine Wr.i64 (by omega) (by omega) ?_ | refine Still.mk rfl rfl ?_ | refine InB.mk (inB_mk (by omega) (by omega)) ?_ | refine Req.mk (by omega) ?_ | refine Req.mk ⟨by first | omega | (dsimp only; omega), by first | omega | (dsimp only; omega)⟩ ?_ | refine InB.mk (inB_mk (by omega) (by omega)) ?_ | refine Wr.raw .u64 ?_ | refine ARet.hdI ?_ | refine Spl.mk (fun _ => ?_) (fun _ => ?_) | refine Wr.b64 ?_ | refine Wr.bu64 ?_ | refine Wr.bu32 ?_ | refine Wr.bu8 ?_ | refine Wr.u8 (by omega) (by omega) ?_ | refine Wr.u64 (by omega) (by omega) ?_ | refine Wr.u32 (by omega) (by omega) ?_ | refine Dv.pos (by omega) (by omega) ?_ | refine Rm.pos (by omega) (by omega) ?_ | refine ADraw.quiet follows_ok (by kernel_rfl) rfl ?_ | refine ADraw.sched (id := 14) lay_ok (awp_snd lay_ok _) [(0, none), (3, none), (4, none), (5, none), (6, none), (7, none), (1, some []), (2, none), (8, none)] [(1, [])] follows_ok (by kernel_rfl) ?_ | refine BSpl.decY (by first | assumption | omega) ?_ | refine BSpl.decN (by first | assumption | omega) ?_ | refine BSpl.dec (fun _ => ?_) (fun _ => ?_) | refine BSpl.yes (by assumption) ?_ | refine BSpl.no (by assumption) ?_ | refine BSpl.mk (fun _ => ?_) (fun _ => ?_))
        all_goals (conv => whnf)
        refine ⟨⟨(j, (n * 128 + (b.getD j default).toNat % 128) % 18446744073709551616), by dsimp only; omega, by dsimp only; omega, hs⟩, _, LeR.mk' [] _ _ _ rfl ⟨AEq.refl _, AEq.refl _, AEq.int ?_, AEq.int ?_, trivial⟩ trivial rfl, by show j < j + 1; omega⟩
        · simp only [w64]
          rw [e1]
          omega
        · dsimp only
          omega

theorem rtake_spec {n : Nat} {F : Nat → List AV} (b : List UInt8) (hF : IsB F b) (hn : n = b.length) (hl : b.length ≤ 1000000000) : ASpec Try.prog 66 [.sl 1 n true F] (.tup [.v (.int .u64 ((rtake b).1 : Int)), .v (.int .i64 ((rtake b).2.1 : Int)), .v (.int .i64 (rtake b).2.2)]) [] :=
  (rtake_w b hl).args (.of (fun X u hu => AEq.isB (sc := true) hF hn X u hu) .nil)

/-! ### Plain -/
theorem sumR_cons (c : UInt8) (b : List UInt8) : ∀ k n, sumR (c :: b) (k + 1) n = (sumR b k n * 128 + c.toNat % 128) % 18446744073709551616
  | 0, _ => rfl
  | k + 1, n => by
    show sumR (c :: b) (k + 1) _ = _
    rw [sumR_cons c b k]
    rfl
theorem sumR_put (t : List UInt8) : ∀ (f n : Nat), n < 128 ^ (f + 1) → n ≤ 4294967296 → sumR (vputF f n ++ t) (vputF f n).length 0 = n
  | 0, n, hn, _ => by
    have hn : n < 128 := by simpa using hn
    show sumR (UInt8.ofNat n :: t) (0 + 1) 0 = n
    rw [sumR_cons, u8_of (by omega)]
    show (0 * 128 + n % 128) % 18446744073709551616 = n
    omega
  | f + 1, n, hn, h32 => by
    by_cases h : n < 128
    · simp only [vputF, if_pos h]
      show sumR (UInt8.ofNat n :: t) (0 + 1) 0 = n
      rw [sumR_cons, u8_of (by omega)]
      show (0 * 128 + n % 128) % 18446744073709551616 = n
      omega
    · simp only [vputF, if_neg h, List.cons_append, List.length_cons]
      rw [sumR_cons, u8_of (by omega), sumR_put t f (n / 128) (by rw [Nat.pow_succ] at hn; exact Nat.div_lt_of_lt_mul (by omega)) (by omega)]
      omega
theorem lead_put (t : List UInt8) : ∀ (f n : Nat), n < 128 ^ (f + 1) → lead (vputF f n ++ t) + 1 = (vputF f n).length
  | 0, n, hn => by
    have hn : n < 128 := by simpa using hn
    show lead (UInt8.ofNat n :: t) + 1 = 1
    unfold lead
    rw [u8_of (by omega), if_neg (by omega)]
  | f + 1, n, hn => by
    by_cases h : n < 128
    · simp only [vputF, if_pos h]
      show lead (UInt8.ofNat n :: t) + 1 = 1
      unfold lead
      rw [u8_of (by omega), if_neg (by omega)]
    · simp only [vputF, if_neg h, List.cons_append, List.length_cons]
      unfold lead
      rw [u8_of (by omega), if_pos (by omega), lead_put t f (n / 128) (by rw [Nat.pow_succ] at hn; exact Nat.div_lt_of_lt_mul (by omega))]
theorem rtake_put (n : Nat) (t : List UInt8) (h : n ≤ 4294967296) : rtake (vput n ++ t) = (n, (vput n).length, 0) := by
  have hb : n < 128 ^ (9 + 1) := by
    have : 128 ^ (9 + 1) = 1180591620717411303424 := by decide
    omega
  have h10 : (vput n).length ≤ 10 := vputF_le 9 n
  have hp : 1 ≤ (vput n).length := vputF_pos 9 n
  have e : (vput n ++ t).take 10 = vput n ++ t.take (10 - (vput n).length) := by rw [List.take_append, List.take_of_length_le h10]
  have hl : lead ((vput n ++ t).take 10) + 1 = (vput n).length := by rw [e]; exact lead_put _ 9 n hb
  have hs : sumR (vput n ++ t) (vput n).length 0 = n := sumR_put t 9 n hb h
  have hle : (vput n).length ≤ ((vput n ++ t).take 10).length := by rw [e, List.length_append]; omega
  unfold rtake
  rw [hl, hs, if_neg (by omega), List.take_left, if_pos rfl]
theorem rtake_le (b : List UInt8) : (rtake b).2.1 ≤ b.length := by
  have h1 := lead_le (b.take 10)
  have h2 : (b.take 10).length ≤ b.length := by rw [List.length_take]; omega
  unfold rtake
  split
  · split <;> exact Nat.zero_le _
  · split
    · show lead (b.take 10) + 1 ≤ b.length
      omega
    · exact Nat.zero_le _
end Go.Proofs.Ytbmojelnkldecaa
