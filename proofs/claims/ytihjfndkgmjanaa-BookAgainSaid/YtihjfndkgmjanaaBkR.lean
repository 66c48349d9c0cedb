/-
  Whether two rows of contacts are the same: kithref09.Same.
-/
import Derived.Test.YtihjfndkgmjanaaBkG
namespace Go.Proofs.Ytihjfndkgmjanaa
open Go.RowKit

theorem bool2_eq (a0 a1 b0 b1 : Bool) : EqFact Try.prog 35 [.bool a0, .bool a1] [.bool b0, .bool b1] (a0 = b0 ∧ a1 = b1) := by
  refine ⟨by kernel_rfl, fun w => ⟨decide (a0 = b0 ∧ a1 = b1), by rw [decide_eq_true_eq], ?_⟩⟩
  show (Op.equalIn 10000 35 (.agg #[.bool a0, .bool a1]) (.agg #[.bool b0, .bool b1])).run Try.prog w = _
  rw [show (10000 : Nat) = 9999 + 1 from rfl, Op.equalIn]
  simp only [Sem.run_bind, run_underlying Try.underlying35, Result.andThen_ok]
  simp only [Std.Legacy.Range.forIn_eq_forIn_range', Std.Legacy.Range.size, Nat.sub_zero, Nat.add_sub_cancel, Nat.div_one, List.range'_succ, List.range'_zero, List.forIn_cons, List.forIn_nil]
  have u3 := Try.underlying4
  have a3' := Try.isAgg4
  have z3 := Try.sizeOf4
  go_simp
  repeat' split
  all_goals simp_all
theorem tl_iff {a b : ByteArray} : a.toList = b.toList ↔ a = b := ⟨toList_inj, fun h => by rw [h]⟩
theorem str2_eq (a0 a1 b0 b1 : ByteArray) : EqFact Try.prog 36 [.string a0, .string a1] [.string b0, .string b1] (a0 = b0 ∧ a1 = b1) := by
  refine ⟨by kernel_rfl, fun w => ⟨decide (a0 = b0 ∧ a1 = b1), by rw [decide_eq_true_eq], ?_⟩⟩
  show (Op.equalIn 10000 36 (.agg #[.string a0, .string a1]) (.agg #[.string b0, .string b1])).run Try.prog w = _
  rw [show (10000 : Nat) = 9999 + 1 from rfl, Op.equalIn]
  simp only [Sem.run_bind, run_underlying Try.underlying36, Result.andThen_ok]
  simp only [Std.Legacy.Range.forIn_eq_forIn_range', Std.Legacy.Range.size, Nat.sub_zero, Nat.add_sub_cancel, Nat.div_one, List.range'_succ, List.range'_zero, List.forIn_cons, List.forIn_nil]
  have u3 := Try.underlying9
  have a3' := Try.isAgg9
  have z3 := Try.sizeOf9
  go_simp
  repeat' split
  all_goals simp_all [tl_iff]

theorem cont_ext {a b : Cont} (h0 : a.key = b.key) (h1 : a.h0 = b.h0 ∧ a.h1 = b.h1) (h2 : a.f0 = b.f0 ∧ a.f1 = b.f1) (h3 : a.s0 = b.s0) (h4 : a.s1 = b.s1) : a = b := by
  obtain ⟨a1, a2, a3, a4, a5, a6, a7⟩ := a
  obtain ⟨b1, b2, b3, b4, b5, b6, b7⟩ := b
  simp only at h0 h1 h2 h3 h4
  rw [h0, h1.1, h1.2, h2.1, h2.2, h3, h4]
theorem str_cell {x y : List UInt8} (h : (⟨x.toArray⟩ : ByteArray) = ⟨y.toArray⟩) : x = y := by
  have := congrArg (fun b => b.data.toList) h
  simpa using this

theorem row_ext {α : Type} {x y : List α} {d : α} (hl : x.length = y.length) (h : ∀ i, i < x.length → x.getD i d = y.getD i d) : x = y := by
  apply List.ext_getElem hl
  intro i h1 h2
  have := h i h1
  rwa [List.getD, List.getD, List.getElem?_eq_getElem h1, List.getElem?_eq_getElem h2] at this

set_option maxHeartbeats 8000000 in
set_option maxRecDepth 100000 in
theorem same_spec (a b : List Cont) (sa sb : Bool) (R : Bool) (hR : R = true ↔ a = b) (ha : a.length ≤ 140737488355328) (hsa : ∀ c ∈ a, c.s0.length ≤ 140737488355328 ∧ c.s1.length ≤ 140737488355328) :
    ASpec Try.prog 14 [.sl 7 a.length sa (coF a), .sl 7 b.length sb (coF b)] (.v (.bool R)) [] := by
  have hno : a ≠ b → R = false := fun h => by cases R with | true => exact absurd (hR.1 rfl) h | false => rfl
  have hyes : a = b → R = true := hR.2
  refine aspec_of lay_ok 649037184763663952772478640656627 Try.func14 rfl rfl rfl ?_
  by_cases hlen : (a.length : Int) = (b.length : Int)
  · repeat' ((conv => whnf); first | refine Spl.yes (by first | assumption | omega) ?_ | refine Spl.no (by first | assumption | omega) ?_ | refine Wr.i64 (by omega) (by omega) ?_ | refine Still.mk rfl rfl ?_ | refine InB.mk (inB_mk (by omega) (by omega)) ?_ | refine Req.mk (by omega) ?_ | refine Req.mk ⟨by first | omega | (dsimp only; omega), by first | omega | (dsimp only; omega)⟩ ?_ | refine ARet.hdI ?_ | refine Spl.mk (fun _ => ?_) (fun _ => ?_) | refine InA.mk (inB_mk (by omega) (by omega)) ?_ | refine Wr.b64 ?_ | refine Wr.bu64 ?_ | refine Wr.bu32 ?_ | refine Wr.bu8 ?_ | refine Wr.u8 (by omega) (by omega) ?_ | refine Wr.u64 (by omega) (by omega) ?_ | refine Wr.u32 (by omega) (by omega) ?_ | refine Dv.pos (by omega) (by omega) ?_ | refine Rm.pos (by omega) (by omega) ?_ | refine ADraw.quiet follows_ok (by kernel_rfl) rfl ?_ | refine BSpl.decY (by first | assumption | omega) ?_ | refine BSpl.decN (by first | assumption | omega) ?_ | refine BSpl.dec (fun _ => ?_) (fun _ => ?_) | refine BSpl.yes (by assumption) ?_ | refine BSpl.no (by assumption) ?_ | refine BSpl.mk (fun _ => ?_) (fun _ => ?_))
    conv => whnf
    refine ALoop.mk { j : Nat // j ≤ a.length ∧ ∀ i, i < j → a.getD i default = b.getD i default } (fun j => ⟨[(0, .sl 7 a.length sa (coF a)), (1, .sl 7 b.length sb (coF b)), (5, .v (.int .i64 (j.1 : Int)))], [], [], 0⟩) (fun j => a.length - j.1) ⟨0, Nat.zero_le _, fun i h => absurd h (Nat.not_lt_zero i)⟩ _
      (LeR.mk' [] _ _ _ rfl ⟨AEq.refl _, AEq.refl _, AEq.int rfl, trivial⟩ trivial rfl) ?_
    rintro ⟨j, hj, hall⟩
    dsimp only
    by_cases hjl : j < a.length
    · have hd : a.getD (j : Int).toNat default ≠ b.getD (j : Int).toNat default → R = false := fun h => hno fun e => h (by rw [e])
      have hup : a.getD (j : Int).toNat default = b.getD (j : Int).toNat default → ∀ i, i < j + 1 → a.getD i default = b.getD i default := fun h i hi => by
        rcases Nat.lt_or_ge i j with h' | h'
        · exact hall i h'
        · obtain rfl : i = j := by omega
          exact h
      have hsl : (a.getD (j : Int).toNat default).s0.length ≤ 140737488355328 ∧ (a.getD (j : Int).toNat default).s1.length ≤ 140737488355328 := hsa _ (by
        rw [List.getD, List.getElem?_eq_getElem (show (j : Int).toNat < a.length from hjl)]
        exact List.getElem_mem _)
      clear hall
      repeat' ((conv => whnf); first | refine Spl.yes (by first | assumption | omega) ?_ | refine Spl.no (by first | assumption | omega) ?_ | refine Wr.i64 (by omega) (by omega) ?_ | refine Still.mk rfl rfl ?_ | refine InB.mk (inB_mk (by omega) (by omega)) ?_ | refine Req.mk (by omega) ?_ | refine Req.mk ⟨by first | omega | (dsimp only; omega), by first | omega | (dsimp only; omega)⟩ ?_ | refine EqA.mk [.bool _, .bool _] [.bool _, .bool _] _ rfl rfl (bool2_eq _ _ _ _) ?_ | refine EqA.mk [.string _, .string _] [.string _, .string _] _ rfl rfl (str2_eq _ _ _ _) ?_ | refine ARet.hdI ?_ | refine Spl.mk (fun _ => ?_) (fun _ => ?_) | refine InA.mk (inB_mk (by omega) (by omega)) ?_ | refine Wr.b64 ?_ | refine Wr.bu64 ?_ | refine Wr.bu32 ?_ | refine Wr.bu8 ?_ | refine Wr.u8 (by omega) (by omega) ?_ | refine Wr.u64 (by omega) (by omega) ?_ | refine Wr.u32 (by omega) (by omega) ?_ | refine Dv.pos (by omega) (by omega) ?_ | refine Rm.pos (by omega) (by omega) ?_ | refine ADraw.quiet follows_ok (by kernel_rfl) rfl ?_ | refine BSpl.decY (by first | assumption | omega) ?_ | refine BSpl.decN (by first | assumption | omega) ?_ | refine BSpl.dec (fun _ => ?_) (fun _ => ?_) | refine BSpl.yes (by assumption) ?_ | refine BSpl.no (by assumption) ?_ | refine BSpl.mk (fun _ => ?_) (fun _ => ?_))
      all_goals (conv => whnf)
      · have hh := (show (a.getD (j : Int).toNat default).key = (b.getD (j : Int).toNat default).key ∧ ((a.getD (j : Int).toNat default).h0 = (b.getD (j : Int).toNat default).h0 ∧ (a.getD (j : Int).toNat default).h1 = (b.getD (j : Int).toNat default).h1) ∧ (a.getD (j : Int).toNat default).f0 = (b.getD (j : Int).toNat default).f0 ∧ (a.getD (j : Int).toNat default).f1 = (b.getD (j : Int).toNat default).f1 from ⟨by assumption, by assumption, by assumption⟩)
        refine ALoop.mk { n : Nat // n ≤ 2 ∧ (1 ≤ n → (a.getD (j : Int).toNat default).s0 = (b.getD (j : Int).toNat default).s0) ∧ (2 ≤ n → (a.getD (j : Int).toNat default).s1 = (b.getD (j : Int).toNat default).s1) } (fun n => ⟨[(0, .sl 7 a.length sa (coF a)), (1, .sl 7 b.length sb (coF b)), (5, .v (.int .i64 (j : Int))), (6, .v (.int .i64 (n.1 : Int)))], [], [], 0⟩) (fun n => 2 - n.1) ⟨0, Nat.zero_le _, fun h => absurd h (by omega), fun h => absurd h (by omega)⟩ _
          (LeR.mk' [] _ _ _ rfl ⟨AEq.refl _, AEq.refl _, AEq.int rfl, AEq.int rfl, trivial⟩ trivial rfl) ?_
        rintro ⟨n, hn, h0n, h1n⟩
        dsimp only
        obtain rfl | rfl | rfl : n = 0 ∨ n = 1 ∨ n = 2 := by omega
        · repeat' ((conv => whnf); first | refine Spl.yes (by first | assumption | omega) ?_ | refine Spl.no (by first | assumption | omega) ?_ | refine Wr.i64 (by omega) (by omega) ?_ | refine Still.mk rfl rfl ?_ | refine InB.mk (inB_mk (by omega) (by omega)) ?_ | refine Req.mk (by omega) ?_ | refine Req.mk ⟨by first | omega | (dsimp only; omega), by first | omega | (dsimp only; omega)⟩ ?_ | refine ARet.hdI ?_ | refine Spl.mk (fun _ => ?_) (fun _ => ?_) | refine InA.mk (inB_mk (by omega) (by omega)) ?_ | refine Wr.b64 ?_ | refine Wr.bu64 ?_ | refine Wr.bu32 ?_ | refine Wr.bu8 ?_ | refine Wr.u8 (by omega) (by omega) ?_ | refine Wr.u64 (by omega) (by omega) ?_ | refine Wr.u32 (by omega) (by omega) ?_ | refine Dv.pos (by omega) (by omega) ?_ | refine Rm.pos (by omega) (by omega) ?_ | refine ADraw.quiet follows_ok (by kernel_rfl) rfl ?_ | refine BSpl.decY (by first | assumption | omega) ?_ | refine BSpl.decN (by first | assumption | omega) ?_ | refine BSpl.dec (fun _ => ?_) (fun _ => ?_) | refine BSpl.yes (by assumption) ?_ | refine BSpl.no (by assumption) ?_ | refine BSpl.mk (fun _ => ?_) (fun _ => ?_))
          all_goals (conv => whnf)
          · refine ALoop.mk { k : Nat // k ≤ (a.getD (j : Int).toNat default).s0.length ∧ ∀ i, i < k → (a.getD (j : Int).toNat default).s0.getD i [] = (b.getD (j : Int).toNat default).s0.getD i [] } (fun k => ⟨[(0, .sl 7 a.length sa (coF a)), (1, .sl 7 b.length sb (coF b)), (5, .v (.int .i64 (j : Int))), (6, .v (.int .i64 0)), (7, .v (.int .i64 (k.1 : Int)))], [], [], 0⟩) (fun k => (a.getD (j : Int).toNat default).s0.length - k.1) ⟨0, Nat.zero_le _, fun i h => absurd h (Nat.not_lt_zero i)⟩ _
              (LeR.mk' [] _ _ _ rfl ⟨AEq.refl _, AEq.refl _, AEq.int rfl, AEq.int rfl, AEq.int rfl, trivial⟩ trivial rfl) ?_
            rintro ⟨k, hk, hka⟩
            dsimp only
            by_cases hkl : k < (a.getD (j : Int).toNat default).s0.length
            · have hkd : ¬ (⟨((a.getD (j : Int).toNat default).s0.getD (k : Int).toNat []).toArray⟩ : ByteArray) = ⟨((b.getD (j : Int).toNat default).s0.getD (k : Int).toNat []).toArray⟩ → R = false := fun h => hd fun e => h (by rw [e])
              have hku : (⟨((a.getD (j : Int).toNat default).s0.getD (k : Int).toNat []).toArray⟩ : ByteArray) = ⟨((b.getD (j : Int).toNat default).s0.getD (k : Int).toNat []).toArray⟩ → ∀ i, i < k + 1 → (a.getD (j : Int).toNat default).s0.getD i [] = (b.getD (j : Int).toNat default).s0.getD i [] := fun h i hi => by
                rcases Nat.lt_or_ge i k with h' | h'
                · exact hka i h'
                · obtain rfl : i = k := by omega
                  exact str_cell h
              clear hka
              repeat' ((conv => whnf); first | refine Spl.yes (by first | assumption | omega) ?_ | refine Spl.no (by first | assumption | omega) ?_ | refine Wr.i64 (by omega) (by omega) ?_ | refine Still.mk rfl rfl ?_ | refine InB.mk (inB_mk (by omega) (by omega)) ?_ | refine Req.mk (by omega) ?_ | refine Req.mk ⟨by first | omega | (dsimp only; omega), by first | omega | (dsimp only; omega)⟩ ?_ | refine ARet.hdI ?_ | refine Spl.mk (fun _ => ?_) (fun _ => ?_) | refine InA.mk (inB_mk (by omega) (by omega)) ?_ | refine Wr.b64 ?_ | refine Wr.bu64 ?_ | refine Wr.bu32 ?_ | refine Wr.bu8 ?_ | refine Wr.u8 (by omega) (by omega) ?_ | refine Wr.u64 (by omega) (by omega) ?_ | refine Wr.u32 (by omega) (by omega) ?_ | refine Dv.pos (by omega) (by omega) ?_ | refine Rm.pos (by omega) (by omega) ?_ | refine ADraw.quiet follows_ok (by kernel_rfl) rfl ?_ | refine BSpl.decY (by first | assumption | omega) ?_ | refine BSpl.decN (by first | assumption | omega) ?_ | refine BSpl.dec (fun _ => ?_) (fun _ => ?_) | refine BSpl.yes (by assumption) ?_ | refine BSpl.no (by assumption) ?_ | refine BSpl.mk (fun _ => ?_) (fun _ => ?_))
              all_goals (conv => whnf)
              all_goals first
                | (rw [hkd (by assumption)]; exact AEqI.mk (AEq.refl _))
                | exact ⟨⟨k + 1, hkl, hku (by assumption)⟩, _, LeR.mk' [] _ _ _ rfl ⟨AEq.refl _, AEq.refl _, AEq.int rfl, AEq.int rfl, AEq.int rfl, trivial⟩ trivial rfl, Nat.sub_succ_lt_self _ _ hkl⟩
            · have hse : (a.getD (j : Int).toNat default).s0 = (b.getD (j : Int).toNat default).s0 := row_ext (by omega) fun i hi => hka i (by omega)
              clear hka
              repeat' ((conv => whnf); first | refine Spl.yes (by first | assumption | omega) ?_ | refine Spl.no (by first | assumption | omega) ?_ | refine Wr.i64 (by omega) (by omega) ?_ | refine Still.mk rfl rfl ?_ | refine InB.mk (inB_mk (by omega) (by omega)) ?_ | refine Req.mk (by omega) ?_ | refine Req.mk ⟨by first | omega | (dsimp only; omega), by first | omega | (dsimp only; omega)⟩ ?_ | refine ARet.hdI ?_ | refine Spl.mk (fun _ => ?_) (fun _ => ?_) | refine InA.mk (inB_mk (by omega) (by omega)) ?_ | refine Wr.b64 ?_ | refine Wr.bu64 ?_ | refine Wr.bu32 ?_ | refine Wr.bu8 ?_ | refine Wr.u8 (by omega) (by omega) ?_ | refine Wr.u64 (by omega) (by omega) ?_ | refine Wr.u32 (by omega) (by omega) ?_ | refine Dv.pos (by omega) (by omega) ?_ | refine Rm.pos (by omega) (by omega) ?_ | refine ADraw.quiet follows_ok (by kernel_rfl) rfl ?_ | refine BSpl.decY (by first | assumption | omega) ?_ | refine BSpl.decN (by first | assumption | omega) ?_ | refine BSpl.dec (fun _ => ?_) (fun _ => ?_) | refine BSpl.yes (by assumption) ?_ | refine BSpl.no (by assumption) ?_ | refine BSpl.mk (fun _ => ?_) (fun _ => ?_))
              conv => whnf
              exact ⟨⟨1, by omega, fun _ => hse, fun h => absurd h (by omega)⟩, _, LeR.mk' [] _ _ _ rfl ⟨AEq.refl _, AEq.refl _, AEq.int rfl, AEq.int rfl, trivial⟩ trivial rfl, by show 2 - 1 < 2 - 0; omega⟩
          · rw [hd fun e => absurd (congrArg (fun c : Cont => (c.s0.length : Int)) e) (by assumption)]
            exact AEqI.mk (AEq.refl _)
        · repeat' ((conv => whnf); first | refine Spl.yes (by first | assumption | omega) ?_ | refine Spl.no (by first | assumption | omega) ?_ | refine Wr.i64 (by omega) (by omega) ?_ | refine Still.mk rfl rfl ?_ | refine InB.mk (inB_mk (by omega) (by omega)) ?_ | refine Req.mk (by omega) ?_ | refine Req.mk ⟨by first | omega | (dsimp only; omega), by first | omega | (dsimp only; omega)⟩ ?_ | refine ARet.hdI ?_ | refine Spl.mk (fun _ => ?_) (fun _ => ?_) | refine InA.mk (inB_mk (by omega) (by omega)) ?_ | refine Wr.b64 ?_ | refine Wr.bu64 ?_ | refine Wr.bu32 ?_ | refine Wr.bu8 ?_ | refine Wr.u8 (by omega) (by omega) ?_ | refine Wr.u64 (by omega) (by omega) ?_ | refine Wr.u32 (by omega) (by omega) ?_ | refine Dv.pos (by omega) (by omega) ?_ | refine Rm.pos (by omega) (by omega) ?_ | refine ADraw.quiet follows_ok (by kernel_rfl) rfl ?_ | refine BSpl.decY (by first | assumption | omega) ?_ | refine BSpl.decN (by first | assumption | omega) ?_ | refine BSpl.dec (fun _ => ?_) (fun _ => ?_) | refine BSpl.yes (by assumption) ?_ | refine BSpl.no (by assumption) ?_ | refine BSpl.mk (fun _ => ?_) (fun _ => ?_))
          all_goals (conv => whnf)
          · refine ALoop.mk { k : Nat // k ≤ (a.getD (j : Int).toNat default).s1.length ∧ ∀ i, i < k → (a.getD (j : Int).toNat default).s1.getD i [] = (b.getD (j : Int).toNat default).s1.getD i [] } (fun k => ⟨[(0, .sl 7 a.length sa (coF a)), (1, .sl 7 b.length sb (coF b)), (5, .v (.int .i64 (j : Int))), (6, .v (.int .i64 1)), (7, .v (.int .i64 (k.1 : Int)))], [], [], 0⟩) (fun k => (a.getD (j : Int).toNat default).s1.length - k.1) ⟨0, Nat.zero_le _, fun i h => absurd h (Nat.not_lt_zero i)⟩ _
              (LeR.mk' [] _ _ _ rfl ⟨AEq.refl _, AEq.refl _, AEq.int rfl, AEq.int rfl, AEq.int rfl, trivial⟩ trivial rfl) ?_
            rintro ⟨k, hk, hka⟩
            dsimp only
            by_cases hkl : k < (a.getD (j : Int).toNat default).s1.length
            · have hkd : ¬ (⟨((a.getD (j : Int).toNat default).s1.getD (k : Int).toNat []).toArray⟩ : ByteArray) = ⟨((b.getD (j : Int).toNat default).s1.getD (k : Int).toNat []).toArray⟩ → R = false := fun h => hd fun e => h (by rw [e])
              have hku : (⟨((a.getD (j : Int).toNat default).s1.getD (k : Int).toNat []).toArray⟩ : ByteArray) = ⟨((b.getD (j : Int).toNat default).s1.getD (k : Int).toNat []).toArray⟩ → ∀ i, i < k + 1 → (a.getD (j : Int).toNat default).s1.getD i [] = (b.getD (j : Int).toNat default).s1.getD i [] := fun h i hi => by
                rcases Nat.lt_or_ge i k with h' | h'
                · exact hka i h'
                · obtain rfl : i = k := by omega
                  exact str_cell h
              clear hka
              repeat' ((conv => whnf); first | refine Spl.yes (by first | assumption | omega) ?_ | refine Spl.no (by first | assumption | omega) ?_ | refine Wr.i64 (by omega) (by omega) ?_ | refine Still.mk rfl rfl ?_ | refine InB.mk (inB_mk (by omega) (by omega)) ?_ | refine Req.mk (by omega) ?_ | refine Req.mk ⟨by first | omega | (dsimp only; omega), by first | omega | (dsimp only; omega)⟩ ?_ | refine ARet.hdI ?_ | refine Spl.mk (fun _ => ?_) (fun _ => ?_) | refine InA.mk (inB_mk (by omega) (by omega)) ?_ | refine Wr.b64 ?_ | refine Wr.bu64 ?_ | refine Wr.bu32 ?_ | refine Wr.bu8 ?_ | refine Wr.u8 (by omega) (by omega) ?_ | refine Wr.u64 (by omega) (by omega) ?_ | refine Wr.u32 (by omega) (by omega) ?_ | refine Dv.pos (by omega) (by omega) ?_ | refine Rm.pos (by omega) (by omega) ?_ | refine ADraw.quiet follows_ok (by kernel_rfl) rfl ?_ | refine BSpl.decY (by first | assumption | omega) ?_ | refine BSpl.decN (by first | assumption | omega) ?_ | refine BSpl.dec (fun _ => ?_) (fun _ => ?_) | refine BSpl.yes (by assumption) ?_ | refine BSpl.no (by assumption) ?_ | refine BSpl.mk (fun _ => ?_) (fun _ => ?_))
              all_goals (conv => whnf)
              all_goals first
                | (rw [hkd (by assumption)]; exact AEqI.mk (AEq.refl _))
                | exact ⟨⟨k + 1, hkl, hku (by assumption)⟩, _, LeR.mk' [] _ _ _ rfl ⟨AEq.refl _, AEq.refl _, AEq.int rfl, AEq.int rfl, AEq.int rfl, trivial⟩ trivial rfl, Nat.sub_succ_lt_self _ _ hkl⟩
            · have hse : (a.getD (j : Int).toNat default).s1 = (b.getD (j : Int).toNat default).s1 := row_ext (by omega) fun i hi => hka i (by omega)
              clear hka
              repeat' ((conv => whnf); first | refine Spl.yes (by first | assumption | omega) ?_ | refine Spl.no (by first | assumption | omega) ?_ | refine Wr.i64 (by omega) (by omega) ?_ | refine Still.mk rfl rfl ?_ | refine InB.mk (inB_mk (by omega) (by omega)) ?_ | refine Req.mk (by omega) ?_ | refine Req.mk ⟨by first | omega | (dsimp only; omega), by first | omega | (dsimp only; omega)⟩ ?_ | refine ARet.hdI ?_ | refine Spl.mk (fun _ => ?_) (fun _ => ?_) | refine InA.mk (inB_mk (by omega) (by omega)) ?_ | refine Wr.b64 ?_ | refine Wr.bu64 ?_ | refine Wr.bu32 ?_ | refine Wr.bu8 ?_ | refine Wr.u8 (by omega) (by omega) ?_ | refine Wr.u64 (by omega) (by omega) ?_ | refine Wr.u32 (by omega) (by omega) ?_ | refine Dv.pos (by omega) (by omega) ?_ | refine Rm.pos (by omega) (by omega) ?_ | refine ADraw.quiet follows_ok (by kernel_rfl) rfl ?_ | refine BSpl.decY (by first | assumption | omega) ?_ | refine BSpl.decN (by first | assumption | omega) ?_ | refine BSpl.dec (fun _ => ?_) (fun _ => ?_) | refine BSpl.yes (by assumption) ?_ | refine BSpl.no (by assumption) ?_ | refine BSpl.mk (fun _ => ?_) (fun _ => ?_))
              conv => whnf
              exact ⟨⟨2, by omega, fun _ => h0n (by omega), fun h => hse⟩, _, LeR.mk' [] _ _ _ rfl ⟨AEq.refl _, AEq.refl _, AEq.int rfl, AEq.int rfl, trivial⟩ trivial rfl, by show 2 - 2 < 2 - 1; omega⟩
          · rw [hd fun e => absurd (congrArg (fun c : Cont => (c.s1.length : Int)) e) (by assumption)]
            exact AEqI.mk (AEq.refl _)
        · have hae : (a.getD (j : Int).toNat default) = (b.getD (j : Int).toNat default) := cont_ext hh.1 hh.2.1 hh.2.2 (h0n (by omega)) (h1n (by omega))
          repeat' ((conv => whnf); first | refine Spl.yes (by first | assumption | omega) ?_ | refine Spl.no (by first | assumption | omega) ?_ | refine Wr.i64 (by omega) (by omega) ?_ | refine Still.mk rfl rfl ?_ | refine InB.mk (inB_mk (by omega) (by omega)) ?_ | refine Req.mk (by omega) ?_ | refine Req.mk ⟨by first | omega | (dsimp only; omega), by first | omega | (dsimp only; omega)⟩ ?_ | refine ARet.hdI ?_ | refine Spl.mk (fun _ => ?_) (fun _ => ?_) | refine InA.mk (inB_mk (by omega) (by omega)) ?_ | refine Wr.b64 ?_ | refine Wr.bu64 ?_ | refine Wr.bu32 ?_ | refine Wr.bu8 ?_ | refine Wr.u8 (by omega) (by omega) ?_ | refine Wr.u64 (by omega) (by omega) ?_ | refine Wr.u32 (by omega) (by omega) ?_ | refine Dv.pos (by omega) (by omega) ?_ | refine Rm.pos (by omega) (by omega) ?_ | refine ADraw.quiet follows_ok (by kernel_rfl) rfl ?_ | refine BSpl.decY (by first | assumption | omega) ?_ | refine BSpl.decN (by first | assumption | omega) ?_ | refine BSpl.dec (fun _ => ?_) (fun _ => ?_) | refine BSpl.yes (by assumption) ?_ | refine BSpl.no (by assumption) ?_ | refine BSpl.mk (fun _ => ?_) (fun _ => ?_))
          conv => whnf
          exact ⟨⟨j + 1, hjl, hup hae⟩, _, LeR.mk' [] _ _ _ rfl ⟨AEq.refl _, AEq.refl _, AEq.int rfl, trivial⟩ trivial rfl, Nat.sub_succ_lt_self _ _ hjl⟩
      all_goals
        first
        | (rw [hd fun e => absurd (congrArg Cont.key e) (by assumption)]; exact AEqI.mk (AEq.refl _))
        | (rw [hd fun e => absurd (And.intro (congrArg Cont.h0 e) (congrArg Cont.h1 e)) (by assumption)]; exact AEqI.mk (AEq.refl _))
        | (rw [hd fun e => absurd (And.intro (congrArg Cont.f0 e) (congrArg Cont.f1 e)) (by assumption)]; exact AEqI.mk (AEq.refl _))
    · rw [hyes (row_ext (by omega) fun i hi => hall i (by omega))]
      repeat' ((conv => whnf); first | refine Spl.yes (by first | assumption | omega) ?_ | refine Spl.no (by first | assumption | omega) ?_ | refine Wr.i64 (by omega) (by omega) ?_ | refine Still.mk rfl rfl ?_ | refine InB.mk (inB_mk (by omega) (by omega)) ?_ | refine Req.mk (by omega) ?_ | refine Req.mk ⟨by first | omega | (dsimp only; omega), by first | omega | (dsimp only; omega)⟩ ?_ | refine ARet.hdI ?_ | refine Spl.mk (fun _ => ?_) (fun _ => ?_) | refine InA.mk (inB_mk (by omega) (by omega)) ?_ | refine Wr.b64 ?_ | refine Wr.bu64 ?_ | refine Wr.bu32 ?_ | refine Wr.bu8 ?_ | refine Wr.u8 (by omega) (by omega) ?_ | refine Wr.u64 (by omega) (by omega) ?_ | refine Wr.u32 (by omega) (by omega) ?_ | refine Dv.pos (by omega) (by omega) ?_ | refine Rm.pos (by omega) (by omega) ?_ | refine ADraw.quiet follows_ok (by kernel_rfl) rfl ?_ | refine BSpl.decY (by first | assumption | omega) ?_ | refine BSpl.decN (by first | assumption | omega) ?_ | refine BSpl.dec (fun _ => ?_) (fun _ => ?_) | refine BSpl.yes (by assumption) ?_ | refine BSpl.no (by assumption) ?_ | refine BSpl.mk (fun _ => ?_) (fun _ => ?_))
      conv => whnf
      exact AEqI.mk (AEq.refl _)
  · rw [hno fun e => hlen (by rw [e])]
    repeat' ((conv => whnf); first | refine Spl.yes (by first | assumption | omega) ?_ | refine Spl.no (by first | assumption | omega) ?_ | refine Wr.i64 (by omega) (by omega) ?_ | refine Still.mk rfl rfl ?_ | refine InB.mk (inB_mk (by omega) (by omega)) ?_ | refine Req.mk (by omega) ?_ | refine Req.mk ⟨by first | omega | (dsimp only; omega), by first | omega | (dsimp only; omega)⟩ ?_ | refine ARet.hdI ?_ | refine Spl.mk (fun _ => ?_) (fun _ => ?_) | refine InA.mk (inB_mk (by omega) (by omega)) ?_ | refine Wr.b64 ?_ | refine Wr.bu64 ?_ | refine Wr.bu32 ?_ | refine Wr.bu8 ?_ | refine Wr.u8 (by omega) (by omega) ?_ | refine Wr.u64 (by omega) (by omega) ?_ | refine Wr.u32 (by omega) (by omega) ?_ | refine Dv.pos (by omega) (by omega) ?_ | refine Rm.pos (by omega) (by omega) ?_ | refine ADraw.quiet follows_ok (by kernel_rfl) rfl ?_ | refine BSpl.decY (by first | assumption | omega) ?_ | refine BSpl.decN (by first | assumption | omega) ?_ | refine BSpl.dec (fun _ => ?_) (fun _ => ?_) | refine BSpl.yes (by assumption) ?_ | refine BSpl.no (by assumption) ?_ | refine BSpl.mk (fun _ => ?_) (fun _ => ?_))
    all_goals (conv => whnf)
    all_goals exact AEqI.mk (AEq.refl _)
end Go.Proofs.Ytihjfndkgmjanaa
