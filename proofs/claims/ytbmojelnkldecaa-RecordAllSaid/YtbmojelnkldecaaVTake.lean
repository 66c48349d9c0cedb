/-
  varint.Take: the number at the beginning of bytes, as a plain function (vtake).
-/
import Derived.Test.YtbmojelnkldecaaVar
import Derived.Laws.BitsAllLaws
namespace Go.Proofs.Ytbmojelnkldecaa
open Go.RowKit

def vtakeF : List UInt8 → Nat → Nat → Nat × Nat × Int
  | [], i, _ => if i = 10 then (0, 0, 3) else (0, 0, 2)
  | c :: r, i, acc =>
    if 128 ≤ c.toNat then vtakeF r (i + 1) (acc + (c.toNat - 128) * 128 ^ i)
    else if (0 < i ∧ c.toNat = 0) ∨ (i = 9 ∧ 1 < c.toNat) then (0, 0, 3)
    else (acc + c.toNat * 128 ^ i, i + 1, 0)
def vtake (bs : List UInt8) : Nat × Nat × Int := vtakeF (bs.take 10) 0 0

theorem pow_join (j : Nat) : 2 ^ (7 * j) = 128 ^ j := by rw [Nat.pow_mul]

theorem vjoin {acc v j : Nat} (ha : acc < 128 ^ j) (hv : v * 128 ^ j < 18446744073709551616) (hp : 128 ^ j ≤ 9223372036854775808) :
    bits .or .u64 (acc : Int) (IntKind.u64.wrap ((v : Int) * 2 ^ (7 * j))) = ((acc + v * 128 ^ j : Nat) : Int) := by
  have h1 : ((v : Int) * 2 ^ (7 * j)) = ((v * 128 ^ j : Nat) : Int) := by
    rw [← pow_join]; simp
  rw [h1, IntKind.wrap_u64]
  have h2 : ((v * 128 ^ j : Nat) : Int) % 18446744073709551616 = ((v * 128 ^ j : Nat) : Int) := by omega
  rw [h2, u64_or_nat _ _ (by omega) hv, Nat.or_comm]
  congr 1
  rw [nat_join (7 * j) (v * 128 ^ j) acc (by rw [pow_join]; exact Nat.mul_mod_left _ _) (by rw [pow_join]; exact ha), Nat.add_comm]

theorem pow_top {j : Nat} (h : j ≤ 9) : 128 ^ j ≤ 9223372036854775808 := by
  have := Nat.pow_le_pow_right (n := 128) (by omega) h
  have h2 : 128 ^ 9 = 9223372036854775808 := by decide
  omega

theorem vmid {acc q j : Nat} (hj : j ≤ 8) (ha : acc < 128 ^ j) (hq : q < 256) (h128 : 128 ≤ q) :
    bits .or .u64 (acc : Int) (IntKind.u64.wrap (((q : Int) - 128) * 2 ^ (7 * j))) = ((acc + (q - 128) * 128 ^ j : Nat) : Int) ∧ acc + (q - 128) * 128 ^ j < 128 ^ (j + 1) := by
  have hp := pow_top (show j + 1 ≤ 9 by omega)
  have hp' := pow_top (show j ≤ 9 by omega)
  rw [Nat.pow_succ] at hp ⊢
  have hm : (q - 128) * 128 ^ j ≤ 127 * 128 ^ j := Nat.mul_le_mul_right _ (by omega)
  have hc : (q : Int) - 128 = ((q - 128 : Nat) : Int) := by omega
  rw [hc]
  exact ⟨vjoin ha (by omega) hp', by omega⟩

theorem vend {acc q j : Nat} (hj : j ≤ 9) (ha : acc < 128 ^ j) (hq : q < 128) (h9 : ¬ (j = 9 ∧ 1 < q)) :
    bits .or .u64 (acc : Int) (IntKind.u64.wrap ((q : Int) * 2 ^ (7 * j))) = ((acc + q * 128 ^ j : Nat) : Int) := by
  have hp' := pow_top hj
  by_cases h : j = 9
  · have hm : q * 128 ^ j ≤ 1 * 128 ^ j := Nat.mul_le_mul_right _ (by omega)
    exact vjoin ha (by omega) hp'
  · have hp := pow_top (show j + 1 ≤ 9 by omega)
    rw [Nat.pow_succ] at hp
    have hm : q * 128 ^ j ≤ 127 * 128 ^ j := Nat.mul_le_mul_right _ (by omega)
    exact vjoin ha (by omega) hp'

set_option maxHeartbeats 1000000 in
set_option maxRecDepth 100000 in
theorem vtake_any (A : Option Addr) (n c : Nat) (bs : List UInt8) (w : World) (h : Rd w w.heap.size 1 A n (bs.map bV)) (hn : n = bs.length) (hc : n ≤ c) :
    Calls Try.prog 42 #[.slice A n c] w fun x w' => x = .returned (.tuple #[.int .u64 (vtake bs).1, .int .i64 (vtake bs).2.1, .int .i64 (vtake bs).2.2]) ∧ w = w' := by
  generalize hR : vtake bs = R
  unfold vtake at hR
  by_cases h10 : 10 < n
  · have hrd : Rd w w.heap.size 1 A 10 ((bs.take 10).map bV) := by
      have := h.first (k := 10) (by omega)
      rwa [Nat.mul_one, ← List.map_take] at this
    have hll : (bs.take 10).length = 10 := by rw [List.length_take]; omega
    generalize bs.take 10 = L at hR hrd hll
    go_enter Try.func42, Try.ntmps42
    go_wp2_with fail
    have hlm : L.length ≤ 10 := by omega
    go_loop [2, 14] (fun x i => ∃ (j acc : Nat) (z : Int), j ≤ 10 ∧ x = .int .u64 z ∧ i = .int .i64 j ∧ (j ≤ 9 → z = acc ∧ acc < 128 ^ j) ∧ vtakeF (L.drop j) j acc = R) (fun _ i => 10 - (intOf i).toNat)
    case atStart => exact ⟨0, 0, 0, by omega, rfl, rfl, fun _ => ⟨rfl, by decide⟩, hR⟩
    case round =>
      obtain ⟨j, acc, z, hj, rfl, rfl, hz, hr⟩ := hrel
      have HZ := Lib.hid hz
      have HRR := Lib.hid hr
      clear hz hr
      by_cases hjm : j < 10
      · obtain ⟨b, o, hl, hA, hb, hcell⟩ := hrd.at1 hjm
        subst hA
        rw [List.getElem_map] at hcell
        simp only [bV] at hcell
        simp only [List.length_map] at hl
        have hdrop : L.drop j = L[j] :: L.drop (j + 1) := List.drop_eq_getElem_cons hl
        have HD := Lib.hid hdrop
        clear hdrop
        generalize L[j] = q at hcell HD
        have hq := q.toNat_lt
        have e_mul : IntKind.i64.wrap (7 * (j : Int)) = 7 * j := IntWalk.i64_in _ (by omega)
        have e_0 : (0 : Int) ≤ 7 * (j : Int) := by omega
        have e_64 : 7 * (j : Int) ≤ 64 := by omega
        have hjm' : (j : Int) < 10 := by omega
        by_cases h128 : 128 ≤ q.toNat
        · have h128' : (128 : Int) ≤ (q.toNat : Int) := by omega
          have e_sub : IntKind.u8.wrap ((q.toNat : Int) - 128) = (q.toNat : Int) - 128 := by
            rw [IntKind.wrap_u8]; omega
          have e_con : IntKind.u64.wrap ((q.toNat : Int) - 128) = (q.toNat : Int) - 128 := by
            rw [IntKind.wrap_u64]; omega
          go_wp2_with fail
          go_round
          case rel =>
            have hr := HRR.out
            rw [HD.out] at hr
            unfold vtakeF at hr
            rw [if_pos h128] at hr
            refine ⟨j + 1, _, _, by omega, rfl, by go_num, fun h9 => ?_, hr⟩
            have h8 : j ≤ 8 := by omega
            obtain ⟨hz, ha⟩ := HZ.out (by omega)
            rw [hz]
            exact vmid h8 ha hq h128
          case measure => simp [intOf]; omega
        · have h128' : (q.toNat : Int) < 128 := by omega
          have e_con : IntKind.u64.wrap (q.toNat : Int) = (q.toNat : Int) := by
            rw [IntKind.wrap_u64]; omega
          have e_j1 : IntKind.i64.wrap ((j : Int) + 1) = j + 1 := IntWalk.i64_in _ (by omega)
          have hr := HRR.out
          rw [HD.out] at hr
          unfold vtakeF at hr
          rw [if_neg h128] at hr
          have H128 := Lib.hid h128
          clear h128
          by_cases h0 : j = 0
          · have hj0 : ¬ (0 : Int) < (j : Int) := by omega
            have h9' : ((j : Int) == 9) = false := by rw [beq_eq_false_iff_ne]; omega
            rw [if_neg (by omega)] at hr
            have H0 := Lib.hid h0
            clear h0
            go_wp2_with fail
            go_ret3
            have h0 := H0.out
            have hv := vend (acc := acc) (by omega) (HZ.out (by omega)).2 (by have := H128.out; omega : q.toNat < 128) (by omega)
            rw [← hr, (HZ.out (by omega)).1, hv]
            simp
          · have hj0 : (0 : Int) < (j : Int) := by omega
            by_cases hq0 : q.toNat = 0
            · rw [if_pos (Or.inl ⟨by omega, hq0⟩)] at hr
              have hq0' : (q.toNat : Int) = 0 := by omega
              rw [hq0'] at hcell
              go_wp2_with fail
              go_ret3
              rw [← hr]
              simp
            · have hq0' : ((q.toNat : Int) == 0) = false := by rw [beq_eq_false_iff_ne]; omega
              by_cases h9 : j = 9
              · have h9' : ((j : Int) == 9) = true := by rw [beq_iff_eq]; omega
                have H9 := Lib.hid h9
                by_cases hq1 : 1 < q.toNat
                · have hq1' : (1 : Int) < (q.toNat : Int) := by omega
                  rw [if_pos (Or.inr ⟨h9, hq1⟩)] at hr
                  clear h9
                  go_wp2_with fail
                  go_ret3
                  rw [← hr]
                  simp
                · have hq1' : ¬ (1 : Int) < (q.toNat : Int) := by omega
                  rw [if_neg (by omega)] at hr
                  clear h9
                  go_wp2_with fail
                  go_ret3
                  have h9 := H9.out
                  have hv := vend (acc := acc) (by omega) (HZ.out (by omega)).2 (by have := H128.out; omega : q.toNat < 128) (by omega)
                  rw [← hr, (HZ.out (by omega)).1, hv]
                  simp
              · have h9' : ((j : Int) == 9) = false := by rw [beq_eq_false_iff_ne]; omega
                rw [if_neg (by omega)] at hr
                go_wp2_with fail
                go_ret3
                have hv := vend (acc := acc) (by omega) (HZ.out (by omega)).2 (by have := H128.out; omega : q.toNat < 128) (by omega)
                rw [← hr, (HZ.out (by omega)).1, hv]
                simp
      · have hjn : j = 10 := by omega
        subst hjn
        have hr := HRR.out
        rw [List.drop_eq_nil_of_le (by omega)] at hr
        unfold vtakeF at hr
        rw [if_pos rfl] at hr
        go_wp2_with fail
        go_ret3
        rw [← hr]
        simp
  · have hrd : Rd w w.heap.size 1 A n ((bs.take 10).map bV) := by rwa [List.take_of_length_le (by omega)]
    have hll : (bs.take 10).length = n := by rw [List.length_take]; omega
    generalize bs.take 10 = L at hR hrd hll
    go_enter Try.func42, Try.ntmps42
    go_wp2_with fail
    have hlm : L.length ≤ 10 := by omega
    go_loop [2, 14] (fun x i => ∃ (j acc : Nat) (z : Int), j ≤ n ∧ x = .int .u64 z ∧ i = .int .i64 j ∧ (j ≤ 9 → z = acc ∧ acc < 128 ^ j) ∧ vtakeF (L.drop j) j acc = R) (fun _ i => n - (intOf i).toNat)
    case atStart => exact ⟨0, 0, 0, by omega, rfl, rfl, fun _ => ⟨rfl, by decide⟩, hR⟩
    case round =>
      obtain ⟨j, acc, z, hj, rfl, rfl, hz, hr⟩ := hrel
      have HZ := Lib.hid hz
      have HRR := Lib.hid hr
      clear hz hr
      by_cases hjm : j < n
      · obtain ⟨b, o, hl, hA, hb, hcell⟩ := hrd.at1 hjm
        subst hA
        rw [List.getElem_map] at hcell
        simp only [bV] at hcell
        simp only [List.length_map] at hl
        have hdrop : L.drop j = L[j] :: L.drop (j + 1) := List.drop_eq_getElem_cons hl
        have HD := Lib.hid hdrop
        clear hdrop
        generalize L[j] = q at hcell HD
        have hq := q.toNat_lt
        have e_mul : IntKind.i64.wrap (7 * (j : Int)) = 7 * j := IntWalk.i64_in _ (by omega)
        have e_0 : (0 : Int) ≤ 7 * (j : Int) := by omega
        have e_64 : 7 * (j : Int) ≤ 64 := by omega
        have hjm' : (j : Int) < (n : Int) := by omega
        by_cases h128 : 128 ≤ q.toNat
        · have h128' : (128 : Int) ≤ (q.toNat : Int) := by omega
          have e_sub : IntKind.u8.wrap ((q.toNat : Int) - 128) = (q.toNat : Int) - 128 := by
            rw [IntKind.wrap_u8]; omega
          have e_con : IntKind.u64.wrap ((q.toNat : Int) - 128) = (q.toNat : Int) - 128 := by
            rw [IntKind.wrap_u64]; omega
          go_wp2_with fail
          go_round
          case rel =>
            have hr := HRR.out
            rw [HD.out] at hr
            unfold vtakeF at hr
            rw [if_pos h128] at hr
            refine ⟨j + 1, _, _, by omega, rfl, by go_num, fun h9 => ?_, hr⟩
            have h8 : j ≤ 8 := by omega
            obtain ⟨hz, ha⟩ := HZ.out (by omega)
            rw [hz]
            exact vmid h8 ha hq h128
          case measure => simp [intOf]; omega
        · have h128' : (q.toNat : Int) < 128 := by omega
          have e_con : IntKind.u64.wrap (q.toNat : Int) = (q.toNat : Int) := by
            rw [IntKind.wrap_u64]; omega
          have e_j1 : IntKind.i64.wrap ((j : Int) + 1) = j + 1 := IntWalk.i64_in _ (by omega)
          have hr := HRR.out
          rw [HD.out] at hr
          unfold vtakeF at hr
          rw [if_neg h128] at hr
          have H128 := Lib.hid h128
          clear h128
          by_cases h0 : j = 0
          · have hj0 : ¬ (0 : Int) < (j : Int) := by omega
            have h9' : ((j : Int) == 9) = false := by rw [beq_eq_false_iff_ne]; omega
            rw [if_neg (by omega)] at hr
            have H0 := Lib.hid h0
            clear h0
            go_wp2_with fail
            go_ret3
            have h0 := H0.out
            have hv := vend (acc := acc) (by omega) (HZ.out (by omega)).2 (by have := H128.out; omega : q.toNat < 128) (by omega)
            rw [← hr, (HZ.out (by omega)).1, hv]
            simp
          · have hj0 : (0 : Int) < (j : Int) := by omega
            by_cases hq0 : q.toNat = 0
            · rw [if_pos (Or.inl ⟨by omega, hq0⟩)] at hr
              have hq0' : (q.toNat : Int) = 0 := by omega
              rw [hq0'] at hcell
              go_wp2_with fail
              go_ret3
              rw [← hr]
              simp
            · have hq0' : ((q.toNat : Int) == 0) = false := by rw [beq_eq_false_iff_ne]; omega
              by_cases h9 : j = 9
              · have h9' : ((j : Int) == 9) = true := by rw [beq_iff_eq]; omega
                have H9 := Lib.hid h9
                by_cases hq1 : 1 < q.toNat
                · have hq1' : (1 : Int) < (q.toNat : Int) := by omega
                  rw [if_pos (Or.inr ⟨h9, hq1⟩)] at hr
                  clear h9
                  go_wp2_with fail
                  go_ret3
                  rw [← hr]
                  simp
                · have hq1' : ¬ (1 : Int) < (q.toNat : Int) := by omega
                  rw [if_neg (by omega)] at hr
                  clear h9
                  go_wp2_with fail
                  go_ret3
                  have h9 := H9.out
                  have hv := vend (acc := acc) (by omega) (HZ.out (by omega)).2 (by have := H128.out; omega : q.toNat < 128) (by omega)
                  rw [← hr, (HZ.out (by omega)).1, hv]
                  simp
              · have h9' : ((j : Int) == 9) = false := by rw [beq_eq_false_iff_ne]; omega
                rw [if_neg (by omega)] at hr
                go_wp2_with fail
                go_ret3
                have hv := vend (acc := acc) (by omega) (HZ.out (by omega)).2 (by have := H128.out; omega : q.toNat < 128) (by omega)
                rw [← hr, (HZ.out (by omega)).1, hv]
                simp
      · have hjn : j = n := by omega
        subst hjn
        have hr := HRR.out
        rw [List.drop_eq_nil_of_le (by omega)] at hr
        unfold vtakeF at hr
        by_cases h9 : j = 10
        · have h9' : ((j : Int) == 10) = true := by rw [beq_iff_eq]; omega
          rw [if_pos h9] at hr
          go_wp2_with fail
          go_ret3
          rw [← hr]
          simp
        · have h9' : ((j : Int) == 10) = false := by rw [beq_eq_false_iff_ne]; omega
          rw [if_neg h9] at hr
          go_wp2_with fail
          go_ret3
          rw [← hr]
          simp

theorem vtakeF_le : ∀ (l : List UInt8) (i acc : Nat), (vtakeF l i acc).2.1 ≤ i + l.length
  | [], i, acc => by unfold vtakeF; split <;> simp
  | c :: r, i, acc => by
    unfold vtakeF
    split
    · have := vtakeF_le r (i + 1) (acc + (c.toNat - 128) * 128 ^ i)
      simp only [List.length_cons]
      omega
    · split <;> simp

theorem vtake_le (l : List UInt8) : (vtake l).2.1 ≤ l.length := by
  have := vtakeF_le (l.take 10) 0 0
  rw [List.length_take] at this
  unfold vtake
  omega
end Go.Proofs.Ytbmojelnkldecaa
