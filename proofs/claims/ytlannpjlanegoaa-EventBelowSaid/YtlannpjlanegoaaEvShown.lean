/-
  The law's helpers: the document's example holds; how many bytes a number has.
-/
import Derived.Test.YtlannpjlanegoaaEvPutYes
import Derived.Test.YtlannpjlanegoaaEvFit
import Derived.Laws.IdiomStrings
namespace Go.Proofs.Ytlannpjlanegoaa
open Go.RowKit

/-- string(b) where b reads as the bytes bs. -/
theorem conv_bytes {w : World} {B n c : Nat} {A : Option Addr} {bs : List UInt8} (h : Rd w B 1 A n (bs.map bV)) :
    (convert 28 9 (.slice A n c)).run Try.prog w = .ok (.string ⟨bs.toArray⟩) w := by
  have hn : n = bs.length := by have := h.1; simp at this; exact this.symm
  subst hn
  rcases bs with _ | ⟨b, bs⟩
  · cases A with
    | none =>
      show (convert _ _ (.slice none 0 c)).run _ _ = _
      rw [run_convert_bytes_string w _ _ _ none 0 c Try.underlying28 Try.underlying5 Try.underlying9]
      rfl
    | some a => exact run_convert_bytes_back w _ _ _ a c [] Try.underlying28 Try.underlying5 Try.underlying9 (fun j hj => by simp at hj)
  · obtain ⟨g, o, rfl, _, hc⟩ := h.2 (by simp)
    refine run_convert_bytes_back w _ _ _ ⟨g, o, none⟩ c (b :: bs) Try.underlying28 Try.underlying5 Try.underlying9 (fun j hj => ?_)
    rw [Addr.add_lit]
    exact hc j _ (by rw [List.getElem?_map, List.getElem?_eq_getElem hj]; rfl)

def exEv : Ev := ⟨1, 1, ⟨0, 0, 0, 0, 0⟩, 1, 1, ⟨#[99, 121]⟩, 0, ⟨#[]⟩⟩
theorem exEv_may : mayE exEv = 0 := by decide
theorem exEv_out : evOut exEv = [1, 1, 1, 0, 0, 0, 0, 1, 2, 99, 121] := by decide

theorem OutB.rd {w w' : World} {bs : List UInt8} {A : Option Addr} {n c : Nat} (h : OutB w bs (.slice A n c) w') : n = bs.length ∧ Rd w' w'.heap.size 1 A n (bs.map bV) := by
  obtain ⟨A', c', e, hown, _⟩ := h
  injection e with e1 e2 e3
  subst e1 e2 e3
  exact ⟨rfl, Rd.of_own hown⟩

set_option maxHeartbeats 1000000 in
theorem shown06_any (w : World) : Calls Try.prog 8 #[] w fun x w' => x = .returned (.bool true) ∧ Below w.heap.size w w' := by
  go_enter Try.func8, Try.ntmps8
  go_wp2_with fail
  refine (put_any exEv _).mono ?_
  rintro x w1 ⟨v, rfl, A, c, rfl, hown, hb⟩
  rw [exEv_may]
  have hcv := conv_bytes (c := c) (Rd.of_own hown)
  rw [exEv_out] at hcv
  rw [exEv_out]
  have hcv' : (convert 28 9 (.slice A 11 c)).run Try.prog w1 = .ok (.string ⟨#[1, 1, 1, 0, 0, 0, 0, 1, 2, 99, 121]⟩) w1 := hcv
  clear hown hcv
  go_wp2
  go_ret
  exact ⟨rfl, hb⟩

theorem vput_len_round {f m k L : Nat} (h : k + (vputF f m).length = L) (hm : m < 128 ^ (f + 1)) (h128 : 128 ≤ m) :
    ∃ f', k + 1 + (vputF f' (m / 128)).length = L ∧ m / 128 < 128 ^ (f' + 1) := by
  cases f with
  | zero => simp at hm; omega
  | succ f =>
    refine ⟨f, ?_, ?_⟩
    · rw [← h]
      simp only [vputF, if_neg (Nat.not_lt.2 h128), List.length_cons]
      omega
    · rw [Nat.pow_succ] at hm
      exact Nat.div_lt_of_lt_mul (by omega)
theorem vput_len_last {f m k L : Nat} (h : k + (vputF f m).length = L) (hm : m < 128) : k + 1 = L := by
  rw [← h]
  cases f with
  | zero => rfl
  | succ f => simp [vputF, hm]

set_option maxRecDepth 100000 in
set_option maxHeartbeats 1000000 in
theorem long06_any (n : Int) (h0 : 0 ≤ n) (h1 : n ≤ 4294967296) (w : World) :
    Calls Try.prog 11 #[.int .i64 n] w fun x w' => x = .returned (.int .i64 ((vputI n).length : Nat)) ∧ w = w' := by
  obtain ⟨m, rfl⟩ := Int.eq_ofNat_of_zero_le h0
  have hst := vput_start m (by omega)
  unfold vputI
  rw [Int.toNat_natCast]
  have hL : 0 + (vputF 9 m).length = (vput m).length := by simp [vput]
  have hLle : (vput m).length ≤ 10 := vputF_le 9 m
  generalize (vput m).length = L at hL hLle ⊢
  have HL := Lib.hid hL
  have HM := Lib.hid hst.2
  clear hst hL
  go_enter Try.func11, Try.ntmps11
  go_wp2
  go_loop [0, 3] (fun n k => ∃ (m f q : Nat), n = .int .i64 m ∧ k = .int .i64 (q + 1 : Nat) ∧ m ≤ 4294967296 ∧ q + (vputF f m).length = L ∧ m < 128 ^ (f + 1)) (fun n _ => (intOf n).toNat)
  case atStart => exact ⟨m, 9, 0, rfl, rfl, by omega, HL.out, HM.out⟩
  case round =>
    clear HL HM
    obtain ⟨m, f, q, rfl, rfl, hm, hq, hf⟩ := hrel
    have hqL : q ≤ 10 := by omega
    have HQ := Lib.hid hq
    have HF := Lib.hid hf
    clear hq hf
    by_cases hlt : 128 ≤ m
    · go_wp2
      obtain ⟨f', h1, h2⟩ := vput_len_round HQ.out HF.out hlt
      go_round
      case rel => exact ⟨m / 128, f', q + 1, by go_num, by go_num, by omega, h1, h2⟩
      case measure => simp [intOf]; omega
    · go_wp2
      go_ret
      have := vput_len_last HQ.out (by omega)
      exact ⟨ret_int (by omega), rfl⟩

end Go.Proofs.Ytlannpjlanegoaa
