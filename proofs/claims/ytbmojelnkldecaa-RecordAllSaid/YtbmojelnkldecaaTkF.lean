/-
  What event.Take tells: which errors; and that what was put is taken.
-/
import Derived.Test.YtbmojelnkldecaaTkE
import Derived.Test.YtbmojelnkldecaaAmUse
import Derived.Test.YtbmojelnkldecaaTkLawB
import Derived.Test.YtbmojelnkldecaaTkLawC
import Derived.Test.YtbmojelnkldecaaTkLawD
namespace Go.Proofs.Ytbmojelnkldecaa
open Go.RowKit

def E23 (x : Int) : Prop := x = 0 ∨ x = 2 ∨ x = 3
theorem octS_err {bs : List UInt8} {lo hi : Int} {s : St} (h : E23 s.2) : E23 (octS bs lo hi s).2.2 := by
  unfold octS
  split
  · exact h
  · split
    · exact .inr (.inl rfl)
    · split
      · exact .inl rfl
      · exact .inr (.inr rfl)
theorem numS_err {bs : List UInt8} {lo hi : Int} {s : St} (h : E23 s.2) : E23 (numS bs lo hi s).2.2 := by
  unfold numS
  split
  · exact h
  · split
    · have h : vtakeF ((bs.drop s.1).take 10) 0 0 = vtake (bs.drop s.1) := rfl
      have := vtakeF_err ((bs.drop s.1).take 10) 0 0
      rw [h] at this
      exact this
    · split
      · exact .inl rfl
      · exact .inr (.inr rfl)
theorem wordS_err {bs : List UInt8} {sz : Int} {may : ByteArray → Int} {s : St} (h : E23 s.2) : E23 (wordS bs sz may s).2.2 := by
  unfold wordS
  split
  · exact h
  · split
    · exact .inr (.inl rfl)
    · dsimp only
      split
      · exact .inl rfl
      · exact .inr (.inr rfl)
theorem skipS_err {bs : List UInt8} {r : Int} {j : Nat} {s : St} (h : E23 s.2) : E23 (skipS bs r j s).2.2 := by
  unfold skipS
  split
  · exact h
  · exact numS_err h
theorem clkAt_err {bs : List UInt8} {r : Int} {s : St} (h : E23 s.2) : ∀ j, E23 (clkAt bs r s j).2.2
  | 0 => h
  | j + 1 => skipS_err (clkAt_err h j)
theorem fieldS_err (bs : List UInt8) : E23 (fieldS bs (0, 0)).2.2 := by
  have h6 : E23 (wordS bs (octS bs 1 8 (numS bs 1 16777216 (clockS bs (octS bs 0 4 (octS bs 1 5 (0, 0)).2).1 (numS bs 1 1048576 (octS bs 0 4 (octS bs 1 5 (0, 0)).2).2).2).2).2).1 keyE (octS bs 1 8 (numS bs 1 16777216 (clockS bs (octS bs 0 4 (octS bs 1 5 (0, 0)).2).1 (numS bs 1 1048576 (octS bs 0 4 (octS bs 1 5 (0, 0)).2).2).2).2).2).2).2.2 :=
    wordS_err (octS_err (numS_err (clkAt_err (numS_err (octS_err (octS_err (.inl rfl)))) 5)))
  unfold fieldS
  dsimp only
  split
  · exact wordS_err (octS_err (octS_err h6))
  · exact h6

/-- Three ways: an event that may be, whose bytes these begin with; too short; of another form. -/
theorem takeE_ways (bs : List UInt8) : (∃ e m, takeE bs = (e, m, 0) ∧ mayE e = 0 ∧ m ≤ bs.length ∧ bs.take m = evBytes e ∧ m = (evBytes e).length) ∨ takeE bs = (zeroEv, 0, 2) ∨ takeE bs = (zeroEv, 0, 3) := by
  obtain ⟨⟨e, m, x⟩, hf⟩ : ∃ p, fieldS bs (0, 0) = p := ⟨_, rfl⟩
  have he := fieldS_err bs
  rw [hf] at he
  unfold takeE
  rw [hf]
  rcases he with h | h | h <;> dsimp only at h <;> subst h
  · obtain ⟨h1, h2, h3⟩ := field_ok bs hf
    refine .inl ⟨e, m, by simp, h1, h2, h3, ?_⟩
    rw [← h3, List.length_take]
    omega
  · exact .inr (.inl (by simp))
  · exact .inr (.inr (by simp))
theorem takeE_put (e : Ev) (h : mayE e = 0) (rest : List UInt8) : takeE (evBytes e ++ rest) = (e, (evBytes e).length, 0) := by
  unfold takeE
  rw [field_put e h rest]
  simp
theorem takeE_cut (e : Ev) (h : mayE e = 0) (i : Nat) (hi : i < (evBytes e).length) : takeE ((evBytes e).take i) = (zeroEv, 0, 2) := by
  have h1 := field_put e h []
  rw [List.append_nil] at h1
  have h2 := field_cut (evBytes e) h1 i hi
  unfold takeE
  rw [h2]
  simp

theorem Ch.isB {n : Nat} {sc : Bool} {F : Nat → List AV} {l : List UInt8} {xs ys : List AV} (h : IsB F l) (hn : n = l.length) (k : Ch xs ys) : Ch (.sl 1 n sc F :: xs) (.sl 1 l.length sc (bytesF l) :: ys) :=
  .of (fun X u hu => AEq.isB (sc := sc) h hn X u hu) k

theorem take_any {n : Nat} {F : Nat → List AV} (l : List UInt8) {e : Ev} {m : Nat} {x : Int} (ht : takeE l = (e, m, x)) (hF : IsB F l) (hn : n = l.length) (hl : l.length ≤ 1000000000) :
    ASpec Try.prog 19 [.sl 1 n true F] (.tup [e.av, .v (.int .i64 (m : Int)), .v (.int .i64 x)]) [] := by
  have h := take_spec l hl
  rw [ht] at h
  exact h.args (Ch.isB hF hn .nil)
end Go.Proofs.Ytbmojelnkldecaa
