/-
  Rows of contacts of small bulk, as arguments.
-/
import Derived.Test.YtihjfndkgmjanaaOpU
import Derived.Test.YtihjfndkgmjanaaBkQ
import Derived.Test.YtihjfndkgmjanaaBkP1
namespace Go.Proofs.Ytihjfndkgmjanaa
open Go.ChangeShapes Go.WideShapes Go.ChangeAt Go.RowKit

theorem shn_strs : ShN 37 (fun avs k => ∃ l : List (List UInt8), avs = [.sl 1 l.length true (strF l)] ∧ setW l ≤ k) :=
  (shn_slice (s := 1) (c := fun x => [.v (encStr x)]) (m := strW) true Try.underlying37 (by kernel_rfl) (by omega) (fun _ => rfl) (fun _ a x hx => ⟨_, List.mem_singleton.1 hx⟩) (fun _ => by unfold strW; omega)
    ((shn_string Try.underlying9).imp fun avs k ⟨s, e, h⟩ => ⟨s.data.toList, by rw [e, enc_arr], h⟩)).imp fun _ _ ⟨l, e, h⟩ => ⟨l, e, h⟩
theorem shn_cont : ShN 40 (fun avs k => ∃ c : Cont, avs = c.cs ∧ contW c ≤ k) :=
  (shn_struct Try.underlying40 (by kernel_rfl) rfl (.cons (shn_string Try.underlying9) (.cons (shn_array (s := 1) Try.underlying35 (by kernel_rfl) (by kernel_rfl) (shn_bool Try.underlying4)) (.cons (shn_array (s := 1) Try.underlying36 (by kernel_rfl) (by kernel_rfl) (shn_string Try.underlying9)) (.cons (shn_array (s := 1) Try.underlying38 (by kernel_rfl) (by kernel_rfl) shn_strs) .nil))))).imp fun avs k h => by
    obtain ⟨_, _, i1, j1, rfl, l1, ⟨a, rfl, ha⟩, _, _, i2, j2, rfl, l2, ⟨_, _, i3, j3, rfl, l3, ⟨b0, rfl⟩, _, _, i4, j4, rfl, l4, ⟨b1, rfl⟩, rfl⟩, _, _, i5, j5, rfl, l5, ⟨_, _, i6, j6, rfl, l6, ⟨c0, rfl, h0⟩, _, _, i7, j7, rfl, l7, ⟨c1, rfl, h1⟩, rfl⟩, _, _, i8, j8, rfl, l8, ⟨_, _, i9, j9, rfl, l9, ⟨d0, rfl, k0⟩, _, _, i10, j10, rfl, l10, ⟨d1, rfl, k1⟩, rfl⟩, rfl⟩ := h
    exact ⟨⟨a, b0, b1, c0, c1, d0, d1⟩, rfl, by unfold contW; simp only; omega⟩
theorem shn_conts : ShN 22 (fun avs k => ∃ l : List Cont, avs = [.sl 7 l.length false (coF l)] ∧ (l.map contW).sum + 1 ≤ k) :=
  shn_slice (s := 7) (c := Cont.cs) (m := contW) false Try.underlying22 (by kernel_rfl) (by omega) (fun _ => rfl) (fun h => by cases h) contW_pos shn_cont
section
variable {H : Type} {enc : TypeId × Value → H} {w : World} {spare : Nat → Bool} {held : Bool} {v : Value} {d : DataW H} {p : List MemPlace} {r : Reach} {b0 : Nat}
set_option maxRecDepth 100000 in
theorem argn_conts (hv : Value.okWide Try.prog w r b0 22 v) (h : DataW.Trod enc Try.prog w 0 spare held 22 v d p) : ∃ l : List Cont, (l.map contW).sum + 1 ≤ Rows.uptoBulk d ∧ C1 ⟨w, allOf w, fun _ => undef⟩ (.sl 7 l.length false (coF l)) v := by
  obtain ⟨a, n, c, rfl⟩ := okWide_slice Try.underlying22 hv
  obtain ⟨x, ⟨l, e, hl⟩, hc⟩ := argn_one shn_conts (fun _ _ ⟨l, e, _⟩ => by rw [e]; rfl) h rfl
  cases e
  exact ⟨l, hl, hc⟩
end
end Go.Proofs.Ytihjfndkgmjanaa
