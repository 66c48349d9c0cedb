/-
  Small lemmas for the walks of frames and records.
-/
import Derived.Test.YtbmojelnkldecaaFrLaw
namespace Go.Proofs.Ytbmojelnkldecaa
open Go.RowKit

theorem AEq.nilEvT {a1 a2 a3 a4 a5 a6 a7 a8 b : AV} (f : Nat → List AV) : AEq (.tup [.agg [a1, a2, a3, a4, a5, a6, a7, a8, .v (.slice none 0 0)], b]) (.tup [.agg [a1, a2, a3, a4, a5, a6, a7, a8, .sl 12 0 true f], b]) := by
  rintro X u ⟨us, e, ha⟩
  exact ⟨us, e, ha.hd fun u hu => C1.nilEv hu⟩

theorem numF_le {b : List UInt8} {m k : Nat} (h : numF b = some (m, k)) : k ≤ b.length ∧ m ≤ 1048576 := by
  have hle := vtake_le b
  unfold numF at h
  split at h
  · rename_i h0
    simp only [Option.some.injEq, Prod.mk.injEq] at h
    omega
  · cases h

/-- A contract that says less of what is handed back. -/
theorem ASpec.res {P : Program} {f : FuncId} {avs : List AV} {r r' : AV} {h : List (Nat × AO)} (hs : ASpec P f avs r h) (hr : AEq r r') : ASpec P f avs r' h :=
  ⟨hs.1, fun w keep args hk ha => (hs.2 w keep args hk ha).mono fun _ _ ⟨u, ρ, h1, h2, h3, h4⟩ => ⟨u, ρ, h1, h2, hr _ _ h3, h4⟩⟩

theorem seal_sl {n : Nat} {F : Nat → List AV} (l : List UInt8) (hF : IsB F l) (hn : n = l.length) (hl : l.length ≤ 1000000000) :
    ASpec Try.prog 31 [.sl 1 n true F] (.sl 1 (sealB l).length true (bytesF (sealB l))) [] := (seal_spec 0 l hF hn hl).thaw
end Go.Proofs.Ytbmojelnkldecaa
