/-
  The document's example of layer 9.
-/
import Derived.Test.YtihjfndkgmjanaaBkG
namespace Go.Proofs.Ytihjfndkgmjanaa
open Go.RowKit

def cyS : ByteArray := ⟨#[99, 121]⟩
def oneL : List Ev := [⟨0, 1, ⟨0, 0, 0, 0, 0⟩, 1, 1, cyS, 0, ⟨#[]⟩⟩, ⟨1, 1, ⟨1, 0, 0, 0, 0⟩, 2, 3, cyS, 0, ⟨#[49]⟩⟩, ⟨0, 2, ⟨1, 0, 0, 0, 0⟩, 2, 2, cyS, 0, ⟨#[]⟩⟩, ⟨0, 3, ⟨2, 0, 0, 0, 0⟩, 3, 1, cyS, 0, ⟨#[]⟩⟩]
theorem AEq.slF {s n : Nat} {sc : Bool} {f g : Nat → List AV} (h : ∀ i, i < n → f i = g i) : AEq (.sl s n sc f) (.sl s n sc g) := by
  intro X u hu
  have hu : PC X.w X.keep (.sl s n sc f) u := hu
  show PC X.w X.keep (.sl s n sc g) u
  cases hu with
  | sl _ _ _ _ A c us hs hn hc hl hf hsc hq hr => exact .sl s n sc g A c us hs hn hc hl (fun i hi => by rw [← h i hi]; exact hf i hi) (by rw [← flat_congr h]; exact hsc) (by rw [← flat_congr h]; exact hq) hr
set_option maxRecDepth 100000 in
theorem one_spec : ASpec Try.prog 29 [] (.sl 12 4 true (evF oneL)) [] := by
  refine aspec_of lay_ok 1 Try.func29 rfl rfl rfl ?_
  repeat' ((conv => whnf); first | refine Spl.yes (by first | assumption | omega) ?_ | refine Spl.no (by first | assumption | omega) ?_ | refine Wr.i64 (by omega) (by omega) ?_ | refine Still.mk rfl rfl ?_ | refine InB.mk (inB_mk (by omega) (by omega)) ?_ | refine Req.mk (by omega) ?_ | refine Req.mk ⟨by first | omega | (dsimp only; omega), by first | omega | (dsimp only; omega)⟩ ?_ | refine ARet.hdI ?_ | refine Spl.mk (fun _ => ?_) (fun _ => ?_) | refine InA.mk (inB_mk (by omega) (by omega)) ?_ | refine Wr.b64 ?_ | refine Wr.bu64 ?_ | refine Wr.bu32 ?_ | refine Wr.bu8 ?_ | refine Wr.u8 (by omega) (by omega) ?_ | refine Wr.u64 (by omega) (by omega) ?_ | refine Wr.u32 (by omega) (by omega) ?_ | refine Dv.pos (by omega) (by omega) ?_ | refine Rm.pos (by omega) (by omega) ?_ | refine ADraw.quiet follows_ok (by kernel_rfl) rfl ?_ | refine BSpl.decY (by first | assumption | omega) ?_ | refine BSpl.decN (by first | assumption | omega) ?_ | refine BSpl.dec (fun _ => ?_) (fun _ => ?_) | refine BSpl.yes (by assumption) ?_ | refine BSpl.no (by assumption) ?_ | refine BSpl.mk (fun _ => ?_) (fun _ => ?_))
  conv => whnf
  refine AEqI.mk (AEq.slF (n := 4) fun i hi => ?_)
  have hi : i < 4 := hi
  rcases (show i = 0 ∨ i = 1 ∨ i = 2 ∨ i = 3 by omega) with rfl | rfl | rfl | rfl
  all_goals rfl
theorem few_spec (l : List Ev) : ASpec Try.prog 16 [.sl 12 l.length true (evF l)] (.sl 12 (l.take 30).length true (evF (l.take 30))) [] := by
  have hn : (if (30 : Int) < (l.length : Int) then (30 : Int) else (l.length : Int)).toNat = (l.take 30).length := by
    rw [List.length_take]
    split <;> omega
  refine aspec_of lay_ok 5 Try.func16 rfl rfl rfl ?_
  repeat' ((conv => whnf); first | refine Spl.yes (by first | assumption | omega) ?_ | refine Spl.no (by first | assumption | omega) ?_ | refine Wr.i64 (by omega) (by omega) ?_ | refine Still.mk rfl rfl ?_ | refine InB.mk (inB_mk (by omega) (by omega)) ?_ | refine Req.mk (by omega) ?_ | refine Req.mk ⟨by first | omega | (dsimp only; omega), by first | omega | (dsimp only; omega)⟩ ?_ | refine InB.mk (inB_mk (by split <;> omega) (by split <;> omega)) ?_ | refine ARet.hdI ?_ | refine Spl.mk (fun _ => ?_) (fun _ => ?_) | refine InA.mk (inB_mk (by omega) (by omega)) ?_ | refine Wr.b64 ?_ | refine Wr.bu64 ?_ | refine Wr.bu32 ?_ | refine Wr.bu8 ?_ | refine Wr.u8 (by omega) (by omega) ?_ | refine Wr.u64 (by omega) (by omega) ?_ | refine Wr.u32 (by omega) (by omega) ?_ | refine Dv.pos (by omega) (by omega) ?_ | refine Rm.pos (by omega) (by omega) ?_ | refine ADraw.quiet follows_ok (by kernel_rfl) rfl ?_ | refine BSpl.decY (by first | assumption | omega) ?_ | refine BSpl.decN (by first | assumption | omega) ?_ | refine BSpl.dec (fun _ => ?_) (fun _ => ?_) | refine BSpl.yes (by assumption) ?_ | refine BSpl.no (by assumption) ?_ | refine BSpl.mk (fun _ => ?_) (fun _ => ?_))
  conv => whnf
  refine AEqI.mk ?_
  rw [hn]
  refine AEq.slF fun i hi => ?_
  rw [List.length_take] at hi
  show Ev.cs _ = Ev.cs _
  rw [List.getD, List.getD, List.getElem?_take_of_lt (by omega)]
end Go.Proofs.Ytihjfndkgmjanaa
