/-
  The statement EventCuts, walked.
-/
import Derived.Test.YtbmojelnkldecaaBack
namespace Go.Proofs.Ytbmojelnkldecaa
open Go.RowKit

theorem put_sl (e : Ev) (h : mayE e = 0) : ASpec Try.prog 18 [e.av] (.tup [.sl 1 (evBytes e).length true (bytesF (evBytes e)), .v (.int .i64 0)]) [] := (put_yes_spec 0 e h).thaw

theorem evBytes_pre {x y : Ev} (hx : mayE x = 0) (hy : mayE y = 0) (hl : (evBytes x).length ≤ (evBytes y).length) (h : evBytes x = (evBytes y).take (evBytes x).length) : x = y := by
  have tx := takeE_put x hx []
  rw [List.append_nil] at tx
  by_cases hlt : (evBytes x).length < (evBytes y).length
  · have ty := takeE_cut y hy _ hlt
    rw [← h, tx] at ty
    have := congrArg (fun t => t.2.2) ty
    cases this
  · have ty := takeE_put y hy []
    rw [List.append_nil] at ty
    rw [List.take_of_length_le (by omega)] at h
    rw [h, ty] at tx
    exact (congrArg Prod.fst tx).symm
/-- Beginnings of two events' bytes, as long as the shorter one, are the same just if the events are. -/
theorem evBytes_cut {x y : Ev} (hx : mayE x = 0) (hy : mayE y = 0) (h : (evBytes x).take (min (evBytes x).length (evBytes y).length) = (evBytes y).take (min (evBytes x).length (evBytes y).length)) : x = y := by
  rcases Nat.le_total (evBytes x).length (evBytes y).length with hl | hl
  · rw [Nat.min_eq_left hl, List.take_length] at h
    exact evBytes_pre hx hy hl h
  · rw [Nat.min_eq_right hl, List.take_length] at h
    exact (evBytes_pre hy hx hl h.symm).symm

theorem str_ne {a b : List UInt8} (h : a ≠ b) : ¬ (⟨a.toArray⟩ : ByteArray) = ⟨b.toArray⟩ := fun e => h (by
  have := congrArg (fun s => s.data.toList) e
  simpa using this)

set_option maxHeartbeats 8000000 in
set_option maxRecDepth 100000 in
theorem cuts_spec (a b : Ev) (hka : a.key.size ≤ 140737488355328) (hva : a.v.size ≤ 140737488355328) (hkb : b.key.size ≤ 140737488355328) (hvb : b.v.size ≤ 140737488355328) :
    ASpec Try.prog 4 [a.av, b.av] (.v (.bool true)) [] := by
  have hx := fitE_may a
  have hfa := fit06_spec a hka hva
  generalize fitE a = x at hx hfa
  have hy := fitE_may b
  have hfb := fit06_spec b hkb hvb
  generalize fitE b = y at hy hfb
  have hx44 := evBytes_len hx
  have hy44 := evBytes_len hy
  have hcut := evBytes_cut hx hy
  refine aspec_of lay_ok 73787013678233681919 Try.func4 rfl rfl rfl ?_
  repeat' ((conv => whnf); first | refine Spl.yes (by first | assumption | omega) ?_ | refine Spl.no (by first | assumption | omega) ?_ | refine Wr.i64 (by omega) (by omega) ?_ | refine Still.mk rfl rfl ?_ | refine InB.mk (inB_mk (by omega) (by omega)) ?_ | refine Req.mk (by omega) ?_ | refine Req.mk ⟨by first | omega | (dsimp only; omega), by first | omega | (dsimp only; omega)⟩ ?_ | refine ACall.plain _ _ (shown06_spec) .nil rfl ?_ | refine ACall.plain _ _ (hfa) (SubL.cons (.eq _) .nil) rfl ?_ | refine ACall.plain _ _ (hfb) (SubL.cons (.eq _) .nil) rfl ?_ | refine ACall.plain _ _ (put_sl x hx) (SubL.cons (.eq _) .nil) rfl ?_ | refine ACall.plain _ _ (put_sl y hy) (SubL.cons (.eq _) .nil) rfl ?_ | refine Spl.mk (fun _ => ?_) (fun _ => ?_) | refine Wr.b64 ?_ | refine Wr.bu64 ?_ | refine Wr.bu32 ?_ | refine Wr.bu8 ?_ | refine Wr.u8 (by omega) (by omega) ?_ | refine Wr.u64 (by omega) (by omega) ?_ | refine Wr.u32 (by omega) (by omega) ?_ | refine Dv.pos (by omega) (by omega) ?_ | refine Rm.pos (by omega) (by omega) ?_ | refine ADraw.quiet follows_ok (by kernel_rfl) rfl ?_ | refine ADraw.sched (id := 15) lay_ok (awp_snd lay_ok _) [(0, none), (1, none), (2, none), (3, none), (4, none), (5, none), (6, none), (7, none), (8, none), (9, none), (10, none), (11, none), (12, none), (13, none)] [] follows_ok (by kernel_rfl) ?_ | refine BSpl.decY (by first | assumption | omega) ?_ | refine BSpl.decN (by first | assumption | omega) ?_ | refine BSpl.dec (fun _ => ?_) (fun _ => ?_) | refine BSpl.yes (by assumption) ?_ | refine BSpl.no (by assumption) ?_ | refine BSpl.mk (fun _ => ?_) (fun _ => ?_))
  conv => whnf
  refine ALoop.mk { i : Nat // i ≤ (evBytes x).length } (fun i => ⟨[(4, .v (.bool false)), (5, .v (.bool true)), (6, .box 2 0), (7, .box 3 0), (8, .sl 1 (evBytes x).length true (bytesF (evBytes x))), (10, .sl 1 (evBytes y).length true (bytesF (evBytes y))), (12, .v (.int .i64 (i.1 : Int)))],
    [(2, .box 25 x.cs), (3, .box 25 y.cs)], [], 4⟩) (fun i => (evBytes x).length - i.1) ⟨0, Nat.zero_le _⟩ _
    (LeR.mk' [] _ _ _ rfl ⟨AEq.refl _, AEq.refl _, AEq.refl _, AEq.refl _, AEq.refl _, AEq.refl _, AEq.int rfl, trivial⟩ ⟨⟨_, rfl, OEq.refl _⟩, ⟨_, rfl, OEq.refl _⟩, trivial⟩ rfl) ?_
  rintro ⟨i, hi⟩
  dsimp only
  have hti : i < (evBytes x).length → takeE ((evBytes x).take i) = (zeroEv, 0, 2) := takeE_cut x hx i
  repeat' ((conv => whnf); first | refine Spl.yes (by first | assumption | omega) ?_ | refine Spl.no (by first | assumption | omega) ?_ | refine Wr.i64 (by omega) (by omega) ?_ | refine Still.mk rfl rfl ?_ | refine InB.mk (inB_mk (by omega) (by omega)) ?_ | refine Req.mk (by omega) ?_ | refine Req.mk ⟨by first | omega | (dsimp only; omega), by first | omega | (dsimp only; omega)⟩ ?_ | refine ACall.plain _ _ (take_any ((evBytes x).take i) (hti (by omega)) ((IsB.bytes _).take i) (by rw [List.length_take]; omega) (by rw [List.length_take]; omega)) (SubL.cons (.eq _) .nil) rfl ?_ | refine InB.mk (inB_mk (by split <;> omega) (by split <;> omega)) ?_ | refine Bs.of ((evBytes x).take (min (evBytes x).length (evBytes y).length)) ((IsB.bytes _).take _) (by rw [List.length_take]; split <;> omega) ?_ | refine Bs.of ((evBytes y).take (min (evBytes x).length (evBytes y).length)) ((IsB.bytes _).take _) (by rw [List.length_take]; split <;> omega) ?_ | refine EqA.mk (Ev.vs zeroEv) (Ev.vs zeroEv) (zeroEv = zeroEv) rfl rfl (ev_eq zeroEv zeroEv) (Spl.yes rfl ?_) | refine EqA.mk (Ev.vs x) (Ev.vs y) (x = y) rfl rfl (ev_eq x y) ?_ | refine ARet.hdI ?_ | refine Spl.mk (fun _ => ?_) (fun _ => ?_) | refine Wr.b64 ?_ | refine Wr.bu64 ?_ | refine Wr.bu32 ?_ | refine Wr.bu8 ?_ | refine Wr.u8 (by omega) (by omega) ?_ | refine Wr.u64 (by omega) (by omega) ?_ | refine Wr.u32 (by omega) (by omega) ?_ | refine Dv.pos (by omega) (by omega) ?_ | refine Rm.pos (by omega) (by omega) ?_ | refine ADraw.quiet follows_ok (by kernel_rfl) rfl ?_ | refine ADraw.sched (id := 15) lay_ok (awp_snd lay_ok _) [(0, none), (1, none), (2, none), (3, none), (4, none), (5, none), (6, none), (7, none), (8, none), (9, none), (10, none), (11, none), (12, none), (13, none)] [] follows_ok (by kernel_rfl) ?_ | refine BSpl.decY (by first | assumption | omega) ?_ | refine BSpl.decN (by first | assumption | omega) ?_ | refine BSpl.dec (fun _ => ?_) (fun _ => ?_) | refine BSpl.yes (by assumption) ?_ | refine BSpl.no (by assumption) ?_ | refine BSpl.mk (fun _ => ?_) (fun _ => ?_))
  · refine ⟨⟨i + 1, by omega⟩, _, LeR.mk' [] _ _ _ rfl ⟨AEq.refl _, AEq.refl _, AEq.refl _, AEq.refl _, AEq.refl _, AEq.refl _, AEq.int (by dsimp only; omega), trivial⟩ ⟨⟨_, rfl, OEq.refl _⟩, ⟨_, rfl, OEq.refl _⟩, trivial⟩ rfl, ?_⟩
    show (evBytes x).length - (i + 1) < (evBytes x).length - i
    omega
  all_goals (conv => whnf)
  all_goals first
    | exact AEqI.mk (AEq.refl _)
    | (exfalso; rename_i h1 h2; exact h2 (hcut (Classical.byContradiction fun h => str_ne h h1)))
    | (exfalso; rename_i h1 h2; exact h1 (by rw [h2]))
end Go.Proofs.Ytbmojelnkldecaa
