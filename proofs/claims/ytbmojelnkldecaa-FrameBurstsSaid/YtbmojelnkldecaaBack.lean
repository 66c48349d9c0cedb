/-
  The statement EventBack, walked.
-/
import Derived.Test.YtbmojelnkldecaaEvW
import Derived.Test.YtbmojelnkldecaaTkF
import Derived.Test.YtbmojelnkldecaaEvEq
import Derived.Test.YtbmojelnkldecaaFitP
namespace Go.Proofs.Ytbmojelnkldecaa
open Go.RowKit

def exEv : Ev := ⟨1, 1, ⟨0, 0, 0, 0, 0⟩, 1, 1, ⟨#[99, 121]⟩, 0, ⟨#[]⟩⟩
theorem exEv_may : mayE exEv = 0 := by decide
theorem exEv_bytes : evBytes exEv = [1, 1, 1, 0, 0, 0, 0, 1, 2, 99, 121] := by decide
theorem exEv_put (d : Nat) : ASpec Try.prog 18 [exEv.av] (.tup [.own d, .v (.int .i64 0)]) [(d, .row 5 1 11 true (bytesF [1, 1, 1, 0, 0, 0, 0, 1, 2, 99, 121]))] := by
  have := put_yes_spec d exEv exEv_may
  rw [exEv_bytes] at this
  exact this
set_option maxRecDepth 100000 in
theorem shown06_spec : ASpec Try.prog 16 [] (.v (.bool true)) [] := by
  refine aspec_of lay_ok 7 Try.func16 rfl rfl rfl ?_
  repeat' ((conv => whnf); first | refine Spl.yes (by first | assumption | omega) ?_ | refine Spl.no (by first | assumption | omega) ?_ | refine Wr.i64 (by omega) (by omega) ?_ | refine Still.mk rfl rfl ?_ | refine InB.mk (inB_mk (by omega) (by omega)) ?_ | refine Req.mk (by omega) ?_ | refine Req.mk ⟨by first | omega | (dsimp only; omega), by first | omega | (dsimp only; omega)⟩ ?_ | refine ACall.fresh _ _ _ _ _ _ _ (exEv_put _) (SubL.cons (.eq _) .nil) rfl ?_ | refine Bs.of _ (IsB.bytes _) rfl ?_ | refine Spl.yes rfl ?_ | refine ARet.hdI ?_ | refine Spl.mk (fun _ => ?_) (fun _ => ?_) | refine Wr.b64 ?_ | refine Wr.bu64 ?_ | refine Wr.bu32 ?_ | refine Wr.bu8 ?_ | refine Wr.u8 (by omega) (by omega) ?_ | refine Wr.u64 (by omega) (by omega) ?_ | refine Wr.u32 (by omega) (by omega) ?_ | refine Dv.pos (by omega) (by omega) ?_ | refine Rm.pos (by omega) (by omega) ?_ | refine ADraw.quiet follows_ok (by kernel_rfl) rfl ?_ | refine BSpl.decY (by first | assumption | omega) ?_ | refine BSpl.decN (by first | assumption | omega) ?_ | refine BSpl.dec (fun _ => ?_) (fun _ => ?_) | refine BSpl.yes (by assumption) ?_ | refine BSpl.no (by assumption) ?_ | refine BSpl.mk (fun _ => ?_) (fun _ => ?_))
  conv => whnf
  exact AEqI.mk (AEq.refl _)

set_option maxRecDepth 100000 in
theorem few06_spec (l : List UInt8) : ASpec Try.prog 20 [.sl 1 l.length true (bytesF l)] (.sl 1 (l.take 80).length true (bytesF (l.take 80))) [] := by
  have hl : (if (80 : Int) < (l.length : Int) then (80 : Int) else (l.length : Int)).toNat = (l.take 80).length := by
    rw [List.length_take]
    split <;> omega
  refine aspec_of lay_ok 5 Try.func20 rfl rfl rfl ?_
  repeat' ((conv => whnf); first | refine Spl.yes (by first | assumption | omega) ?_ | refine Spl.no (by first | assumption | omega) ?_ | refine Wr.i64 (by omega) (by omega) ?_ | refine Still.mk rfl rfl ?_ | refine InB.mk (inB_mk (by omega) (by omega)) ?_ | refine Req.mk (by omega) ?_ | refine Req.mk ⟨by first | omega | (dsimp only; omega), by first | omega | (dsimp only; omega)⟩ ?_ | refine ARet.hdI ?_ | refine InB.mk (inB_mk (by split <;> omega) (by split <;> omega)) ?_ | refine Spl.mk (fun _ => ?_) (fun _ => ?_) | refine Wr.b64 ?_ | refine Wr.bu64 ?_ | refine Wr.bu32 ?_ | refine Wr.bu8 ?_ | refine Wr.u8 (by omega) (by omega) ?_ | refine Wr.u64 (by omega) (by omega) ?_ | refine Wr.u32 (by omega) (by omega) ?_ | refine Dv.pos (by omega) (by omega) ?_ | refine Rm.pos (by omega) (by omega) ?_ | refine ADraw.quiet follows_ok (by kernel_rfl) rfl ?_ | refine BSpl.decY (by first | assumption | omega) ?_ | refine BSpl.decN (by first | assumption | omega) ?_ | refine BSpl.dec (fun _ => ?_) (fun _ => ?_) | refine BSpl.yes (by assumption) ?_ | refine BSpl.no (by assumption) ?_ | refine BSpl.mk (fun _ => ?_) (fun _ => ?_))
  conv => whnf
  refine AEqI.mk ?_
  rw [hl]
  exact AEq.isB ((IsB.bytes l).take 80) rfl

set_option maxHeartbeats 8000000 in
set_option maxRecDepth 100000 in
theorem back_spec (a : Ev) (behind l : List UInt8) (hk : a.key.size ≤ 140737488355328) (hv : a.v.size ≤ 140737488355328) :
    ASpec Try.prog 3 [a.av, .sl 1 behind.length true (bytesF behind), .sl 1 l.length true (bytesF l)] (.v (.bool true)) [] := by
  have hx := fitE_may a
  have hfit := fit06_spec a hk hv
  generalize fitE a = x at hx hfit
  have h44 := evBytes_len hx
  have ht1 : takeE ([] ++ evBytes x ++ behind.take 80) = (x, (evBytes x).length, 0) := by rw [List.nil_append]; exact takeE_put x hx (behind.take 80)
  have hb80 : (behind.take 80).length ≤ 80 := by rw [List.length_take]; omega
  have hl80 : (l.take 80).length ≤ 80 := by rw [List.length_take]; omega
  rcases takeE_ways (l.take 80) with ⟨z, m, ht2, hz, hm, hmb, hml⟩ | ht2 | ht2
  · have hz44 := evBytes_len hz
    refine aspec_of lay_ok 75557864007389301178319 Try.func3 rfl rfl rfl ?_
    repeat' ((conv => whnf); first | refine Spl.yes (by first | assumption | omega) ?_ | refine Spl.no (by first | assumption | omega) ?_ | refine Wr.i64 (by omega) (by omega) ?_ | refine Still.mk rfl rfl ?_ | refine InB.mk (inB_mk (by omega) (by omega)) ?_ | refine Req.mk (by omega) ?_ | refine Req.mk ⟨by first | omega | (dsimp only; omega), by first | omega | (dsimp only; omega)⟩ ?_ | refine ACall.plain _ _ (shown06_spec) .nil rfl ?_ | refine ACall.plain _ _ (hfit) (SubL.cons (.eq _) .nil) rfl ?_ | refine ACall.fresh _ _ _ _ _ _ _ (put_yes_spec _ x hx) (SubL.cons (.eq _) .nil) rfl ?_ | refine ACall.fresh _ _ _ _ _ _ _ (put_yes_spec _ z hz) (SubL.cons (.eq _) .nil) rfl ?_ | refine ACall.plain _ _ (few06_spec _) (SubL.cons (.eq _) .nil) rfl ?_ | refine ACall.plain _ _ (take_any ([] ++ evBytes x ++ behind.take 80) ht1 (IsB.app (IsB.app (IsB.nil _) (IsB.bytes _) rfl) (IsB.bytes _) (by simp)) (by simp <;> omega) (by simp <;> omega)) (SubL.cons (.eq _) .nil) rfl ?_ | refine ACall.plain _ _ (take_any (l.take 80) ht2 (IsB.bytes _) rfl (by omega)) (SubL.cons (.eq _) .nil) rfl ?_ | refine Bs.of _ (IsB.bytes _) rfl ?_ | refine Bs.of ((l.take 80).take m) ((IsB.bytes _).take m) (by rw [List.length_take]; omega) ?_ | refine Spl.yes (by rw [hmb]) ?_ | refine EqA.mk (Ev.vs x) (Ev.vs x) (x = x) rfl rfl (ev_eq x x) (Spl.yes rfl ?_) | refine ARet.hdI ?_ | refine Spl.mk (fun _ => ?_) (fun _ => ?_) | refine Wr.b64 ?_ | refine Wr.bu64 ?_ | refine Wr.bu32 ?_ | refine Wr.bu8 ?_ | refine Wr.u8 (by omega) (by omega) ?_ | refine Wr.u64 (by omega) (by omega) ?_ | refine Wr.u32 (by omega) (by omega) ?_ | refine Dv.pos (by omega) (by omega) ?_ | refine Rm.pos (by omega) (by omega) ?_ | refine ADraw.quiet follows_ok (by kernel_rfl) rfl ?_ | refine ADraw.sched (id := 9) lay_ok (awp_snd lay_ok _) [(0, none), (1, none), (2, none), (3, none), (4, none), (5, none), (6, none), (7, none), (8, none), (9, none), (10, none), (11, none), (12, none), (13, none), (14, none), (15, none), (16, none), (17, none), (18, none), (19, none), (20, none), (21, none), (22, none)] [] follows_ok (by kernel_rfl) ?_ | refine BSpl.decY (by first | assumption | omega) ?_ | refine BSpl.decN (by first | assumption | omega) ?_ | refine BSpl.dec (fun _ => ?_) (fun _ => ?_) | refine BSpl.yes (by assumption) ?_ | refine BSpl.no (by assumption) ?_ | refine BSpl.mk (fun _ => ?_) (fun _ => ?_))
    conv => whnf
    exact AEqI.mk (AEq.refl _)
  · refine aspec_of lay_ok 75557864007389301178319 Try.func3 rfl rfl rfl ?_
    repeat' ((conv => whnf); first | refine Spl.yes (by first | assumption | omega) ?_ | refine Spl.no (by first | assumption | omega) ?_ | refine Wr.i64 (by omega) (by omega) ?_ | refine Still.mk rfl rfl ?_ | refine InB.mk (inB_mk (by omega) (by omega)) ?_ | refine Req.mk (by omega) ?_ | refine Req.mk ⟨by first | omega | (dsimp only; omega), by first | omega | (dsimp only; omega)⟩ ?_ | refine ACall.plain _ _ (shown06_spec) .nil rfl ?_ | refine ACall.plain _ _ (hfit) (SubL.cons (.eq _) .nil) rfl ?_ | refine ACall.fresh _ _ _ _ _ _ _ (put_yes_spec _ x hx) (SubL.cons (.eq _) .nil) rfl ?_ | refine ACall.plain _ _ (few06_spec _) (SubL.cons (.eq _) .nil) rfl ?_ | refine ACall.plain _ _ (take_any ([] ++ evBytes x ++ behind.take 80) ht1 (IsB.app (IsB.app (IsB.nil _) (IsB.bytes _) rfl) (IsB.bytes _) (by simp)) (by simp <;> omega) (by simp <;> omega)) (SubL.cons (.eq _) .nil) rfl ?_ | refine ACall.plain _ _ (take_any (l.take 80) ht2 (IsB.bytes _) rfl (by omega)) (SubL.cons (.eq _) .nil) rfl ?_ | refine Bs.of _ (IsB.bytes _) rfl ?_ | refine EqA.mk (Ev.vs x) (Ev.vs x) (x = x) rfl rfl (ev_eq x x) (Spl.yes rfl ?_) | refine EqA.mk (Ev.vs zeroEv) (Ev.vs zeroEv) (zeroEv = zeroEv) rfl rfl (ev_eq zeroEv zeroEv) (Spl.yes rfl ?_) | refine ARet.hdI ?_ | refine Spl.mk (fun _ => ?_) (fun _ => ?_) | refine Wr.b64 ?_ | refine Wr.bu64 ?_ | refine Wr.bu32 ?_ | refine Wr.bu8 ?_ | refine Wr.u8 (by omega) (by omega) ?_ | refine Wr.u64 (by omega) (by omega) ?_ | refine Wr.u32 (by omega) (by omega) ?_ | refine Dv.pos (by omega) (by omega) ?_ | refine Rm.pos (by omega) (by omega) ?_ | refine ADraw.quiet follows_ok (by kernel_rfl) rfl ?_ | refine ADraw.sched (id := 9) lay_ok (awp_snd lay_ok _) [(0, none), (1, none), (2, none), (3, none), (4, none), (5, none), (6, none), (7, none), (8, none), (9, none), (10, none), (11, none), (12, none), (13, none), (14, none), (15, none), (16, none), (17, none), (18, none), (19, none), (20, none), (21, none), (22, none)] [] follows_ok (by kernel_rfl) ?_ | refine BSpl.decY (by first | assumption | omega) ?_ | refine BSpl.decN (by first | assumption | omega) ?_ | refine BSpl.dec (fun _ => ?_) (fun _ => ?_) | refine BSpl.yes (by assumption) ?_ | refine BSpl.no (by assumption) ?_ | refine BSpl.mk (fun _ => ?_) (fun _ => ?_))
    conv => whnf
    exact AEqI.mk (AEq.refl _)
  · refine aspec_of lay_ok 75557864007389301178319 Try.func3 rfl rfl rfl ?_
    repeat' ((conv => whnf); first | refine Spl.yes (by first | assumption | omega) ?_ | refine Spl.no (by first | assumption | omega) ?_ | refine Wr.i64 (by omega) (by omega) ?_ | refine Still.mk rfl rfl ?_ | refine InB.mk (inB_mk (by omega) (by omega)) ?_ | refine Req.mk (by omega) ?_ | refine Req.mk ⟨by first | omega | (dsimp only; omega), by first | omega | (dsimp only; omega)⟩ ?_ | refine ACall.plain _ _ (shown06_spec) .nil rfl ?_ | refine ACall.plain _ _ (hfit) (SubL.cons (.eq _) .nil) rfl ?_ | refine ACall.fresh _ _ _ _ _ _ _ (put_yes_spec _ x hx) (SubL.cons (.eq _) .nil) rfl ?_ | refine ACall.plain _ _ (few06_spec _) (SubL.cons (.eq _) .nil) rfl ?_ | refine ACall.plain _ _ (take_any ([] ++ evBytes x ++ behind.take 80) ht1 (IsB.app (IsB.app (IsB.nil _) (IsB.bytes _) rfl) (IsB.bytes _) (by simp)) (by simp <;> omega) (by simp <;> omega)) (SubL.cons (.eq _) .nil) rfl ?_ | refine ACall.plain _ _ (take_any (l.take 80) ht2 (IsB.bytes _) rfl (by omega)) (SubL.cons (.eq _) .nil) rfl ?_ | refine Bs.of _ (IsB.bytes _) rfl ?_ | refine EqA.mk (Ev.vs x) (Ev.vs x) (x = x) rfl rfl (ev_eq x x) (Spl.yes rfl ?_) | refine EqA.mk (Ev.vs zeroEv) (Ev.vs zeroEv) (zeroEv = zeroEv) rfl rfl (ev_eq zeroEv zeroEv) (Spl.yes rfl ?_) | refine ARet.hdI ?_ | refine Spl.mk (fun _ => ?_) (fun _ => ?_) | refine Wr.b64 ?_ | refine Wr.bu64 ?_ | refine Wr.bu32 ?_ | refine Wr.bu8 ?_ | refine Wr.u8 (by omega) (by omega) ?_ | refine Wr.u64 (by omega) (by omega) ?_ | refine Wr.u32 (by omega) (by omega) ?_ | refine Dv.pos (by omega) (by omega) ?_ | refine Rm.pos (by omega) (by omega) ?_ | refine ADraw.quiet follows_ok (by kernel_rfl) rfl ?_ | refine ADraw.sched (id := 9) lay_ok (awp_snd lay_ok _) [(0, none), (1, none), (2, none), (3, none), (4, none), (5, none), (6, none), (7, none), (8, none), (9, none), (10, none), (11, none), (12, none), (13, none), (14, none), (15, none), (16, none), (17, none), (18, none), (19, none), (20, none), (21, none), (22, none)] [] follows_ok (by kernel_rfl) ?_ | refine BSpl.decY (by first | assumption | omega) ?_ | refine BSpl.decN (by first | assumption | omega) ?_ | refine BSpl.dec (fun _ => ?_) (fun _ => ?_) | refine BSpl.yes (by assumption) ?_ | refine BSpl.no (by assumption) ?_ | refine BSpl.mk (fun _ => ?_) (fun _ => ?_))
    conv => whnf
    exact AEqI.mk (AEq.refl _)
end Go.Proofs.Ytbmojelnkldecaa
