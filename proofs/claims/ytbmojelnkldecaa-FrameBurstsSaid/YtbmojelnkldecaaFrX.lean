/-
  The statements FrameBack, FrameCuts, walked.
-/
import Derived.Test.YtbmojelnkldecaaFrW
import Derived.Test.YtbmojelnkldecaaCuts
namespace Go.Proofs.Ytbmojelnkldecaa
open Go.RowKit

theorem same07_yes (x : Rc) (ha : x.ev.length ≤ 1000000000) : ASpec Try.prog 32 [x.av, x.av] (.v (.bool true)) [] := same07_spec x x true (by simp) ha ha

theorem fr_inner (x : Rc) : (frBytes x).take ((frBytes x).length - 4) = vput (frBody x).length ++ frBody x := inner_seal _
theorem fr_inner1 (x : Rc) (h : mayF x = true) : (frBytes x).take ((frBytes x).length - 5) = vput (frBody x).length ++ (frBody x).take ((frBody x).length - 1) := by
  have h2 := frBody_len x h
  have hl : (frBytes x).length = (vput (frBody x).length).length + (frBody x).length + 4 := by unfold frBytes; rw [sealB_len, List.length_append]
  have : (frBytes x).take ((frBytes x).length - 5) = ((frBytes x).take ((frBytes x).length - 4)).take ((frBytes x).length - 5) := by rw [List.take_take]; congr 1; omega
  rw [this, fr_inner, hl, List.take_append, List.take_of_length_le (by omega)]
  congr 2
  omega

set_option maxHeartbeats 8000000 in
set_option maxRecDepth 100000 in
theorem frBack_spec (x : Rc) (b : List UInt8) (hr : ∀ e ∈ x.ev, e.key.size ≤ 140737488355328 ∧ e.v.size ≤ 140737488355328) (hl : x.ev.length ≤ 140737488355328) :
    ASpec Try.prog 7 [x.av, .sl 1 b.length true (bytesF b)] (.v (.bool true)) [] := by
  have hfit := fit07_spec x hr hl
  have hy := fitF_may x
  generalize fitF x = y at hfit hy
  have hput := frPut_sl y hy
  have h5 := frBytes_len y
  have hmx := frBytes_max y hy
  have hyl := (mayF_of hy).l
  have hbl := frBody_len y hy
  have htk := takeF_put y hy
  have hsame := same07_yes y (by omega)
  have hlen : (frBytes y).length = (vput (frBody y).length).length + (frBody y).length + 4 := by unfold frBytes; rw [sealB_len, List.length_append]
  have hv10 : (vput (frBody y).length).length ≤ 10 := vputF_le 9 _
  have hmore : takeF (sealB ([] ++ (frBytes y).take ((frBytes y).length - 4) ++ [byteOf' 0])) = (rc0, 3) := by
    refine takeF_other y hy _ ?_ (frBody y ++ [byteOf' 0]) ?_ (by simp)
    · rw [List.nil_append, List.length_append, List.length_take]; simp; omega
    · rw [List.nil_append, fr_inner, List.append_assoc]
  have hless : takeF (sealB ((frBytes y).take ((frBytes y).length - 5))) = (rc0, 3) := by
    refine takeF_other y hy _ ?_ ((frBody y).take ((frBody y).length - 1)) (fr_inner1 y hy) ?_
    · rw [List.length_take]; omega
    · rw [List.length_take]; omega
  generalize frBytes y = P at hput h5 hmx htk hlen hmore hless
  have hB : (b.take 2100).length ≤ 2100 := by rw [List.length_take]; omega
  have hshort := short07_spec b
  have hz := takeF_sealed (b.take 2100)
  generalize b.take 2100 = B at hB hshort hz
  have hs1 : ∀ {n : Nat} {F : Nat → List AV} (_ : IsB F ([] ++ P.take (P.length - 4) ++ [byteOf' 0])) (_ : n = ([] ++ P.take (P.length - 4) ++ [byteOf' 0]).length), _ := fun {n} {F} hF hn => seal_sl ([] ++ P.take (P.length - 4) ++ [byteOf' 0]) hF hn (by simp; omega)
  have hs2 : ∀ {n : Nat} {F : Nat → List AV} (_ : IsB F (P.take (P.length - 5))) (_ : n = (P.take (P.length - 5)).length), _ := fun {n} {F} hF hn => seal_sl (P.take (P.length - 5)) hF hn (by simp; omega)
  have hs3 := seal_sl B (IsB.bytes B) rfl (by omega)
  generalize sealB ([] ++ P.take (P.length - 4) ++ [byteOf' 0]) = S1 at hs1 hmore
  generalize sealB (P.take (P.length - 5)) = S2 at hs2 hless
  generalize sealB B = S3 at hs3 hz
  rcases hz with ⟨z, hz, hzm, hzb⟩ | ⟨e, hz, he⟩
  · have hzp := frPut_sl z hzm
    rw [hzb] at hzp
    refine aspec_of lay_ok 324538360699056445789059015487479 Try.func7 rfl rfl rfl ?_
    repeat' ((conv => whnf); first | refine Spl.yes (by first | assumption | omega) ?_ | refine Spl.no (by first | assumption | omega) ?_ | refine Wr.i64 (by omega) (by omega) ?_ | refine Still.mk rfl rfl ?_ | refine InB.mk (inB_mk (by omega) (by omega)) ?_ | refine Req.mk (by omega) ?_ | refine Req.mk ⟨by first | omega | (dsimp only; omega), by first | omega | (dsimp only; omega)⟩ ?_ | refine ACall.plain _ _ (shown07_spec) .nil rfl ?_ | refine ACall.plain _ _ (hfit) (SubL.cons (.eq _) .nil) rfl ?_ | refine ACall.plain _ _ (hput) (SubL.cons (.eq _) .nil) rfl ?_ | refine ACall.plain _ _ (hzp) (SubL.cons (.eq _) .nil) rfl ?_ | refine ACall.plain _ _ (frTake_any P htk (IsB.bytes _) rfl) (SubL.cons (.eq _) .nil) rfl ?_ | refine ACall.plain _ _ (frTake_any S1 hmore (IsB.bytes _) rfl) (SubL.cons (.eq _) .nil) rfl ?_ | refine ACall.plain _ _ (frTake_any S2 hless (IsB.bytes _) rfl) (SubL.cons (.eq _) .nil) rfl ?_ | refine ACall.plain _ _ (frTake_any S3 hz (IsB.bytes _) rfl) (SubL.cons (.eq _) .nil) rfl ?_ | refine ACall.plain _ _ (hsame) (SubL.cons (.eq _) (SubL.cons (.eq _) .nil)) rfl ?_ | refine ACall.plain _ _ (hs1 (IsB.app (IsB.app (IsB.nil _) ((IsB.bytes P).take (P.length - 4)) rfl) (IsB.one (x := 0) (by omega) (by omega)) (by simp <;> omega)) (by simp <;> omega)) (SubL.cons (.eq _) .nil) rfl ?_ | refine ACall.plain _ _ (hs2 ((IsB.bytes P).take (P.length - 5)) (by rw [List.length_take]; omega)) (SubL.cons (.eq _) .nil) rfl ?_ | refine ACall.plain _ _ (hshort) (SubL.cons (.eq _) .nil) rfl ?_ | refine ACall.plain _ _ (hs3) (SubL.cons (.eq _) .nil) rfl ?_ | refine Bs.of S3 (IsB.bytes _) rfl ?_ | refine Spl.yes rfl ?_ | refine ARet.hdI ?_ | refine Spl.mk (fun _ => ?_) (fun _ => ?_) | refine Wr.b64 ?_ | refine Wr.bu64 ?_ | refine Wr.bu32 ?_ | refine Wr.bu8 ?_ | refine Wr.u8 (by omega) (by omega) ?_ | refine Wr.u64 (by omega) (by omega) ?_ | refine Wr.u32 (by omega) (by omega) ?_ | refine Dv.pos (by omega) (by omega) ?_ | refine Rm.pos (by omega) (by omega) ?_ | refine ADraw.quiet follows_ok (by kernel_rfl) rfl ?_ | refine BSpl.decY (by first | assumption | omega) ?_ | refine BSpl.decN (by first | assumption | omega) ?_ | refine BSpl.dec (fun _ => ?_) (fun _ => ?_) | refine BSpl.yes (by assumption) ?_ | refine BSpl.no (by assumption) ?_ | refine BSpl.mk (fun _ => ?_) (fun _ => ?_))
    all_goals (conv => whnf)
    all_goals exact AEqI.mk (AEq.refl _)
  · refine aspec_of lay_ok 324538360699056445789059015487479 Try.func7 rfl rfl rfl ?_
    repeat' ((conv => whnf); first | refine Spl.yes (by first | assumption | omega) ?_ | refine Spl.no (by first | assumption | omega) ?_ | refine Wr.i64 (by omega) (by omega) ?_ | refine Still.mk rfl rfl ?_ | refine InB.mk (inB_mk (by omega) (by omega)) ?_ | refine Req.mk (by omega) ?_ | refine Req.mk ⟨by first | omega | (dsimp only; omega), by first | omega | (dsimp only; omega)⟩ ?_ | refine ACall.plain _ _ (shown07_spec) .nil rfl ?_ | refine ACall.plain _ _ (hfit) (SubL.cons (.eq _) .nil) rfl ?_ | refine ACall.plain _ _ (hput) (SubL.cons (.eq _) .nil) rfl ?_ | refine ACall.plain _ _ (frTake_any P htk (IsB.bytes _) rfl) (SubL.cons (.eq _) .nil) rfl ?_ | refine ACall.plain _ _ (frTake_any S1 hmore (IsB.bytes _) rfl) (SubL.cons (.eq _) .nil) rfl ?_ | refine ACall.plain _ _ (frTake_any S2 hless (IsB.bytes _) rfl) (SubL.cons (.eq _) .nil) rfl ?_ | refine ACall.plain _ _ (frTake_any S3 hz (IsB.bytes _) rfl) (SubL.cons (.eq _) .nil) rfl ?_ | refine ACall.plain _ _ (hsame) (SubL.cons (.eq _) (SubL.cons (.eq _) .nil)) rfl ?_ | refine ACall.plain _ _ (hs1 (IsB.app (IsB.app (IsB.nil _) ((IsB.bytes P).take (P.length - 4)) rfl) (IsB.one (x := 0) (by omega) (by omega)) (by simp <;> omega)) (by simp <;> omega)) (SubL.cons (.eq _) .nil) rfl ?_ | refine ACall.plain _ _ (hs2 ((IsB.bytes P).take (P.length - 5)) (by rw [List.length_take]; omega)) (SubL.cons (.eq _) .nil) rfl ?_ | refine ACall.plain _ _ (hshort) (SubL.cons (.eq _) .nil) rfl ?_ | refine ACall.plain _ _ (hs3) (SubL.cons (.eq _) .nil) rfl ?_ | refine ARet.hdI ?_ | refine Spl.mk (fun _ => ?_) (fun _ => ?_) | refine Wr.b64 ?_ | refine Wr.bu64 ?_ | refine Wr.bu32 ?_ | refine Wr.bu8 ?_ | refine Wr.u8 (by omega) (by omega) ?_ | refine Wr.u64 (by omega) (by omega) ?_ | refine Wr.u32 (by omega) (by omega) ?_ | refine Dv.pos (by omega) (by omega) ?_ | refine Rm.pos (by omega) (by omega) ?_ | refine ADraw.quiet follows_ok (by kernel_rfl) rfl ?_ | refine BSpl.decY (by first | assumption | omega) ?_ | refine BSpl.decN (by first | assumption | omega) ?_ | refine BSpl.dec (fun _ => ?_) (fun _ => ?_) | refine BSpl.yes (by assumption) ?_ | refine BSpl.no (by assumption) ?_ | refine BSpl.mk (fun _ => ?_) (fun _ => ?_))
    all_goals (conv => whnf)
    all_goals exact AEqI.mk (AEq.refl _)

theorem takeF_small {l : List UInt8} (h : l.length < 4) : takeF l = (rc0, 4) := by
  unfold takeF
  rw [if_neg (by omega), if_neg (fun k => by have := k.1; omega)]

set_option maxHeartbeats 8000000 in
set_option maxRecDepth 100000 in
theorem frCuts_spec (a : Rc) (n : Int) (hn : 0 ≤ n ∧ n ≤ 65535) (hra : ∀ e ∈ a.ev, e.key.size ≤ 140737488355328 ∧ e.v.size ≤ 140737488355328) (hla : a.ev.length ≤ 140737488355328) :
    ASpec Try.prog 11 [a.av, .v (.int .u16 n)] (.v (.bool true)) [] := by
  have hfa := fit07_spec a hra hla
  have hx := fitF_may a
  generalize fitF a = x at hfa hx
  have hpa := frPut_sl x hx
  have h5 := frBytes_len x
  have hmx := frBytes_max x hx
  generalize frBytes x = P at hpa h5 hmx
  obtain ⟨j, hj, hj0⟩ : ∃ j : Nat, n % 4 = (j : Int) ∧ j < 4 := ⟨(n % 4).toNat, by omega, by omega⟩
  obtain ⟨i, hi, hi0⟩ : ∃ i : Nat, n % ((P.length : Int) - 4) = (i : Int) ∧ i < P.length - 4 := by
    have h1 := Int.emod_nonneg n (b := (P.length : Int) - 4) (by omega)
    have h2 := Int.emod_lt_of_pos n (b := (P.length : Int) - 4) (by omega)
    exact ⟨(n % ((P.length : Int) - 4)).toNat, by omega, by omega⟩
  have hsm : takeF (P.take j) = (rc0, 4) := takeF_small (by rw [List.length_take]; omega)
  have hln : (P.take (4 + i)).length = 4 + i := by rw [List.length_take]; omega
  rcases takeF_ways (P.take (4 + i)) (by rw [hln]; omega) with ⟨z, hz, hzm, hzb⟩ | hz | hz
  · have hzp := frPut_sl z hzm
    rw [hzb] at hzp
    refine aspec_of lay_ok 36028799166463735 Try.func11 rfl rfl rfl ?_
    repeat' ((conv => whnf); first | refine Spl.yes (by first | assumption | omega) ?_ | refine Spl.no (by first | assumption | omega) ?_ | refine Wr.i64 (by omega) (by omega) ?_ | refine Still.mk rfl rfl ?_ | refine InB.mk (inB_mk (by omega) (by omega)) ?_ | refine Req.mk (by omega) ?_ | refine Req.mk ⟨by first | omega | (dsimp only; omega), by first | omega | (dsimp only; omega)⟩ ?_ | refine ACall.plain _ _ (shown07_spec) .nil rfl ?_ | refine ACall.plain _ _ (hfa) (SubL.cons (.eq _) .nil) rfl ?_ | refine ACall.plain _ _ (hpa) (SubL.cons (.eq _) .nil) rfl ?_ | refine ACall.plain _ _ (hzp) (SubL.cons (.eq _) .nil) rfl ?_ | refine ACall.plain _ _ (frTake_any (P.take j) hsm ((IsB.bytes _).take j) (by rw [List.length_take]; omega)) (SubL.cons (.eq _) .nil) rfl ?_ | refine ACall.plain _ _ (frTake_any (P.take (4 + i)) hz ((IsB.bytes _).take (4 + i)) (by rw [List.length_take]; omega)) (SubL.cons (.eq _) .nil) rfl ?_ | refine Bs.of (P.take (4 + i)) (IsB.bytes _) rfl ?_ | refine Bs.of (P.take (4 + i)) ((IsB.bytes _).take _) (by omega) ?_ | refine Rm.is (c := (j : Int)) (by omega) (by omega) hj ?_ | refine Rm.is (c := (i : Int)) (by omega) (by omega) hi ?_ | refine Spl.yes rfl ?_ | refine ARet.hdI ?_ | refine Spl.mk (fun _ => ?_) (fun _ => ?_) | refine Wr.b64 ?_ | refine Wr.bu64 ?_ | refine Wr.bu32 ?_ | refine Wr.bu8 ?_ | refine Wr.u8 (by omega) (by omega) ?_ | refine Wr.u64 (by omega) (by omega) ?_ | refine Wr.u32 (by omega) (by omega) ?_ | refine Dv.pos (by omega) (by omega) ?_ | refine Rm.pos (by omega) (by omega) ?_ | refine ADraw.quiet follows_ok (by kernel_rfl) rfl ?_ | refine ADraw.sched (id := 9) lay_ok (awp_snd lay_ok _) [(0, none), (1, none), (2, none), (3, none), (4, none), (5, none), (6, none), (7, none), (8, none), (9, none), (10, none), (11, none), (12, none), (13, none), (14, none), (15, none), (16, none), (17, none)] [] follows_ok (by kernel_rfl) ?_ | refine BSpl.decY (by first | assumption | omega) ?_ | refine BSpl.decN (by first | assumption | omega) ?_ | refine BSpl.dec (fun _ => ?_) (fun _ => ?_) | refine BSpl.yes (by assumption) ?_ | refine BSpl.no (by assumption) ?_ | refine BSpl.mk (fun _ => ?_) (fun _ => ?_))
    all_goals (conv => whnf)
    all_goals exact AEqI.mk (AEq.refl _)
  all_goals
    refine aspec_of lay_ok 36028799166463735 Try.func11 rfl rfl rfl ?_
    repeat' ((conv => whnf); first | refine Spl.yes (by first | assumption | omega) ?_ | refine Spl.no (by first | assumption | omega) ?_ | refine Wr.i64 (by omega) (by omega) ?_ | refine Still.mk rfl rfl ?_ | refine InB.mk (inB_mk (by omega) (by omega)) ?_ | refine Req.mk (by omega) ?_ | refine Req.mk ⟨by first | omega | (dsimp only; omega), by first | omega | (dsimp only; omega)⟩ ?_ | refine ACall.plain _ _ (shown07_spec) .nil rfl ?_ | refine ACall.plain _ _ (hfa) (SubL.cons (.eq _) .nil) rfl ?_ | refine ACall.plain _ _ (hpa) (SubL.cons (.eq _) .nil) rfl ?_ | refine ACall.plain _ _ (frTake_any (P.take j) hsm ((IsB.bytes _).take j) (by rw [List.length_take]; omega)) (SubL.cons (.eq _) .nil) rfl ?_ | refine ACall.plain _ _ (frTake_any (P.take (4 + i)) hz ((IsB.bytes _).take (4 + i)) (by rw [List.length_take]; omega)) (SubL.cons (.eq _) .nil) rfl ?_ | refine Rm.is (c := (j : Int)) (by omega) (by omega) hj ?_ | refine Rm.is (c := (i : Int)) (by omega) (by omega) hi ?_ | refine ARet.hdI ?_ | refine Spl.mk (fun _ => ?_) (fun _ => ?_) | refine Wr.b64 ?_ | refine Wr.bu64 ?_ | refine Wr.bu32 ?_ | refine Wr.bu8 ?_ | refine Wr.u8 (by omega) (by omega) ?_ | refine Wr.u64 (by omega) (by omega) ?_ | refine Wr.u32 (by omega) (by omega) ?_ | refine Dv.pos (by omega) (by omega) ?_ | refine Rm.pos (by omega) (by omega) ?_ | refine ADraw.quiet follows_ok (by kernel_rfl) rfl ?_ | refine ADraw.sched (id := 9) lay_ok (awp_snd lay_ok _) [(0, none), (1, none), (2, none), (3, none), (4, none), (5, none), (6, none), (7, none), (8, none), (9, none), (10, none), (11, none), (12, none), (13, none), (14, none), (15, none), (16, none), (17, none)] [] follows_ok (by kernel_rfl) ?_ | refine BSpl.decY (by first | assumption | omega) ?_ | refine BSpl.decN (by first | assumption | omega) ?_ | refine BSpl.dec (fun _ => ?_) (fun _ => ?_) | refine BSpl.yes (by assumption) ?_ | refine BSpl.no (by assumption) ?_ | refine BSpl.mk (fun _ => ?_) (fun _ => ?_))
    all_goals (conv => whnf)
    all_goals exact AEqI.mk (AEq.refl _)
end Go.Proofs.Ytbmojelnkldecaa
