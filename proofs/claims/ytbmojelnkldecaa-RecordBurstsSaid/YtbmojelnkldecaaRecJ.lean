/-
  The statements RecordJoins and RecordCuts, walked.
-/
import Derived.Test.YtbmojelnkldecaaRefD
namespace Go.Proofs.Ytbmojelnkldecaa
open Go.RowKit

theorem first_nil : firstF [] = none := by unfold firstF; rw [if_pos (.inl (by decide))]
theorem first_128 : firstF [byteOf' 128] = none := by unfold firstF; rw [if_pos (.inl (by decide))]
theorem first_cut (x : Rc) (h : mayR x = true) (i : Nat) (hi : i < (rcBytes x).length) : firstF ((rcBytes x).take i) = none := by
  have hb := rcBody_len x h
  have hs := sealB_len (rcBody x)
  have hl : (rcBytes x).length = (vput (sealB (rcBody x)).length).length + (sealB (rcBody x)).length := by unfold rcBytes; rw [List.length_append]
  unfold firstF
  by_cases hc : i < (vput (sealB (rcBody x)).length).length
  · have e : (rcBytes x).take i = (vput (sealB (rcBody x)).length).take i := by unfold rcBytes; rw [List.take_append_of_le_length (by omega)]
    rw [e, vtake_cut hc, if_pos (.inl (by decide))]
  · have e : (rcBytes x).take i = vput (sealB (rcBody x)).length ++ (sealB (rcBody x)).take (i - (vput (sealB (rcBody x)).length).length) := by
      unfold rcBytes
      rw [List.take_append, List.take_of_length_le (by omega)]
    rw [e, vtake_put _ _ (by omega)]
    rw [if_pos (.inr (by rw [List.length_append, List.length_take]; dsimp only; omega))]

theorem rcsB_app (a b : List Rc) : rcsB (a ++ b) = rcsB a ++ rcsB b := List.flatMap_append ..
theorem recs_of {W : List Rc} (hm : ∀ r ∈ W, mayR r = true) {t : List UInt8} (ht : firstF t = none) : Recs (rcsB W ++ t) W t := ⟨hm, rfl, ht⟩
theorem recs_self {W : List Rc} (hm : ∀ r ∈ W, mayR r = true) : Recs (rcsB W) W [] := ⟨hm, (List.append_nil _).symm, first_nil⟩
theorem recs_cut {W : List Rc} (hm : ∀ r ∈ W, mayR r = true) {k M : Nat} (hM : M ≤ W.length) (h1 : (rcsB (W.take M)).length ≤ k) (h2 : M = W.length ∨ k < (rcsB (W.take (M + 1))).length) : ∃ t, Recs ((rcsB W).take k) (W.take M) t := by
  have e : rcsB W = rcsB (W.take M) ++ rcsB (W.drop M) := by rw [← rcsB_app, List.take_append_drop]
  refine ⟨(rcsB (W.drop M)).take (k - (rcsB (W.take M)).length), fun r hr => hm r (List.mem_of_mem_take hr), ?_, ?_⟩
  · conv => lhs; rw [e]
    rw [List.take_append, List.take_of_length_le (by omega)]
  · by_cases hl : M = W.length
    · rw [List.drop_of_length_le (by omega), show rcsB [] = [] from rfl, List.take_nil]
      exact first_nil
    · have hlt : M < W.length := by omega
      have h3 : k < (rcsB (W.take (M + 1))).length := by omega
      rw [recs_take hlt, List.length_append] at h3
      have hd : W.drop M = W.getD M default :: W.drop (M + 1) := by rw [List.getD, List.getElem?_eq_getElem hlt]; exact List.drop_eq_getElem_cons hlt
      rw [hd]
      show firstF ((rcBytes (W.getD M default) ++ rcsB (W.drop (M + 1))).take _) = none
      rw [List.take_append_of_le_length (by omega)]
      refine first_cut _ (hm _ ?_) _ (by omega)
      rw [List.getD, List.getElem?_eq_getElem hlt]
      exact List.getElem_mem _

/-- A row's cells are a list's records. -/
def IsR (F : Nat → List AV) (l : List Rc) : Prop := ∀ i, i < l.length → F i = rcF l i
theorem IsR.nil (F : Nat → List AV) : IsR F [] := fun i h => absurd h (by simp)
theorem IsR.els (l : List Rc) : IsR (rcF l) l := fun _ _ => rfl
theorem IsR.take {F : Nat → List AV} {l : List Rc} (h : IsR F l) (k : Nat) : IsR F (l.take k) := by
  intro i hi
  rw [List.length_take] at hi
  rw [h i (by omega)]
  show Rc.cs _ = Rc.cs _
  rw [List.getD, List.getD, List.getElem?_take_of_lt (by omega)]
theorem IsR.app {F G : Nat → List AV} {l l' : List Rc} {n : Nat} (h : IsR F l) (h' : IsR G l') (hn : n = l.length) : IsR (appF n F G) (l ++ l') := by
  intro i hi
  rw [List.length_append] at hi
  show _ = elsF Rc.cs (l ++ l') i
  rw [← els_app hn]
  unfold appF
  cases hb : Nat.ble n i with
  | true =>
    have := Nat.le_of_ble_eq_true hb
    exact h' (i - n) (by omega)
  | false =>
    have : i < n := Nat.lt_of_not_le fun h => by rw [Nat.ble_eq_true_of_le h] at hb; cases hb
    exact h i (by omega)
theorem Ch.isR {n : Nat} {sc : Bool} {F : Nat → List AV} {l : List Rc} {xs ys : List AV} (hF : IsR F l) (hn : n = l.length) (k : Ch xs ys) : Ch (.sl 9 n sc F :: xs) (.sl 9 l.length sc (rcF l) :: ys) :=
  .of (fun X u hu => AEq.sl (sc := sc) hn (fun i hi => hF i (by omega)) X u hu) k

theorem may_ev {W : List Rc} (hm : ∀ r ∈ W, mayR r = true) : ∀ r ∈ W, r.ev.length ≤ 1000000000 := fun r hr => by have := (mayR_of (hm r hr)).l; omega
theorem same18_self {n : Nat} {F : Nat → List AV} (W : List Rc) (hm : ∀ r ∈ W, mayR r = true) (hl : W.length ≤ 1000000000) (hF : IsR F W) (hn : n = W.length) : ASpec Try.prog 40 [.sl 9 W.length false (rcF W), .sl 9 n false F] (.v (.bool true)) [] :=
  (same18_spec W W true (by simp) hl hl (may_ev hm) (may_ev hm)).args (.same (.isR hF hn .nil))

set_option maxHeartbeats 8000000 in
set_option maxRecDepth 100000 in
theorem rcJoins_spec (a b : List Rc) (ha : ∀ r ∈ a, r.rng) (hla : a.length ≤ 140737488355328) (hb : ∀ r ∈ b, r.rng) (hlb : b.length ≤ 140737488355328) :
    ASpec Try.prog 15 [.sl 9 a.length false (rcF a), .sl 9 b.length false (rcF b)] (.v (.bool true)) [] := by
  have hA := made_spec a ha hla
  have hX : ∀ r ∈ madeF a, mayR r = true := made_may
  have hXl : (madeF a).length ≤ 10 := by unfold madeF; rw [List.length_map, List.length_take]; omega
  generalize madeF a = X at hA hX hXl
  have hB := made_spec b hb hlb
  have hY : ∀ r ∈ madeF b, mayR r = true := made_may
  have hYl : (madeF b).length ≤ 10 := by unfold madeF; rw [List.length_map, List.length_take]; omega
  generalize madeF b = Y at hB hY hYl
  have hXY : ∀ r ∈ X ++ Y, mayR r = true := fun r hr => (List.mem_append.1 hr).elim (hX r) (hY r)
  have hXb := rcsB_max hX
  have hYb := rcsB_max hY
  obtain ⟨Z, hZ⟩ : ∃ Z, Z = X ++ Y := ⟨_, rfl⟩
  have hR1 : Recs ([] ++ rcsB X ++ rcsB Y) Z [] := by rw [List.nil_append, ← rcsB_app, hZ]; exact recs_self hXY
  have hR2 : Recs ([] ++ rcsB X ++ [byteOf' 128]) X [byteOf' 128] := by rw [List.nil_append]; exact recs_of hX first_128
  have hl1 : (rcsB Z).length = (rcsB X).length + (rcsB Y).length := by rw [hZ, rcsB_app, List.length_append]
  have hl2 : Z.length = X.length + Y.length := by rw [hZ]; exact List.length_append
  have all1 : ∀ {n : Nat} {F : Nat → List AV} (_ : IsB F ([] ++ rcsB X ++ rcsB Y)) (_ : n = ([] ++ rcsB X ++ rcsB Y).length), _ := fun {n} {F} hF hn => all_spec (n := n) (F := F) _ hF hn (by simp; omega) hR1
  have all2 : ∀ {n : Nat} {F : Nat → List AV} (_ : IsB F ([] ++ rcsB X ++ [byteOf' 128])) (_ : n = ([] ++ rcsB X ++ [byteOf' 128]).length), _ := fun {n} {F} hF hn => all_spec (n := n) (F := F) _ hF hn (by simp; omega) hR2
  have s1 : ∀ {n : Nat} {F : Nat → List AV} (_ : IsR F ([] ++ X ++ Y)) (_ : n = X.length + Y.length), _ := fun {n} {F} hF hn => same18_self (n := n) (F := F) Z (by rw [hZ]; exact hXY) (by omega) (by rw [hZ]; exact hF) (by rw [hl2]; exact hn)
  have s2 := same18_self X hX (by omega) (IsR.els X) rfl
  clear hR1 hR2
  generalize rcsB Z = zB at hl1 all1
  generalize rcsB X = P at hA hl1 all1 all2 hXb
  generalize rcsB Y = Q at hB hl1 all1 hYb
  refine aspec_of lay_ok 63219 Try.func15 rfl rfl rfl ?_
  repeat' ((conv => whnf); first | refine Spl.yes (by first | assumption | omega) ?_ | refine Spl.no (by first | assumption | omega) ?_ | refine Wr.i64 (by omega) (by omega) ?_ | refine Still.mk rfl rfl ?_ | refine InB.mk (inB_mk (by omega) (by omega)) ?_ | refine Req.mk (by omega) ?_ | refine Req.mk ⟨by first | omega | (dsimp only; omega), by first | omega | (dsimp only; omega)⟩ ?_ | refine ACall.plain _ _ (shown18_spec) .nil rfl ?_ | refine ACall.plain _ _ (hA) (SubL.cons (.eq _) .nil) rfl ?_ | refine ACall.plain _ _ (hB) (SubL.cons (.eq _) .nil) rfl ?_ | refine ACall.plain _ _ (all1 (IsB.app (IsB.app (IsB.nil _) (IsB.bytes _) rfl) (IsB.bytes _) (by simp)) (by simp)) (SubL.cons (.eq _) .nil) rfl ?_ | refine ACall.plain _ _ (all2 (IsB.app (IsB.app (IsB.nil _) (IsB.bytes _) rfl) (IsB.one (x := 128) (by omega) (by omega)) (by simp)) (by simp)) (SubL.cons (.eq _) .nil) rfl ?_ | refine ACall.plain _ _ (s2) (SubL.cons (.eq _) (SubL.cons (.eq _) .nil)) rfl ?_ | refine ACall.plain _ _ (s1 (IsR.app (IsR.app (IsR.nil _) (IsR.els _) rfl) (IsR.els _) (by simp)) (by simp)) (SubL.cons (.eq _) (SubL.cons (.eq _) .nil)) rfl ?_ | refine ARet.hdI ?_ | refine Spl.mk (fun _ => ?_) (fun _ => ?_) | refine Wr.b64 ?_ | refine Wr.bu64 ?_ | refine Wr.bu32 ?_ | refine Wr.bu8 ?_ | refine Wr.u8 (by omega) (by omega) ?_ | refine Wr.u64 (by omega) (by omega) ?_ | refine Wr.u32 (by omega) (by omega) ?_ | refine Dv.pos (by omega) (by omega) ?_ | refine Rm.pos (by omega) (by omega) ?_ | refine ADraw.quiet follows_ok (by kernel_rfl) rfl ?_ | refine BSpl.decY (by first | assumption | omega) ?_ | refine BSpl.decN (by first | assumption | omega) ?_ | refine BSpl.dec (fun _ => ?_) (fun _ => ?_) | refine BSpl.yes (by assumption) ?_ | refine BSpl.no (by assumption) ?_ | refine BSpl.mk (fun _ => ?_) (fun _ => ?_))
  all_goals (conv => whnf)
  all_goals first
    | exact AEqI.mk (AEq.refl _)
    | (exfalso; omega)

set_option maxHeartbeats 8000000 in
set_option maxRecDepth 100000 in
theorem rcCuts_spec (a : List Rc) (n : Int) (ha : ∀ r ∈ a, r.rng) (hla : a.length ≤ 140737488355328) (hn : 0 ≤ n ∧ n ≤ 65535) :
    ASpec Try.prog 13 [.sl 9 a.length false (rcF a), .v (.int .u16 n)] (.v (.bool true)) [] := by
  have hA := made_spec a ha hla
  have hX : ∀ r ∈ madeF a, mayR r = true := made_may
  have hXl : (madeF a).length ≤ 10 := by unfold madeF; rw [List.length_map, List.length_take]; omega
  generalize madeF a = W at hA hX hXl
  have hXb := rcsB_max hX
  have hall := all_spec (rcsB W) (IsB.bytes _) rfl (by omega) (recs_self hX)
  have hsame := same18_self W hX (by omega) (IsR.els W) rfl
  have hATl : (atsF W).length = W.length := by unfold atsF; rw [List.length_map, List.length_range]
  have hAT : ∀ i, i < W.length → (atsF W).getD i default = ((rcsB (W.take i)).length : Int) := by
    intro i hi
    unfold atsF
    rw [List.getD, List.getElem?_map, List.getElem?_range hi]
    rfl
  generalize atsF W = AT at hA hATl hAT
  obtain ⟨k, hk, hk0⟩ : ∃ k : Nat, n % (((rcsB W).length : Int) + 1) = (k : Int) ∧ k ≤ (rcsB W).length := by
    have h1 := Int.emod_nonneg n (b := ((rcsB W).length : Int) + 1) (by omega)
    have h2 := Int.emod_lt_of_pos n (b := ((rcsB W).length : Int) + 1) (by omega)
    exact ⟨(n % (((rcsB W).length : Int) + 1)).toNat, by omega, by omega⟩
  refine aspec_of lay_ok 39615290182951785624970002419 Try.func13 rfl rfl rfl ?_
  repeat' ((conv => whnf); first | refine Spl.yes (by first | assumption | omega) ?_ | refine Spl.no (by first | assumption | omega) ?_ | refine Wr.i64 (by omega) (by omega) ?_ | refine Still.mk rfl rfl ?_ | refine InB.mk (inB_mk (by omega) (by omega)) ?_ | refine Req.mk (by omega) ?_ | refine Req.mk ⟨by first | omega | (dsimp only; omega), by first | omega | (dsimp only; omega)⟩ ?_ | refine ACall.plain _ _ (shown18_spec) .nil rfl ?_ | refine ACall.plain _ _ (hA) (SubL.cons (.eq _) .nil) rfl ?_ | refine ACall.plain _ _ (hall) (SubL.cons (.eq _) .nil) rfl ?_ | refine ACall.plain _ _ (hsame) (SubL.cons (.eq _) (SubL.cons (.eq _) .nil)) rfl ?_ | refine Rm.is (c := (k : Int)) (by omega) (by omega) hk ?_ | refine ARet.hdI ?_ | refine Spl.mk (fun _ => ?_) (fun _ => ?_) | refine Wr.b64 ?_ | refine Wr.bu64 ?_ | refine Wr.bu32 ?_ | refine Wr.bu8 ?_ | refine Wr.u8 (by omega) (by omega) ?_ | refine Wr.u64 (by omega) (by omega) ?_ | refine Wr.u32 (by omega) (by omega) ?_ | refine Dv.pos (by omega) (by omega) ?_ | refine Rm.pos (by omega) (by omega) ?_ | refine ADraw.quiet follows_ok (by kernel_rfl) rfl ?_ | refine BSpl.decY (by first | assumption | omega) ?_ | refine BSpl.decN (by first | assumption | omega) ?_ | refine BSpl.dec (fun _ => ?_) (fun _ => ?_) | refine BSpl.yes (by assumption) ?_ | refine BSpl.no (by assumption) ?_ | refine BSpl.mk (fun _ => ?_) (fun _ => ?_))
  conv => whnf
  refine ALoop.mk { M : Nat // M ≤ W.length ∧ (rcsB (W.take M)).length ≤ k } (fun M => ⟨[(6, .sl 9 W.length false (rcF W)), (7, .sl 1 (rcsB W).length true (bytesF (rcsB W))), (8, .sl 1 AT.length true (intF AT)), (11, .v (.int .i64 (k : Int))), (12, .v (.int .i64 (M.1 : Int)))], [], [], 0⟩) (fun M => W.length - M.1) ⟨0, Nat.zero_le _, Nat.zero_le _⟩ _
    (LeR.mk' [] _ _ _ rfl ⟨AEq.refl _, AEq.refl _, AEq.refl _, AEq.refl _, AEq.int rfl, trivial⟩ trivial rfl) ?_
  rintro ⟨M, hM, hMk⟩
  dsimp only
  have hA0 : M < W.length → AT.getD (M : Int).toNat default = ((rcsB (W.take M)).length : Int) := fun h => hAT M h
  have hA1 : M + 1 < W.length → AT.getD ((M : Int) + 1).toNat default = ((rcsB (W.take (M + 1))).length : Int) := fun h => hAT (M + 1) h
  have hA2 : M + 1 = W.length → (rcsB (W.take (M + 1))).length = (rcsB W).length := fun h => by rw [List.take_of_length_le (by omega)]
  have hA3 : M = W.length → (rcsB (W.take M)).length = (rcsB W).length := fun h => by rw [List.take_of_length_le (by omega)]
  have hTl : (W.take M).length = M := by rw [List.length_take]; omega
  have hTm : ∀ r ∈ W.take M, mayR r = true := fun r hr => hX r (List.mem_of_mem_take hr)
  have hs2 : ∀ {n : Nat} {F : Nat → List AV} (_ : IsR F (W.take M)) (_ : n = M), _ := fun {n} {F} hF hn => same18_self (n := n) (F := F) (W.take M) hTm (by omega) hF (by rw [hTl]; exact hn)
  have hcut : (M = W.length ∨ k < (rcsB (W.take (M + 1))).length) → ∀ {n : Nat} {F : Nat → List AV} (_ : IsB F ((rcsB W).take k)) (_ : n = ((rcsB W).take k).length), ASpec Try.prog 37 [.sl 1 n true F] (.tup [.sl 9 (W.take M).length false (rcF (W.take M)), .v (.int .i64 ((rcsB (W.take M)).length : Int))]) [] := by
    intro h n F hF hn
    obtain ⟨t, ht⟩ := recs_cut hX hM hMk h
    exact all_spec (n := n) (F := F) _ hF hn (by rw [List.length_take]; omega) ht
  by_cases hgo : M < W.length ∧ (rcsB (W.take (M + 1))).length ≤ k
  · rcases (show M + 1 < W.length ∨ M + 1 = W.length by omega) with hc | hc
    · have hA1 := hA1 hc
      repeat' ((conv => whnf); first | refine Spl.yes (by first | assumption | omega) ?_ | refine Spl.no (by first | assumption | omega) ?_ | refine Wr.i64 (by omega) (by omega) ?_ | refine Still.mk rfl rfl ?_ | refine InB.mk (inB_mk (by omega) (by omega)) ?_ | refine Req.mk (by omega) ?_ | refine Req.mk ⟨by first | omega | (dsimp only; omega), by first | omega | (dsimp only; omega)⟩ ?_ | refine ARet.hdI ?_ | refine Spl.mk (fun _ => ?_) (fun _ => ?_) | refine Wr.b64 ?_ | refine Wr.bu64 ?_ | refine Wr.bu32 ?_ | refine Wr.bu8 ?_ | refine Wr.u8 (by omega) (by omega) ?_ | refine Wr.u64 (by omega) (by omega) ?_ | refine Wr.u32 (by omega) (by omega) ?_ | refine Dv.pos (by omega) (by omega) ?_ | refine Rm.pos (by omega) (by omega) ?_ | refine ADraw.quiet follows_ok (by kernel_rfl) rfl ?_ | refine BSpl.decY (by first | assumption | omega) ?_ | refine BSpl.decN (by first | assumption | omega) ?_ | refine BSpl.dec (fun _ => ?_) (fun _ => ?_) | refine BSpl.yes (by assumption) ?_ | refine BSpl.no (by assumption) ?_ | refine BSpl.mk (fun _ => ?_) (fun _ => ?_))
      conv => whnf
      exact ⟨⟨M + 1, by omega, hgo.2⟩, _, LeR.mk' [] _ _ _ rfl ⟨AEq.refl _, AEq.refl _, AEq.refl _, AEq.refl _, AEq.int rfl, trivial⟩ trivial rfl, by show W.length - (M + 1) < W.length - M; omega⟩
    · have hA2 := hA2 hc
      repeat' ((conv => whnf); first | refine Spl.yes (by first | assumption | omega) ?_ | refine Spl.no (by first | assumption | omega) ?_ | refine Wr.i64 (by omega) (by omega) ?_ | refine Still.mk rfl rfl ?_ | refine InB.mk (inB_mk (by omega) (by omega)) ?_ | refine Req.mk (by omega) ?_ | refine Req.mk ⟨by first | omega | (dsimp only; omega), by first | omega | (dsimp only; omega)⟩ ?_ | refine ARet.hdI ?_ | refine Spl.mk (fun _ => ?_) (fun _ => ?_) | refine Wr.b64 ?_ | refine Wr.bu64 ?_ | refine Wr.bu32 ?_ | refine Wr.bu8 ?_ | refine Wr.u8 (by omega) (by omega) ?_ | refine Wr.u64 (by omega) (by omega) ?_ | refine Wr.u32 (by omega) (by omega) ?_ | refine Dv.pos (by omega) (by omega) ?_ | refine Rm.pos (by omega) (by omega) ?_ | refine ADraw.quiet follows_ok (by kernel_rfl) rfl ?_ | refine BSpl.decY (by first | assumption | omega) ?_ | refine BSpl.decN (by first | assumption | omega) ?_ | refine BSpl.dec (fun _ => ?_) (fun _ => ?_) | refine BSpl.yes (by assumption) ?_ | refine BSpl.no (by assumption) ?_ | refine BSpl.mk (fun _ => ?_) (fun _ => ?_))
      conv => whnf
      exact ⟨⟨M + 1, by omega, hgo.2⟩, _, LeR.mk' [] _ _ _ rfl ⟨AEq.refl _, AEq.refl _, AEq.refl _, AEq.refl _, AEq.int rfl, trivial⟩ trivial rfl, by show W.length - (M + 1) < W.length - M; omega⟩
  · have hcut := fun {n} {F} => hcut (by omega) (n := n) (F := F)
    rcases (show M + 1 < W.length ∨ M + 1 = W.length ∨ M = W.length by omega) with hc | hc | hc
    · have hA1 := hA1 hc
      have hA0 := hA0 (by omega)
      repeat' ((conv => whnf); first | refine Spl.yes (by first | assumption | omega) ?_ | refine Spl.no (by first | assumption | omega) ?_ | refine Wr.i64 (by omega) (by omega) ?_ | refine Still.mk rfl rfl ?_ | refine InB.mk (inB_mk (by omega) (by omega)) ?_ | refine Req.mk (by omega) ?_ | refine Req.mk ⟨by first | omega | (dsimp only; omega), by first | omega | (dsimp only; omega)⟩ ?_ | refine ACall.plain _ _ (hcut ((IsB.bytes (rcsB W)).take k) (by rw [List.length_take]; omega)) (SubL.cons (.eq _) .nil) rfl ?_ | refine ACall.plain _ _ (hs2 ((IsR.els W).take M) (by omega)) (SubL.cons (.eq _) (SubL.cons (.eq _) .nil)) rfl ?_ | refine ARet.hdI ?_ | refine Spl.mk (fun _ => ?_) (fun _ => ?_) | refine Wr.b64 ?_ | refine Wr.bu64 ?_ | refine Wr.bu32 ?_ | refine Wr.bu8 ?_ | refine Wr.u8 (by omega) (by omega) ?_ | refine Wr.u64 (by omega) (by omega) ?_ | refine Wr.u32 (by omega) (by omega) ?_ | refine Dv.pos (by omega) (by omega) ?_ | refine Rm.pos (by omega) (by omega) ?_ | refine ADraw.quiet follows_ok (by kernel_rfl) rfl ?_ | refine BSpl.decY (by first | assumption | omega) ?_ | refine BSpl.decN (by first | assumption | omega) ?_ | refine BSpl.dec (fun _ => ?_) (fun _ => ?_) | refine BSpl.yes (by assumption) ?_ | refine BSpl.no (by assumption) ?_ | refine BSpl.mk (fun _ => ?_) (fun _ => ?_))
      all_goals (conv => whnf)
      all_goals first
        | exact AEqI.mk (AEq.refl _)
        | (exfalso; omega)
    · have hA2 := hA2 hc
      have hA0 := hA0 (by omega)
      repeat' ((conv => whnf); first | refine Spl.yes (by first | assumption | omega) ?_ | refine Spl.no (by first | assumption | omega) ?_ | refine Wr.i64 (by omega) (by omega) ?_ | refine Still.mk rfl rfl ?_ | refine InB.mk (inB_mk (by omega) (by omega)) ?_ | refine Req.mk (by omega) ?_ | refine Req.mk ⟨by first | omega | (dsimp only; omega), by first | omega | (dsimp only; omega)⟩ ?_ | refine ACall.plain _ _ (hcut ((IsB.bytes (rcsB W)).take k) (by rw [List.length_take]; omega)) (SubL.cons (.eq _) .nil) rfl ?_ | refine ACall.plain _ _ (hs2 ((IsR.els W).take M) (by omega)) (SubL.cons (.eq _) (SubL.cons (.eq _) .nil)) rfl ?_ | refine ARet.hdI ?_ | refine Spl.mk (fun _ => ?_) (fun _ => ?_) | refine Wr.b64 ?_ | refine Wr.bu64 ?_ | refine Wr.bu32 ?_ | refine Wr.bu8 ?_ | refine Wr.u8 (by omega) (by omega) ?_ | refine Wr.u64 (by omega) (by omega) ?_ | refine Wr.u32 (by omega) (by omega) ?_ | refine Dv.pos (by omega) (by omega) ?_ | refine Rm.pos (by omega) (by omega) ?_ | refine ADraw.quiet follows_ok (by kernel_rfl) rfl ?_ | refine BSpl.decY (by first | assumption | omega) ?_ | refine BSpl.decN (by first | assumption | omega) ?_ | refine BSpl.dec (fun _ => ?_) (fun _ => ?_) | refine BSpl.yes (by assumption) ?_ | refine BSpl.no (by assumption) ?_ | refine BSpl.mk (fun _ => ?_) (fun _ => ?_))
      all_goals (conv => whnf)
      all_goals first
        | exact AEqI.mk (AEq.refl _)
        | (exfalso; omega)
    · have hA3 := hA3 hc
      repeat' ((conv => whnf); first | refine Spl.yes (by first | assumption | omega) ?_ | refine Spl.no (by first | assumption | omega) ?_ | refine Wr.i64 (by omega) (by omega) ?_ | refine Still.mk rfl rfl ?_ | refine InB.mk (inB_mk (by omega) (by omega)) ?_ | refine Req.mk (by omega) ?_ | refine Req.mk ⟨by first | omega | (dsimp only; omega), by first | omega | (dsimp only; omega)⟩ ?_ | refine ACall.plain _ _ (hcut ((IsB.bytes (rcsB W)).take k) (by rw [List.length_take]; omega)) (SubL.cons (.eq _) .nil) rfl ?_ | refine ACall.plain _ _ (hs2 ((IsR.els W).take M) (by omega)) (SubL.cons (.eq _) (SubL.cons (.eq _) .nil)) rfl ?_ | refine ARet.hdI ?_ | refine Spl.mk (fun _ => ?_) (fun _ => ?_) | refine Wr.b64 ?_ | refine Wr.bu64 ?_ | refine Wr.bu32 ?_ | refine Wr.bu8 ?_ | refine Wr.u8 (by omega) (by omega) ?_ | refine Wr.u64 (by omega) (by omega) ?_ | refine Wr.u32 (by omega) (by omega) ?_ | refine Dv.pos (by omega) (by omega) ?_ | refine Rm.pos (by omega) (by omega) ?_ | refine ADraw.quiet follows_ok (by kernel_rfl) rfl ?_ | refine BSpl.decY (by first | assumption | omega) ?_ | refine BSpl.decN (by first | assumption | omega) ?_ | refine BSpl.dec (fun _ => ?_) (fun _ => ?_) | refine BSpl.yes (by assumption) ?_ | refine BSpl.no (by assumption) ?_ | refine BSpl.mk (fun _ => ?_) (fun _ => ?_))
      all_goals (conv => whnf)
      all_goals first
        | exact AEqI.mk (AEq.refl _)
        | (exfalso; omega)
end Go.Proofs.Ytbmojelnkldecaa
