/-
  What frame.Take tells of any bytes.
-/
import Derived.Test.YtbmojelnkldecaaFrV
import Derived.Test.YtbmojelnkldecaaFrmG
namespace Go.Proofs.Ytbmojelnkldecaa
open Go.RowKit

/-- A contract that says less of what is handed back. -/
theorem ASpec.res {P : Program} {f : FuncId} {avs : List AV} {r r' : AV} {h : List (Nat × AO)} (hs : ASpec P f avs r h) (hr : AEq r r') : ASpec P f avs r' h :=
  ⟨hs.1, fun w keep args hk ha => (hs.2 w keep args hk ha).mono fun _ _ ⟨u, ρ, h1, h2, h3, h4⟩ => ⟨u, ρ, h1, h2, hr _ _ h3, h4⟩⟩

theorem evsF_len {b : List UInt8} {l : List Ev} (h : evsF b = some l) : l.length ≤ 255 := by
  rcases b with _ | ⟨c, t⟩
  · cases h
  · have h : (evsAt t c.toNat).map (·.1) = some l := h
    cases h0 : evsAt t c.toNat with
    | none => rw [h0] at h; cases h
    | some p =>
      obtain ⟨l0, r0⟩ := p
      rw [h0] at h
      simp only [Option.map_some, Option.some.injEq] at h
      subst h
      have := (evsAt_len h0).1
      have := UInt8.toNat_lt c
      omega
theorem readF_len (b : List UInt8) : (readF b).1.ev.length ≤ 255 := by
  unfold readF
  split
  · simp [rc0]
  · unfold rdB
    split
    · split
      · simp
      · rename_i l h
        exact evsF_len h
    · split
      · split <;> simp
      · split <;> simp

set_option maxHeartbeats 4000000 in
set_option maxRecDepth 100000 in
theorem frTake_e (l : List UInt8) (hl : l.length ≤ 2048) : ASpec Try.prog 29 [.sl 1 l.length true (bytesF l)] (.tup [(takeF l).1.av, .v (.int .i64 (takeF l).2)]) [] := by
  unfold takeF
  rw [if_neg (by omega)]
  by_cases ho : okSeal l
  · rw [if_pos ho]
    have hF : IsB (bytesF l) (sealB (inner l)) := by rw [← ok_inner ho]; exact IsB.bytes l
    have hil : (inner l).length ≤ l.length := by unfold inner; rw [List.length_take]; omega
    have hop := (open_spec 0 (inner l) hF (by rw [← ok_inner ho]) (by omega)).thaw
    have hrd := read_spec (inner l) (IsB.bytes _) rfl (by omega)
    have hrl := readF_len (inner l)
    generalize inner l = m at hop hrd hrl
    obtain ⟨⟨z, ok⟩, hz⟩ : ∃ p, readF m = p := ⟨_, rfl⟩
    rw [hz] at hrd hrl ⊢
    dsimp only at hrd hrl ⊢
    cases ok with
    | false =>
      rw [if_neg (by simp)]
      refine aspec_of lay_ok 2199158000125 Try.func29 rfl rfl rfl ?_
      repeat' ((conv => whnf); first | refine Spl.yes (by first | assumption | omega) ?_ | refine Spl.no (by first | assumption | omega) ?_ | refine Wr.i64 (by omega) (by omega) ?_ | refine Still.mk rfl rfl ?_ | refine InB.mk (inB_mk (by omega) (by omega)) ?_ | refine Req.mk (by omega) ?_ | refine Req.mk ⟨by first | omega | (dsimp only; omega), by first | omega | (dsimp only; omega)⟩ ?_ | refine ACall.plain _ _ (hop) (SubL.cons (.eq _) .nil) rfl ?_ | refine ACall.plain _ _ (hrd) (SubL.cons (.eq _) .nil) rfl ?_ | refine ARet.hdI ?_ | refine Spl.mk (fun _ => ?_) (fun _ => ?_) | refine Wr.b64 ?_ | refine Wr.bu64 ?_ | refine Wr.bu32 ?_ | refine Wr.bu8 ?_ | refine Wr.u8 (by omega) (by omega) ?_ | refine Wr.u64 (by omega) (by omega) ?_ | refine Wr.u32 (by omega) (by omega) ?_ | refine Dv.pos (by omega) (by omega) ?_ | refine Rm.pos (by omega) (by omega) ?_ | refine ADraw.quiet follows_ok (by kernel_rfl) rfl ?_ | refine BSpl.decY (by first | assumption | omega) ?_ | refine BSpl.decN (by first | assumption | omega) ?_ | refine BSpl.dec (fun _ => ?_) (fun _ => ?_) | refine BSpl.yes (by assumption) ?_ | refine BSpl.no (by assumption) ?_ | refine BSpl.mk (fun _ => ?_) (fun _ => ?_))
      all_goals (conv => whnf)
      all_goals exact AEqI.mk (AEq.nilEvT _)
    | true =>
      cases hm : mayF z with
      | false =>
        rw [if_neg (by simp)]
        have hp := frPut_no z (by omega) hm
        refine aspec_of lay_ok 2199158000125 Try.func29 rfl rfl rfl ?_
        repeat' ((conv => whnf); first | refine Spl.yes (by first | assumption | omega) ?_ | refine Spl.no (by first | assumption | omega) ?_ | refine Wr.i64 (by omega) (by omega) ?_ | refine Still.mk rfl rfl ?_ | refine InB.mk (inB_mk (by omega) (by omega)) ?_ | refine Req.mk (by omega) ?_ | refine Req.mk ⟨by first | omega | (dsimp only; omega), by first | omega | (dsimp only; omega)⟩ ?_ | refine ACall.plain _ _ (hop) (SubL.cons (.eq _) .nil) rfl ?_ | refine ACall.plain _ _ (hrd) (SubL.cons (.eq _) .nil) rfl ?_ | refine ACall.plain _ _ (hp) (SubL.cons (.eq _) .nil) rfl ?_ | refine ARet.hdI ?_ | refine Spl.mk (fun _ => ?_) (fun _ => ?_) | refine Wr.b64 ?_ | refine Wr.bu64 ?_ | refine Wr.bu32 ?_ | refine Wr.bu8 ?_ | refine Wr.u8 (by omega) (by omega) ?_ | refine Wr.u64 (by omega) (by omega) ?_ | refine Wr.u32 (by omega) (by omega) ?_ | refine Dv.pos (by omega) (by omega) ?_ | refine Rm.pos (by omega) (by omega) ?_ | refine ADraw.quiet follows_ok (by kernel_rfl) rfl ?_ | refine BSpl.decY (by first | assumption | omega) ?_ | refine BSpl.decN (by first | assumption | omega) ?_ | refine BSpl.dec (fun _ => ?_) (fun _ => ?_) | refine BSpl.yes (by assumption) ?_ | refine BSpl.no (by assumption) ?_ | refine BSpl.mk (fun _ => ?_) (fun _ => ?_))
        all_goals (conv => whnf)
        all_goals exact AEqI.mk (AEq.nilEvT _)
      | true =>
        have hp := (frPut_yes 0 z hm).thaw
        have he := equal_spec (frBytes z) l (IsB.bytes _) rfl (IsB.bytes _) rfl
        by_cases hb : frBytes z = l
        · rw [if_pos ⟨rfl, rfl, hb⟩]
          rw [decide_eq_true hb] at he
          generalize frBytes z = w at hp he
          refine aspec_of lay_ok 2199158000125 Try.func29 rfl rfl rfl ?_
          repeat' ((conv => whnf); first | refine Spl.yes (by first | assumption | omega) ?_ | refine Spl.no (by first | assumption | omega) ?_ | refine Wr.i64 (by omega) (by omega) ?_ | refine Still.mk rfl rfl ?_ | refine InB.mk (inB_mk (by omega) (by omega)) ?_ | refine Req.mk (by omega) ?_ | refine Req.mk ⟨by first | omega | (dsimp only; omega), by first | omega | (dsimp only; omega)⟩ ?_ | refine ACall.plain _ _ (hop) (SubL.cons (.eq _) .nil) rfl ?_ | refine ACall.plain _ _ (hrd) (SubL.cons (.eq _) .nil) rfl ?_ | refine ACall.plain _ _ (hp) (SubL.cons (.eq _) .nil) rfl ?_ | refine ACall.plain _ _ (he) (SubL.cons (.eq _) (SubL.cons (.eq _) .nil)) rfl ?_ | refine ARet.hdI ?_ | refine Spl.mk (fun _ => ?_) (fun _ => ?_) | refine Wr.b64 ?_ | refine Wr.bu64 ?_ | refine Wr.bu32 ?_ | refine Wr.bu8 ?_ | refine Wr.u8 (by omega) (by omega) ?_ | refine Wr.u64 (by omega) (by omega) ?_ | refine Wr.u32 (by omega) (by omega) ?_ | refine Dv.pos (by omega) (by omega) ?_ | refine Rm.pos (by omega) (by omega) ?_ | refine ADraw.quiet follows_ok (by kernel_rfl) rfl ?_ | refine BSpl.decY (by first | assumption | omega) ?_ | refine BSpl.decN (by first | assumption | omega) ?_ | refine BSpl.dec (fun _ => ?_) (fun _ => ?_) | refine BSpl.yes (by assumption) ?_ | refine BSpl.no (by assumption) ?_ | refine BSpl.mk (fun _ => ?_) (fun _ => ?_))
          all_goals (conv => whnf)
          all_goals exact AEqI.mk (AEq.refl _)
        · rw [if_neg (fun h => hb h.2.2)]
          rw [decide_eq_false hb] at he
          generalize frBytes z = w at hp he
          refine aspec_of lay_ok 2199158000125 Try.func29 rfl rfl rfl ?_
          repeat' ((conv => whnf); first | refine Spl.yes (by first | assumption | omega) ?_ | refine Spl.no (by first | assumption | omega) ?_ | refine Wr.i64 (by omega) (by omega) ?_ | refine Still.mk rfl rfl ?_ | refine InB.mk (inB_mk (by omega) (by omega)) ?_ | refine Req.mk (by omega) ?_ | refine Req.mk ⟨by first | omega | (dsimp only; omega), by first | omega | (dsimp only; omega)⟩ ?_ | refine ACall.plain _ _ (hop) (SubL.cons (.eq _) .nil) rfl ?_ | refine ACall.plain _ _ (hrd) (SubL.cons (.eq _) .nil) rfl ?_ | refine ACall.plain _ _ (hp) (SubL.cons (.eq _) .nil) rfl ?_ | refine ACall.plain _ _ (he) (SubL.cons (.eq _) (SubL.cons (.eq _) .nil)) rfl ?_ | refine ARet.hdI ?_ | refine Spl.mk (fun _ => ?_) (fun _ => ?_) | refine Wr.b64 ?_ | refine Wr.bu64 ?_ | refine Wr.bu32 ?_ | refine Wr.bu8 ?_ | refine Wr.u8 (by omega) (by omega) ?_ | refine Wr.u64 (by omega) (by omega) ?_ | refine Wr.u32 (by omega) (by omega) ?_ | refine Dv.pos (by omega) (by omega) ?_ | refine Rm.pos (by omega) (by omega) ?_ | refine ADraw.quiet follows_ok (by kernel_rfl) rfl ?_ | refine BSpl.decY (by first | assumption | omega) ?_ | refine BSpl.decN (by first | assumption | omega) ?_ | refine BSpl.dec (fun _ => ?_) (fun _ => ?_) | refine BSpl.yes (by assumption) ?_ | refine BSpl.no (by assumption) ?_ | refine BSpl.mk (fun _ => ?_) (fun _ => ?_))
          all_goals (conv => whnf)
          all_goals exact AEqI.mk (AEq.nilEvT _)
  · rw [if_neg ho]
    have hop := open_no l ho (IsB.bytes _) rfl (by omega)
    refine aspec_of lay_ok 2199158000125 Try.func29 rfl rfl rfl ?_
    repeat' ((conv => whnf); first | refine Spl.yes (by first | assumption | omega) ?_ | refine Spl.no (by first | assumption | omega) ?_ | refine Wr.i64 (by omega) (by omega) ?_ | refine Still.mk rfl rfl ?_ | refine InB.mk (inB_mk (by omega) (by omega)) ?_ | refine Req.mk (by omega) ?_ | refine Req.mk ⟨by first | omega | (dsimp only; omega), by first | omega | (dsimp only; omega)⟩ ?_ | refine ACall.plain _ _ (hop) (SubL.cons (.eq _) .nil) rfl ?_ | refine ARet.hdI ?_ | refine Spl.mk (fun _ => ?_) (fun _ => ?_) | refine Wr.b64 ?_ | refine Wr.bu64 ?_ | refine Wr.bu32 ?_ | refine Wr.bu8 ?_ | refine Wr.u8 (by omega) (by omega) ?_ | refine Wr.u64 (by omega) (by omega) ?_ | refine Wr.u32 (by omega) (by omega) ?_ | refine Dv.pos (by omega) (by omega) ?_ | refine Rm.pos (by omega) (by omega) ?_ | refine ADraw.quiet follows_ok (by kernel_rfl) rfl ?_ | refine BSpl.decY (by first | assumption | omega) ?_ | refine BSpl.decN (by first | assumption | omega) ?_ | refine BSpl.dec (fun _ => ?_) (fun _ => ?_) | refine BSpl.yes (by assumption) ?_ | refine BSpl.no (by assumption) ?_ | refine BSpl.mk (fun _ => ?_) (fun _ => ?_))
    all_goals (conv => whnf)
    all_goals exact AEqI.mk (AEq.nilEvT _)

theorem frTake_any {n : Nat} {F : Nat → List AV} (l : List UInt8) {z : Rc} {x : Int} (ht : takeF l = (z, x)) (hF : IsB F l) (hn : n = l.length) :
    ASpec Try.prog 29 [.sl 1 n true F] (.tup [z.av, .v (.int .i64 x)]) [] := by
  rcases Nat.lt_or_ge 2048 l.length with h | h
  · unfold takeF at ht
    rw [if_pos h] at ht
    simp only [Prod.mk.injEq] at ht
    obtain ⟨rfl, rfl⟩ := ht
    exact (takeBig_spec (n := n) (F := F) (by omega)).res (AEq.nilEvT _)
  · have := frTake_e l h
    rw [ht] at this
    exact this.args (Ch.isB hF hn .nil)
theorem takeF_sealed (m : List UInt8) : (∃ z, takeF (sealB m) = (z, 0) ∧ mayF z = true ∧ frBytes z = sealB m) ∨ (∃ x, takeF (sealB m) = (rc0, x) ∧ x ≠ 0) := by
  rcases Nat.lt_or_ge 2044 m.length with h | h
  · refine .inr ⟨5, ?_, by decide⟩
    unfold takeF
    rw [if_pos (by rw [sealB_len]; omega)]
  · rcases takeF_seal m h with h | h
    · exact .inl h
    · exact .inr ⟨3, h, by decide⟩

set_option maxRecDepth 100000 in
theorem short07_spec (l : List UInt8) : ASpec Try.prog 28 [.sl 1 l.length true (bytesF l)] (.sl 1 (l.take 2100).length true (bytesF (l.take 2100))) [] := by
  have hl : (if (2100 : Int) < (l.length : Int) then (2100 : Int) else (l.length : Int)).toNat = (l.take 2100).length := by
    rw [List.length_take]
    split <;> omega
  refine aspec_of lay_ok 5 Try.func28 rfl rfl rfl ?_
  repeat' ((conv => whnf); first | refine Spl.yes (by first | assumption | omega) ?_ | refine Spl.no (by first | assumption | omega) ?_ | refine Wr.i64 (by omega) (by omega) ?_ | refine Still.mk rfl rfl ?_ | refine InB.mk (inB_mk (by omega) (by omega)) ?_ | refine Req.mk (by omega) ?_ | refine Req.mk ⟨by first | omega | (dsimp only; omega), by first | omega | (dsimp only; omega)⟩ ?_ | refine ARet.hdI ?_ | refine InB.mk (inB_mk (by split <;> omega) (by split <;> omega)) ?_ | refine Spl.mk (fun _ => ?_) (fun _ => ?_) | refine Wr.b64 ?_ | refine Wr.bu64 ?_ | refine Wr.bu32 ?_ | refine Wr.bu8 ?_ | refine Wr.u8 (by omega) (by omega) ?_ | refine Wr.u64 (by omega) (by omega) ?_ | refine Wr.u32 (by omega) (by omega) ?_ | refine Dv.pos (by omega) (by omega) ?_ | refine Rm.pos (by omega) (by omega) ?_ | refine ADraw.quiet follows_ok (by kernel_rfl) rfl ?_ | refine BSpl.decY (by first | assumption | omega) ?_ | refine BSpl.decN (by first | assumption | omega) ?_ | refine BSpl.dec (fun _ => ?_) (fun _ => ?_) | refine BSpl.yes (by assumption) ?_ | refine BSpl.no (by assumption) ?_ | refine BSpl.mk (fun _ => ?_) (fun _ => ?_))
  conv => whnf
  refine AEqI.mk ?_
  rw [hl]
  exact AEq.isB ((IsB.bytes l).take 2100) rfl
theorem frPut_sl (x : Rc) (h : mayF x = true) : ASpec Try.prog 25 [x.av] (.tup [.sl 1 (frBytes x).length true (bytesF (frBytes x)), .v (.int .i64 0)]) [] := (frPut_yes 0 x h).thaw
theorem seal_sl {n : Nat} {F : Nat → List AV} (l : List UInt8) (hF : IsB F l) (hn : n = l.length) (hl : l.length ≤ 1000000000) :
    ASpec Try.prog 31 [.sl 1 n true F] (.sl 1 (sealB l).length true (bytesF (sealB l))) [] := (seal_spec 0 l hF hn hl).thaw
end Go.Proofs.Ytbmojelnkldecaa
