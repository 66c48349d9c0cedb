/-
  The statement FrameAll, walked.
-/
import Derived.Test.YtbmojelnkldecaaRef8
import Derived.Test.YtbmojelnkldecaaFrW
namespace Go.Proofs.Ytbmojelnkldecaa
open Go.RowKit

theorem takeF_cases {l : List UInt8} (hl : l.length ≤ 2048) (ho : okSeal l) : (∃ z, takeF l = (z, 0) ∧ mayF z = true ∧ frBytes z = l) ∨ takeF l = (rc0, 3) := by
  unfold takeF
  rw [if_neg (by omega), if_pos ho]
  split
  · rename_i h1
    exact .inl ⟨_, rfl, h1.2.1, h1.2.2⟩
  · exact .inr rfl
theorem takeF_inner {z : Rc} {l : List UInt8} (h : frBytes z = l) : inner l = vput (frBody z).length ++ frBody z := by rw [← h]; exact inner_seal _

set_option maxHeartbeats 8000000 in
set_option maxRecDepth 100000 in
theorem rtk7_e (l : List UInt8) (hl : l.length ≤ 1000000000) : ASpec Try.prog 30 [.sl 1 l.length true (bytesF l)] (.tup [(takeF l).1.av, .v (.int .i64 (takeF l).2)]) [] := by
  by_cases hbig : 2048 < l.length
  · rw [show takeF l = (rc0, 5) by unfold takeF; rw [if_pos hbig]]
    refine aspec_of lay_ok 1125902058540989 Try.func30 rfl rfl rfl ?_
    repeat' ((conv => whnf); first | refine Spl.yes (by first | assumption | omega) ?_ | refine Spl.no (by first | assumption | omega) ?_ | refine Wr.i64 (by omega) (by omega) ?_ | refine Still.mk rfl rfl ?_ | refine InB.mk (inB_mk (by omega) (by omega)) ?_ | refine Req.mk (by omega) ?_ | refine Req.mk ⟨by first | omega | (dsimp only; omega), by first | omega | (dsimp only; omega)⟩ ?_ | refine ARet.hdI ?_ | refine Spl.mk (fun _ => ?_) (fun _ => ?_) | refine Wr.b64 ?_ | refine Wr.bu64 ?_ | refine Wr.bu32 ?_ | refine Wr.bu8 ?_ | refine Wr.u8 (by omega) (by omega) ?_ | refine Wr.u64 (by omega) (by omega) ?_ | refine Wr.u32 (by omega) (by omega) ?_ | refine Dv.pos (by omega) (by omega) ?_ | refine Rm.pos (by omega) (by omega) ?_ | refine ADraw.quiet follows_ok (by kernel_rfl) rfl ?_ | refine BSpl.decY (by first | assumption | omega) ?_ | refine BSpl.decN (by first | assumption | omega) ?_ | refine BSpl.dec (fun _ => ?_) (fun _ => ?_) | refine BSpl.yes (by assumption) ?_ | refine BSpl.no (by assumption) ?_ | refine BSpl.mk (fun _ => ?_) (fun _ => ?_))
    all_goals (conv => whnf)
    all_goals exact AEqI.mk (AEq.nilEvT _)
  · have hl2 : l.length ≤ 2048 := by omega
    by_cases ho : okSeal l
    · have hF : IsB (bytesF l) (sealB (inner l)) := by rw [← ok_inner ho]; exact IsB.bytes l
      have hil : (inner l).length ≤ l.length := by unfold inner; rw [List.length_take]; omega
      have hop := ropen_ok (inner l) hF (by rw [← ok_inner ho]) (by omega)
      have hin : ∀ z, frBytes z = l → inner l = vput (frBody z).length ++ frBody z := fun z => takeF_inner
      have hcs := takeF_cases hl2 ho
      have hput0 : ∀ z, mayF z = true → frBytes z = l → takeF l = (z, 0) := fun z hz hb => by rw [← hb]; exact takeF_put z hz
      generalize takeF l = T at hcs hput0
      generalize inner l = m at hop hil hin
      have hrt := rtake_spec m (IsB.bytes m) rfl (by omega)
      have hrl := rtake_le m
      have hrp : ∀ z, mayF z = true → frBytes z = l → rtake m = ((frBody z).length, (vput (frBody z).length).length, 0) := fun z hz hb => by rw [hin z hb]; exact rtake_put _ _ (by have := frBody_len z hz; omega)
      obtain ⟨⟨n, k, e⟩, ht⟩ : ∃ p, rtake m = p := ⟨_, rfl⟩
      rw [ht] at hrt hrl hrp
      dsimp only at hrt hrl
      have hno : (∀ z, mayF z = true → frBytes z = l → False) → T = (rc0, 3) := fun h => hcs.elim (fun ⟨z, _, h2, h3⟩ => (h z h2 h3).elim) id
      by_cases he : e = 0
      · subst he
        obtain ⟨f, hf1, hf2, hf3⟩ := refF_any (m.drop k) (by rw [List.length_drop]; omega)
        have hrd := hf1.args (Ch.isB (n := m.length - k) ((IsB.bytes m).drop k) (by simp) .nil)
        have hfz : ∀ z, mayF z = true → frBytes z = l → f = z := fun z hz hb => hf3 z hz (by
          have h1 := hrp z hz hb
          simp only [Prod.mk.injEq] at h1
          rw [h1.2.1, hin z hb, List.drop_left])
        cases hm : mayF f with
        | false =>
          have hp := r07Put_no f (by omega) hm
          rw [hno fun z hz hb => by rw [hfz z hz hb] at hm; rw [hz] at hm; cases hm]
          clear hno hfz hf3 hrp hin hput0 hcs
          refine aspec_of lay_ok 1125902058540989 Try.func30 rfl rfl rfl ?_
          repeat' ((conv => whnf); first | refine Spl.yes (by first | assumption | omega) ?_ | refine Spl.no (by first | assumption | omega) ?_ | refine Wr.i64 (by omega) (by omega) ?_ | refine Still.mk rfl rfl ?_ | refine InB.mk (inB_mk (by omega) (by omega)) ?_ | refine Req.mk (by omega) ?_ | refine Req.mk ⟨by first | omega | (dsimp only; omega), by first | omega | (dsimp only; omega)⟩ ?_ | refine ACall.plain _ _ (hop) (SubL.cons (.eq _) .nil) rfl ?_ | refine ACall.plain _ _ (hrt) (SubL.cons (.eq _) .nil) rfl ?_ | refine ACall.plain _ _ (hrd) (SubL.cons (.eq _) .nil) rfl ?_ | refine ACall.plain _ _ (hp) (SubL.cons (.eq _) .nil) rfl ?_ | refine ARet.hdI ?_ | refine Spl.mk (fun _ => ?_) (fun _ => ?_) | refine Wr.b64 ?_ | refine Wr.bu64 ?_ | refine Wr.bu32 ?_ | refine Wr.bu8 ?_ | refine Wr.u8 (by omega) (by omega) ?_ | refine Wr.u64 (by omega) (by omega) ?_ | refine Wr.u32 (by omega) (by omega) ?_ | refine Dv.pos (by omega) (by omega) ?_ | refine Rm.pos (by omega) (by omega) ?_ | refine ADraw.quiet follows_ok (by kernel_rfl) rfl ?_ | refine BSpl.decY (by first | assumption | omega) ?_ | refine BSpl.decN (by first | assumption | omega) ?_ | refine BSpl.dec (fun _ => ?_) (fun _ => ?_) | refine BSpl.yes (by assumption) ?_ | refine BSpl.no (by assumption) ?_ | refine BSpl.mk (fun _ => ?_) (fun _ => ?_))
          all_goals (conv => whnf)
          all_goals exact AEqI.mk (AEq.nilEvT _)
        | true =>
          have hp := fun d => r07Put_yes d f hm
          by_cases hb : frBytes f = l
          · rw [hput0 f hm hb]
            rw [hb] at hp
            clear hno hfz hf3 hrp hin hput0 hcs
            refine aspec_of lay_ok 1125902058540989 Try.func30 rfl rfl rfl ?_
            repeat' ((conv => whnf); first | refine Spl.yes (by first | assumption | omega) ?_ | refine Spl.no (by first | assumption | omega) ?_ | refine Wr.i64 (by omega) (by omega) ?_ | refine Still.mk rfl rfl ?_ | refine InB.mk (inB_mk (by omega) (by omega)) ?_ | refine Req.mk (by omega) ?_ | refine Req.mk ⟨by first | omega | (dsimp only; omega), by first | omega | (dsimp only; omega)⟩ ?_ | refine ACall.plain _ _ (hop) (SubL.cons (.eq _) .nil) rfl ?_ | refine ACall.plain _ _ (hrt) (SubL.cons (.eq _) .nil) rfl ?_ | refine ACall.plain _ _ (hrd) (SubL.cons (.eq _) .nil) rfl ?_ | refine ACall.fresh _ _ _ _ _ _ _ (hp _) (SubL.cons (.eq _) .nil) rfl ?_ | refine Bs.of l (IsB.bytes _) rfl ?_ | refine Spl.yes rfl ?_ | refine ARet.hdI ?_ | refine Spl.mk (fun _ => ?_) (fun _ => ?_) | refine Wr.b64 ?_ | refine Wr.bu64 ?_ | refine Wr.bu32 ?_ | refine Wr.bu8 ?_ | refine Wr.u8 (by omega) (by omega) ?_ | refine Wr.u64 (by omega) (by omega) ?_ | refine Wr.u32 (by omega) (by omega) ?_ | refine Dv.pos (by omega) (by omega) ?_ | refine Rm.pos (by omega) (by omega) ?_ | refine ADraw.quiet follows_ok (by kernel_rfl) rfl ?_ | refine BSpl.decY (by first | assumption | omega) ?_ | refine BSpl.decN (by first | assumption | omega) ?_ | refine BSpl.dec (fun _ => ?_) (fun _ => ?_) | refine BSpl.yes (by assumption) ?_ | refine BSpl.no (by assumption) ?_ | refine BSpl.mk (fun _ => ?_) (fun _ => ?_))
            all_goals (conv => whnf)
            all_goals exact AEqI.mk (AEq.refl _)
          · rw [hno fun z hz hbz => hb (by rw [hfz z hz hbz]; exact hbz)]
            have hne := str_ne2 hb
            generalize frBytes f = w at hp hne
            clear hno hfz hf3 hrp hin hput0 hcs hb
            refine aspec_of lay_ok 1125902058540989 Try.func30 rfl rfl rfl ?_
            repeat' ((conv => whnf); first | refine Spl.yes (by first | assumption | omega) ?_ | refine Spl.no (by first | assumption | omega) ?_ | refine Wr.i64 (by omega) (by omega) ?_ | refine Still.mk rfl rfl ?_ | refine InB.mk (inB_mk (by omega) (by omega)) ?_ | refine Req.mk (by omega) ?_ | refine Req.mk ⟨by first | omega | (dsimp only; omega), by first | omega | (dsimp only; omega)⟩ ?_ | refine ACall.plain _ _ (hop) (SubL.cons (.eq _) .nil) rfl ?_ | refine ACall.plain _ _ (hrt) (SubL.cons (.eq _) .nil) rfl ?_ | refine ACall.plain _ _ (hrd) (SubL.cons (.eq _) .nil) rfl ?_ | refine ACall.fresh _ _ _ _ _ _ _ (hp _) (SubL.cons (.eq _) .nil) rfl ?_ | refine Bs.of w (IsB.bytes _) rfl ?_ | refine Bs.of l (IsB.bytes _) rfl ?_ | refine Spl.no hne ?_ | refine ARet.hdI ?_ | refine Spl.mk (fun _ => ?_) (fun _ => ?_) | refine Wr.b64 ?_ | refine Wr.bu64 ?_ | refine Wr.bu32 ?_ | refine Wr.bu8 ?_ | refine Wr.u8 (by omega) (by omega) ?_ | refine Wr.u64 (by omega) (by omega) ?_ | refine Wr.u32 (by omega) (by omega) ?_ | refine Dv.pos (by omega) (by omega) ?_ | refine Rm.pos (by omega) (by omega) ?_ | refine ADraw.quiet follows_ok (by kernel_rfl) rfl ?_ | refine BSpl.decY (by first | assumption | omega) ?_ | refine BSpl.decN (by first | assumption | omega) ?_ | refine BSpl.dec (fun _ => ?_) (fun _ => ?_) | refine BSpl.yes (by assumption) ?_ | refine BSpl.no (by assumption) ?_ | refine BSpl.mk (fun _ => ?_) (fun _ => ?_))
            all_goals (conv => whnf)
            all_goals exact AEqI.mk (AEq.nilEvT _)
      · rw [hno fun z hz hb => he (by have h1 := hrp z hz hb; simp only [Prod.mk.injEq] at h1; exact h1.2.2)]
        clear hno hrp hin hput0 hcs
        refine aspec_of lay_ok 1125902058540989 Try.func30 rfl rfl rfl ?_
        repeat' ((conv => whnf); first | refine Spl.yes (by first | assumption | omega) ?_ | refine Spl.no (by first | assumption | omega) ?_ | refine Wr.i64 (by omega) (by omega) ?_ | refine Still.mk rfl rfl ?_ | refine InB.mk (inB_mk (by omega) (by omega)) ?_ | refine Req.mk (by omega) ?_ | refine Req.mk ⟨by first | omega | (dsimp only; omega), by first | omega | (dsimp only; omega)⟩ ?_ | refine ACall.plain _ _ (hop) (SubL.cons (.eq _) .nil) rfl ?_ | refine ACall.plain _ _ (hrt) (SubL.cons (.eq _) .nil) rfl ?_ | refine ARet.hdI ?_ | refine Spl.mk (fun _ => ?_) (fun _ => ?_) | refine Wr.b64 ?_ | refine Wr.bu64 ?_ | refine Wr.bu32 ?_ | refine Wr.bu8 ?_ | refine Wr.u8 (by omega) (by omega) ?_ | refine Wr.u64 (by omega) (by omega) ?_ | refine Wr.u32 (by omega) (by omega) ?_ | refine Dv.pos (by omega) (by omega) ?_ | refine Rm.pos (by omega) (by omega) ?_ | refine ADraw.quiet follows_ok (by kernel_rfl) rfl ?_ | refine BSpl.decY (by first | assumption | omega) ?_ | refine BSpl.decN (by first | assumption | omega) ?_ | refine BSpl.dec (fun _ => ?_) (fun _ => ?_) | refine BSpl.yes (by assumption) ?_ | refine BSpl.no (by assumption) ?_ | refine BSpl.mk (fun _ => ?_) (fun _ => ?_))
        all_goals (conv => whnf)
        all_goals exact AEqI.mk (AEq.nilEvT _)
    · have hop := ropen_no l ho (IsB.bytes _) rfl (by omega)
      rw [show takeF l = (rc0, 4) by unfold takeF; rw [if_neg hbig, if_neg ho]]
      refine aspec_of lay_ok 1125902058540989 Try.func30 rfl rfl rfl ?_
      repeat' ((conv => whnf); first | refine Spl.yes (by first | assumption | omega) ?_ | refine Spl.no (by first | assumption | omega) ?_ | refine Wr.i64 (by omega) (by omega) ?_ | refine Still.mk rfl rfl ?_ | refine InB.mk (inB_mk (by omega) (by omega)) ?_ | refine Req.mk (by omega) ?_ | refine Req.mk ⟨by first | omega | (dsimp only; omega), by first | omega | (dsimp only; omega)⟩ ?_ | refine ACall.plain _ _ (hop) (SubL.cons (.eq _) .nil) rfl ?_ | refine ARet.hdI ?_ | refine Spl.mk (fun _ => ?_) (fun _ => ?_) | refine Wr.b64 ?_ | refine Wr.bu64 ?_ | refine Wr.bu32 ?_ | refine Wr.bu8 ?_ | refine Wr.u8 (by omega) (by omega) ?_ | refine Wr.u64 (by omega) (by omega) ?_ | refine Wr.u32 (by omega) (by omega) ?_ | refine Dv.pos (by omega) (by omega) ?_ | refine Rm.pos (by omega) (by omega) ?_ | refine ADraw.quiet follows_ok (by kernel_rfl) rfl ?_ | refine BSpl.decY (by first | assumption | omega) ?_ | refine BSpl.decN (by first | assumption | omega) ?_ | refine BSpl.dec (fun _ => ?_) (fun _ => ?_) | refine BSpl.yes (by assumption) ?_ | refine BSpl.no (by assumption) ?_ | refine BSpl.mk (fun _ => ?_) (fun _ => ?_))
      all_goals (conv => whnf)
      all_goals exact AEqI.mk (AEq.nilEvT _)
theorem rtk7_any {n : Nat} {F : Nat → List AV} (l : List UInt8) {z : Rc} {x : Int} (ht : takeF l = (z, x)) (hl : l.length ≤ 1000000000) (hF : IsB F l) (hn : n = l.length) :
    ASpec Try.prog 30 [.sl 1 n true F] (.tup [z.av, .v (.int .i64 x)]) [] := by
  have := rtk7_e l hl
  rw [ht] at this
  exact this.args (Ch.isB hF hn .nil)

theorem few07_spec (x : Rc) (hl : x.ev.length ≤ 140737488355328) : ASpec Try.prog 26 [x.av] (Rc.av ⟨x.k, x.r, x.u, x.c, x.ev.take 22⟩) [] := by
  obtain ⟨k, r, u, ⟨c0, c1, c2, c3, c4⟩, ev⟩ := x
  dsimp only at hl
  have hn : (if (22 : Int) < (ev.length : Int) then (22 : Int) else (ev.length : Int)).toNat = (ev.take 22).length := by
    rw [List.length_take]
    split <;> omega
  dsimp only [Rc.av, Rc.cs]
  refine aspec_of lay_ok 7 Try.func26 rfl rfl rfl ?_
  repeat' ((conv => whnf); first | refine Spl.yes (by first | assumption | omega) ?_ | refine Spl.no (by first | assumption | omega) ?_ | refine Wr.i64 (by omega) (by omega) ?_ | refine Still.mk rfl rfl ?_ | refine InB.mk (inB_mk (by omega) (by omega)) ?_ | refine Req.mk (by omega) ?_ | refine Req.mk ⟨by first | omega | (dsimp only; omega), by first | omega | (dsimp only; omega)⟩ ?_ | refine InB.mk (inB_mk (by split <;> omega) (by split <;> omega)) ?_ | refine ARet.hdI ?_ | refine Spl.mk (fun _ => ?_) (fun _ => ?_) | refine Wr.b64 ?_ | refine Wr.bu64 ?_ | refine Wr.bu32 ?_ | refine Wr.bu8 ?_ | refine Wr.u8 (by omega) (by omega) ?_ | refine Wr.u64 (by omega) (by omega) ?_ | refine Wr.u32 (by omega) (by omega) ?_ | refine Dv.pos (by omega) (by omega) ?_ | refine Rm.pos (by omega) (by omega) ?_ | refine ADraw.quiet follows_ok (by kernel_rfl) rfl ?_ | refine BSpl.decY (by first | assumption | omega) ?_ | refine BSpl.decN (by first | assumption | omega) ?_ | refine BSpl.dec (fun _ => ?_) (fun _ => ?_) | refine BSpl.yes (by assumption) ?_ | refine BSpl.no (by assumption) ?_ | refine BSpl.mk (fun _ => ?_) (fun _ => ?_))
  conv => whnf
  refine AEqI.mk fun X u h => C1.isE (l := ev.take 22) ?_ hn h
  intro i hi
  rw [List.length_take] at hi
  show Ev.cs _ = Ev.cs _
  rw [List.getD, List.getD, List.getElem?_take_of_lt (by omega)]
theorem C1.nilB {X : CX} {f : Nat → List AV} {u : Value} (h : C1 X (.v (.slice none 0 0)) u) : C1 X (.sl 1 0 true f) u := by
  have h : u = .slice none 0 0 := h
  subst h
  exact (show C0 X (.sl 1 0 true f) (.slice none 0 0) from .sl 1 0 true f none 0 [] (by omega) (Nat.le_refl _) (by simp [maxLen]) (by simp) (fun i hi => absurd hi (Nat.not_lt_zero i)) (fun _ x hx => by simp [flat] at hx) (fun i x u hx => by simp [flat] at hx) (.inl rfl))
theorem takeF_len (l : List UInt8) : (takeF l).1.ev.length ≤ 255 := by
  unfold takeF
  split
  · simp [rc0]
  · split
    · split
      · exact readF_len _
      · simp [rc0]
    · simp [rc0]

set_option maxHeartbeats 8000000 in
set_option maxRecDepth 100000 in
theorem frAll_spec (a : Rc) (b : List UInt8) (_hra : ∀ e ∈ a.ev, e.key.size ≤ 140737488355328 ∧ e.v.size ≤ 140737488355328) (hla : a.ev.length ≤ 140737488355328) :
    ASpec Try.prog 6 [a.av, .sl 1 b.length true (bytesF b)] (.v (.bool true)) [] := by
  have hfew := few07_spec a hla
  have hyl : (⟨a.k, a.r, a.u, a.c, a.ev.take 22⟩ : Rc).ev.length ≤ 140737488355328 := by dsimp only; rw [List.length_take]; omega
  generalize (⟨a.k, a.r, a.u, a.c, a.ev.take 22⟩ : Rc) = y at hfew hyl
  have hp : ∃ Q x, ASpec Try.prog 25 [y.av] (.tup [.sl 1 Q.length true (bytesF Q), .v (.int .i64 x)]) [] ∧ ASpec Try.prog 27 [y.av] (.tup [.sl 1 Q.length true (bytesF Q), .v (.int .i64 x)]) [] := by
    cases hm : mayF y with
    | true => exact ⟨frBytes y, 0, frPut_sl y hm, (r07Put_yes 0 y hm).thaw⟩
    | false => exact ⟨[], 1, (frPut_no y hyl hm).res (AEq.tup' (.of (fun _ _ h => C1.nilB h) (.same .nil))), (r07Put_no y hyl hm).res (AEq.tup' (.of (fun _ _ h => C1.nilB h) (.same .nil)))⟩
  obtain ⟨Q, e, hp1, hp2⟩ := hp
  have hB : (b.take 2100).length ≤ 2100 := by rw [List.length_take]; omega
  have hshort := short07_spec b
  generalize b.take 2100 = B at hB hshort
  have hs := seal_sl B (IsB.bytes B) rfl (by omega)
  have hsl := sealB_len B
  generalize sealB B = S at hs hsl
  have hz1 := takeF_len B
  obtain ⟨⟨z1, x1⟩, t1⟩ : ∃ p, takeF B = p := ⟨_, rfl⟩
  have hz2 := takeF_len S
  obtain ⟨⟨z2, x2⟩, t2⟩ : ∃ p, takeF S = p := ⟨_, rfl⟩
  rw [t1] at hz1
  rw [t2] at hz2
  dsimp only at hz1 hz2
  have hs1 := same07_spec z1 z1 true (by simp) (by omega) (by omega)
  have hs2 := same07_spec z2 z2 true (by simp) (by omega) (by omega)
  refine aspec_of lay_ok 524279 Try.func6 rfl rfl rfl ?_
  repeat' ((conv => whnf); first | refine Spl.yes (by first | assumption | omega) ?_ | refine Spl.no (by first | assumption | omega) ?_ | refine Wr.i64 (by omega) (by omega) ?_ | refine Still.mk rfl rfl ?_ | refine InB.mk (inB_mk (by omega) (by omega)) ?_ | refine Req.mk (by omega) ?_ | refine Req.mk ⟨by first | omega | (dsimp only; omega), by first | omega | (dsimp only; omega)⟩ ?_ | refine ACall.plain _ _ (shown07_spec) .nil rfl ?_ | refine ACall.plain _ _ (hfew) (SubL.cons (.eq _) .nil) rfl ?_ | refine ACall.plain _ _ (hp1) (SubL.cons (.eq _) .nil) rfl ?_ | refine ACall.plain _ _ (hp2) (SubL.cons (.eq _) .nil) rfl ?_ | refine ACall.plain _ _ (hshort) (SubL.cons (.eq _) .nil) rfl ?_ | refine ACall.plain _ _ (hs) (SubL.cons (.eq _) .nil) rfl ?_ | refine ACall.plain _ _ (frTake_any B t1 (IsB.bytes _) rfl) (SubL.cons (.eq _) .nil) rfl ?_ | refine ACall.plain _ _ (frTake_any S t2 (IsB.bytes _) rfl) (SubL.cons (.eq _) .nil) rfl ?_ | refine ACall.plain _ _ (rtk7_any B t1 (by omega) (IsB.bytes _) rfl) (SubL.cons (.eq _) .nil) rfl ?_ | refine ACall.plain _ _ (rtk7_any S t2 (by omega) (IsB.bytes _) rfl) (SubL.cons (.eq _) .nil) rfl ?_ | refine ACall.plain _ _ (hs1) (SubL.cons (.eq _) (SubL.cons (.eq _) .nil)) rfl ?_ | refine ACall.plain _ _ (hs2) (SubL.cons (.eq _) (SubL.cons (.eq _) .nil)) rfl ?_ | refine Bs.of Q (IsB.bytes _) rfl ?_ | refine Spl.yes rfl ?_ | refine ARet.hdI ?_ | refine Spl.mk (fun _ => ?_) (fun _ => ?_) | refine Wr.b64 ?_ | refine Wr.bu64 ?_ | refine Wr.bu32 ?_ | refine Wr.bu8 ?_ | refine Wr.u8 (by omega) (by omega) ?_ | refine Wr.u64 (by omega) (by omega) ?_ | refine Wr.u32 (by omega) (by omega) ?_ | refine Dv.pos (by omega) (by omega) ?_ | refine Rm.pos (by omega) (by omega) ?_ | refine ADraw.quiet follows_ok (by kernel_rfl) rfl ?_ | refine BSpl.decY (by first | assumption | omega) ?_ | refine BSpl.decN (by first | assumption | omega) ?_ | refine BSpl.dec (fun _ => ?_) (fun _ => ?_) | refine BSpl.yes (by assumption) ?_ | refine BSpl.no (by assumption) ?_ | refine BSpl.mk (fun _ => ?_) (fun _ => ?_))
  all_goals (conv => whnf)
  all_goals exact AEqI.mk (AEq.refl _)
end Go.Proofs.Ytbmojelnkldecaa
