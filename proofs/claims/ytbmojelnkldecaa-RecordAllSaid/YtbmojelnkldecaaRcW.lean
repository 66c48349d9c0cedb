/-
  What record.first and record.All tell of any bytes.
-/
import Derived.Test.YtbmojelnkldecaaRcV
import Derived.Test.YtbmojelnkldecaaAmG
namespace Go.Proofs.Ytbmojelnkldecaa
open Go.RowKit

theorem readR_len (b : List UInt8) : (readR b).1.ev.length ≤ 4096 := by
  have hl (t : List UInt8) (l : List Ev) (h : listF t = some l) : l.length ≤ 4096 := by
    unfold listF at h
    split at h
    · cases h
    · split at h
      · cases h
      · rename_i m k _ hm
        cases h0 : evsAt (t.drop k) m with
        | none => rw [h0] at h; cases h
        | some p =>
          obtain ⟨l0, r0⟩ := p
          rw [h0] at h
          simp only [Option.map_some, Option.some.injEq] at h
          subst h
          have := (evsAt_len h0).1
          omega
  have hr (k r u : Int) (t : List UInt8) : (rdRl k r u t).1.ev.length ≤ 4096 := by
    unfold rdRl
    split
    · simp
    · rename_i l h
      exact hl t l h
  unfold readR
  split
  · simp [rc0]
  · unfold rdR
    split
    · exact hr ..
    · split
      · unfold rdRn
        split <;> simp
      · split
        · split
          · simp
          · exact hr ..
        · split <;> simp

def firstR : Option (Rc × Nat) → AV
  | none => .tup [rc0.av, .v (.int .i64 0), .v (.bool false)]
  | some (x, n) => .tup [x.av, .v (.int .i64 (n : Int)), .v (.bool true)]

theorem nilRc (b c : AV) (f : Nat → List AV) {a1 a2 a3 a4 a5 a6 a7 a8 : AV} : AEq (.tup [.agg [a1, a2, a3, a4, a5, a6, a7, a8, .v (.slice none 0 0)], b, c]) (.tup [.agg [a1, a2, a3, a4, a5, a6, a7, a8, .sl 12 0 true f], b, c]) :=
  AEq.tup (.of (fun _ _ h => C1.nilEv h) (.same (.same .nil)))

set_option maxHeartbeats 8000000 in
set_option maxRecDepth 100000 in
theorem first_e (b : List UInt8) (hl : b.length ≤ 1000000000) : ASpec Try.prog 71 [.sl 1 b.length true (bytesF b)] (firstR (firstF b)) [] := by
  have hs := vtake_spec b (IsB.bytes b) rfl
  have hle := vtake_le b
  unfold firstF
  obtain ⟨⟨v, u, e⟩, hv⟩ : ∃ p, vtake b = p := ⟨_, rfl⟩
  rw [hv] at hs hle ⊢
  dsimp only at hs hle ⊢
  by_cases h0 : e ≠ 0 ∨ b.length - u < v
  · rw [if_pos h0]
    dsimp only [firstR]
    refine aspec_of lay_ok 295165989947680243709 Try.func71 rfl rfl rfl ?_
    repeat' ((conv => whnf); first | refine Spl.yes (by first | assumption | omega) ?_ | refine Spl.no (by first | assumption | omega) ?_ | refine Wr.i64 (by omega) (by omega) ?_ | refine Still.mk rfl rfl ?_ | refine InB.mk (inB_mk (by omega) (by omega)) ?_ | refine Req.mk (by omega) ?_ | refine Req.mk ⟨by first | omega | (dsimp only; omega), by first | omega | (dsimp only; omega)⟩ ?_ | refine ACall.plain _ _ (hs) (SubL.cons (.eq _) .nil) rfl ?_ | refine ARet.hdI ?_ | refine Spl.mk (fun _ => ?_) (fun _ => ?_) | refine Wr.b64 ?_ | refine Wr.bu64 ?_ | refine Wr.bu32 ?_ | refine Wr.bu8 ?_ | refine Wr.u8 (by omega) (by omega) ?_ | refine Wr.u64 (by omega) (by omega) ?_ | refine Wr.u32 (by omega) (by omega) ?_ | refine Dv.pos (by omega) (by omega) ?_ | refine Rm.pos (by omega) (by omega) ?_ | refine ADraw.quiet follows_ok (by kernel_rfl) rfl ?_ | refine BSpl.decY (by first | assumption | omega) ?_ | refine BSpl.decN (by first | assumption | omega) ?_ | refine BSpl.dec (fun _ => ?_) (fun _ => ?_) | refine BSpl.yes (by assumption) ?_ | refine BSpl.no (by assumption) ?_ | refine BSpl.mk (fun _ => ?_) (fun _ => ?_))
    all_goals (conv => whnf)
    all_goals first
      | exact AEqI.mk (nilRc _ _ _)
      | (exfalso; omega)
  · rw [if_neg h0]
    obtain rfl : e = 0 := by omega
    have hvl : u + v ≤ b.length := by omega
    obtain ⟨W, hW⟩ : ∃ W, W = (b.drop u).take v := ⟨_, rfl⟩
    have hWl : W.length = v := by rw [hW, List.length_take, List.length_drop]; omega
    have hWF : IsB (fun i => bytesF b (u + i)) W := by rw [hW]; exact (IsB.drop (IsB.bytes b) u).take v
    rw [← hW]
    by_cases ho : okSeal W
    · rw [if_pos ho]
      have hil : (inner W).length ≤ W.length := by unfold inner; rw [List.length_take]; omega
      have hop : ∀ {n : Nat} {F : Nat → List AV} (_ : IsB F W) (_ : n = W.length), _ := fun {n} {F} hF hn => (open_spec 0 (n := n) (F := F) (inner W) (by rw [← ok_inner ho]; exact hF) (by rw [← ok_inner ho]; exact hn) (by omega)).thaw
      have hrd := rread_spec (inner W) (IsB.bytes _) rfl (by omega)
      have hrl := readR_len (inner W)
      generalize inner W = m at hop hrd hrl hil
      obtain ⟨⟨z, ok⟩, hz⟩ : ∃ p, readR m = p := ⟨_, rfl⟩
      rw [hz] at hrd hrl ⊢
      dsimp only at hrd hrl ⊢
      cases ok with
      | false =>
        rw [if_neg (by simp)]
        dsimp only [firstR]
        refine aspec_of lay_ok 295165989947680243709 Try.func71 rfl rfl rfl ?_
        repeat' ((conv => whnf); first | refine Spl.yes (by first | assumption | omega) ?_ | refine Spl.no (by first | assumption | omega) ?_ | refine Wr.i64 (by omega) (by omega) ?_ | refine Still.mk rfl rfl ?_ | refine InB.mk (inB_mk (by omega) (by omega)) ?_ | refine Req.mk (by omega) ?_ | refine Req.mk ⟨by first | omega | (dsimp only; omega), by first | omega | (dsimp only; omega)⟩ ?_ | refine ACall.plain _ _ (hs) (SubL.cons (.eq _) .nil) rfl ?_ | refine ACall.plain _ _ (hop hWF (by omega)) (SubL.cons (.eq _) .nil) rfl ?_ | refine ACall.plain _ _ (hrd) (SubL.cons (.eq _) .nil) rfl ?_ | refine ARet.hdI ?_ | refine Spl.mk (fun _ => ?_) (fun _ => ?_) | refine Wr.b64 ?_ | refine Wr.bu64 ?_ | refine Wr.bu32 ?_ | refine Wr.bu8 ?_ | refine Wr.u8 (by omega) (by omega) ?_ | refine Wr.u64 (by omega) (by omega) ?_ | refine Wr.u32 (by omega) (by omega) ?_ | refine Dv.pos (by omega) (by omega) ?_ | refine Rm.pos (by omega) (by omega) ?_ | refine ADraw.quiet follows_ok (by kernel_rfl) rfl ?_ | refine BSpl.decY (by first | assumption | omega) ?_ | refine BSpl.decN (by first | assumption | omega) ?_ | refine BSpl.dec (fun _ => ?_) (fun _ => ?_) | refine BSpl.yes (by assumption) ?_ | refine BSpl.no (by assumption) ?_ | refine BSpl.mk (fun _ => ?_) (fun _ => ?_))
        all_goals (conv => whnf)
        all_goals exact AEqI.mk (nilRc _ _ _)
      | true =>
        cases hm : mayR z with
        | false =>
          rw [if_neg (by simp)]
          have hp := rcPut_no z (by omega) hm
          dsimp only [firstR]
          refine aspec_of lay_ok 295165989947680243709 Try.func71 rfl rfl rfl ?_
          repeat' ((conv => whnf); first | refine Spl.yes (by first | assumption | omega) ?_ | refine Spl.no (by first | assumption | omega) ?_ | refine Wr.i64 (by omega) (by omega) ?_ | refine Still.mk rfl rfl ?_ | refine InB.mk (inB_mk (by omega) (by omega)) ?_ | refine Req.mk (by omega) ?_ | refine Req.mk ⟨by first | omega | (dsimp only; omega), by first | omega | (dsimp only; omega)⟩ ?_ | refine ACall.plain _ _ (hs) (SubL.cons (.eq _) .nil) rfl ?_ | refine ACall.plain _ _ (hop hWF (by omega)) (SubL.cons (.eq _) .nil) rfl ?_ | refine ACall.plain _ _ (hrd) (SubL.cons (.eq _) .nil) rfl ?_ | refine ACall.plain _ _ (hp) (SubL.cons (.eq _) .nil) rfl ?_ | refine ARet.hdI ?_ | refine Spl.mk (fun _ => ?_) (fun _ => ?_) | refine Wr.b64 ?_ | refine Wr.bu64 ?_ | refine Wr.bu32 ?_ | refine Wr.bu8 ?_ | refine Wr.u8 (by omega) (by omega) ?_ | refine Wr.u64 (by omega) (by omega) ?_ | refine Wr.u32 (by omega) (by omega) ?_ | refine Dv.pos (by omega) (by omega) ?_ | refine Rm.pos (by omega) (by omega) ?_ | refine ADraw.quiet follows_ok (by kernel_rfl) rfl ?_ | refine BSpl.decY (by first | assumption | omega) ?_ | refine BSpl.decN (by first | assumption | omega) ?_ | refine BSpl.dec (fun _ => ?_) (fun _ => ?_) | refine BSpl.yes (by assumption) ?_ | refine BSpl.no (by assumption) ?_ | refine BSpl.mk (fun _ => ?_) (fun _ => ?_))
          all_goals (conv => whnf)
          all_goals exact AEqI.mk (nilRc _ _ _)
        | true =>
          have hp := (rcPut_yes 0 z hm).thaw
          have he : ∀ {n : Nat} (_ : n = u + v), _ := fun {n} hn => equal_spec (m := n) (rcBytes z) (b.take (u + v)) (IsB.bytes _) rfl ((IsB.bytes b).take (u + v)) (by rw [List.length_take]; omega)
          by_cases hb : rcBytes z = b.take (u + v)
          · rw [if_pos ⟨rfl, rfl, hb⟩]
            dsimp only [firstR]
            rw [decide_eq_true hb] at he
            generalize rcBytes z = w at hp he
            refine aspec_of lay_ok 295165989947680243709 Try.func71 rfl rfl rfl ?_
            repeat' ((conv => whnf); first | refine Spl.yes (by first | assumption | omega) ?_ | refine Spl.no (by first | assumption | omega) ?_ | refine Wr.i64 (by omega) (by omega) ?_ | refine Still.mk rfl rfl ?_ | refine InB.mk (inB_mk (by omega) (by omega)) ?_ | refine Req.mk (by omega) ?_ | refine Req.mk ⟨by first | omega | (dsimp only; omega), by first | omega | (dsimp only; omega)⟩ ?_ | refine ACall.plain _ _ (hs) (SubL.cons (.eq _) .nil) rfl ?_ | refine ACall.plain _ _ (hop hWF (by omega)) (SubL.cons (.eq _) .nil) rfl ?_ | refine ACall.plain _ _ (hrd) (SubL.cons (.eq _) .nil) rfl ?_ | refine ACall.plain _ _ (hp) (SubL.cons (.eq _) .nil) rfl ?_ | refine ACall.plain _ _ (he (by omega)) (SubL.cons (.eq _) (SubL.cons (.eq _) .nil)) rfl ?_ | refine ARet.hdI ?_ | refine Spl.mk (fun _ => ?_) (fun _ => ?_) | refine Wr.b64 ?_ | refine Wr.bu64 ?_ | refine Wr.bu32 ?_ | refine Wr.bu8 ?_ | refine Wr.u8 (by omega) (by omega) ?_ | refine Wr.u64 (by omega) (by omega) ?_ | refine Wr.u32 (by omega) (by omega) ?_ | refine Dv.pos (by omega) (by omega) ?_ | refine Rm.pos (by omega) (by omega) ?_ | refine ADraw.quiet follows_ok (by kernel_rfl) rfl ?_ | refine BSpl.decY (by first | assumption | omega) ?_ | refine BSpl.decN (by first | assumption | omega) ?_ | refine BSpl.dec (fun _ => ?_) (fun _ => ?_) | refine BSpl.yes (by assumption) ?_ | refine BSpl.no (by assumption) ?_ | refine BSpl.mk (fun _ => ?_) (fun _ => ?_))
            all_goals (conv => whnf)
            all_goals exact AEqI.mk (AEq.tup (.same (.of (fun X u h => AEq.int (by omega) X u h) (.same .nil))))
          · rw [if_neg (fun h => hb h.2.2)]
            dsimp only [firstR]
            rw [decide_eq_false hb] at he
            generalize rcBytes z = w at hp he
            refine aspec_of lay_ok 295165989947680243709 Try.func71 rfl rfl rfl ?_
            repeat' ((conv => whnf); first | refine Spl.yes (by first | assumption | omega) ?_ | refine Spl.no (by first | assumption | omega) ?_ | refine Wr.i64 (by omega) (by omega) ?_ | refine Still.mk rfl rfl ?_ | refine InB.mk (inB_mk (by omega) (by omega)) ?_ | refine Req.mk (by omega) ?_ | refine Req.mk ⟨by first | omega | (dsimp only; omega), by first | omega | (dsimp only; omega)⟩ ?_ | refine ACall.plain _ _ (hs) (SubL.cons (.eq _) .nil) rfl ?_ | refine ACall.plain _ _ (hop hWF (by omega)) (SubL.cons (.eq _) .nil) rfl ?_ | refine ACall.plain _ _ (hrd) (SubL.cons (.eq _) .nil) rfl ?_ | refine ACall.plain _ _ (hp) (SubL.cons (.eq _) .nil) rfl ?_ | refine ACall.plain _ _ (he (by omega)) (SubL.cons (.eq _) (SubL.cons (.eq _) .nil)) rfl ?_ | refine ARet.hdI ?_ | refine Spl.mk (fun _ => ?_) (fun _ => ?_) | refine Wr.b64 ?_ | refine Wr.bu64 ?_ | refine Wr.bu32 ?_ | refine Wr.bu8 ?_ | refine Wr.u8 (by omega) (by omega) ?_ | refine Wr.u64 (by omega) (by omega) ?_ | refine Wr.u32 (by omega) (by omega) ?_ | refine Dv.pos (by omega) (by omega) ?_ | refine Rm.pos (by omega) (by omega) ?_ | refine ADraw.quiet follows_ok (by kernel_rfl) rfl ?_ | refine BSpl.decY (by first | assumption | omega) ?_ | refine BSpl.decN (by first | assumption | omega) ?_ | refine BSpl.dec (fun _ => ?_) (fun _ => ?_) | refine BSpl.yes (by assumption) ?_ | refine BSpl.no (by assumption) ?_ | refine BSpl.mk (fun _ => ?_) (fun _ => ?_))
            all_goals (conv => whnf)
            all_goals exact AEqI.mk (nilRc _ _ _)
    · rw [if_neg ho]
      dsimp only [firstR]
      have hop : ∀ {n : Nat} {F : Nat → List AV} (_ : IsB F W) (_ : n = W.length), _ := fun {n} {F} hF hn => open_no (n := n) (F := F) W ho hF hn (by omega)
      refine aspec_of lay_ok 295165989947680243709 Try.func71 rfl rfl rfl ?_
      repeat' ((conv => whnf); first | refine Spl.yes (by first | assumption | omega) ?_ | refine Spl.no (by first | assumption | omega) ?_ | refine Wr.i64 (by omega) (by omega) ?_ | refine Still.mk rfl rfl ?_ | refine InB.mk (inB_mk (by omega) (by omega)) ?_ | refine Req.mk (by omega) ?_ | refine Req.mk ⟨by first | omega | (dsimp only; omega), by first | omega | (dsimp only; omega)⟩ ?_ | refine ACall.plain _ _ (hs) (SubL.cons (.eq _) .nil) rfl ?_ | refine ACall.plain _ _ (hop hWF (by omega)) (SubL.cons (.eq _) .nil) rfl ?_ | refine ARet.hdI ?_ | refine Spl.mk (fun _ => ?_) (fun _ => ?_) | refine Wr.b64 ?_ | refine Wr.bu64 ?_ | refine Wr.bu32 ?_ | refine Wr.bu8 ?_ | refine Wr.u8 (by omega) (by omega) ?_ | refine Wr.u64 (by omega) (by omega) ?_ | refine Wr.u32 (by omega) (by omega) ?_ | refine Dv.pos (by omega) (by omega) ?_ | refine Rm.pos (by omega) (by omega) ?_ | refine ADraw.quiet follows_ok (by kernel_rfl) rfl ?_ | refine BSpl.decY (by first | assumption | omega) ?_ | refine BSpl.decN (by first | assumption | omega) ?_ | refine BSpl.dec (fun _ => ?_) (fun _ => ?_) | refine BSpl.yes (by assumption) ?_ | refine BSpl.no (by assumption) ?_ | refine BSpl.mk (fun _ => ?_) (fun _ => ?_))
      all_goals (conv => whnf)
      all_goals exact AEqI.mk (nilRc _ _ _)

theorem first_spec {n : Nat} {F : Nat → List AV} (b : List UInt8) {p : Option (Rc × Nat)} (hp : firstF b = p) (hF : IsB F b) (hn : n = b.length) (hl : b.length ≤ 1000000000) : ASpec Try.prog 71 [.sl 1 n true F] (firstR p) [] := by
  have := (first_e b hl).args (Ch.isB hF hn .nil)
  rwa [hp] at this

theorem C1.nilS {X : CX} {s : Nat} {sc : Bool} {f : Nat → List AV} (hs : 0 < s) {u : Value} (h : C1 X (.v (.slice none 0 0)) u) : C1 X (.sl s 0 sc f) u := by
  have h : u = .slice none 0 0 := h
  subst h
  exact (show C0 X (.sl s 0 sc f) (.slice none 0 0) from .sl s 0 sc f none 0 [] hs (Nat.le_refl _) (by simp [maxLen]) (by simp) (fun i hi => absurd hi (Nat.not_lt_zero i)) (fun _ x hx => by simp [flat] at hx) (fun i x u hx => by simp [flat] at hx) (.inl rfl))

abbrev rcF (l : List Rc) : Nat → List AV := elsF Rc.cs l

theorem rcsB_len : ∀ l : List Rc, l.length ≤ (rcsB l).length
  | [] => Nat.le_refl _
  | x :: l => by
    have := rcsB_len l
    have := rcBytes_len x
    show l.length + 1 ≤ (rcBytes x ++ rcsB l).length
    rw [List.length_append]
    omega
set_option maxHeartbeats 8000000 in
set_option maxRecDepth 100000 in
theorem all_e (b : List UInt8) (hl : b.length ≤ 1000000000) (l : List Rc) (t : List UInt8) (hr : Recs b l t) :
    ASpec Try.prog 37 [.sl 1 b.length true (bytesF b)] (.tup [.sl 9 l.length false (rcF l), .v (.int .i64 ((rcsB l).length : Int))]) [] := by
  have hbl : (rcsB l).length ≤ b.length := by rw [hr.eq, List.length_append]; omega
  have hat : ∀ j, j ≤ l.length → (rcsB (l.take j)).length ≤ b.length := by
    intro j _
    have e : rcsB l = rcsB (l.take j) ++ rcsB (l.drop j) := by
      show _ = List.flatMap rcBytes (l.take j) ++ List.flatMap rcBytes (l.drop j)
      rw [← List.flatMap_append, List.take_append_drop]
      rfl
    have := congrArg List.length e
    rw [List.length_append] at this
    omega
  have hnx : ∀ j, j < l.length → (rcsB (l.take (j + 1))).length = (rcsB (l.take j)).length + (rcBytes (l.getD j default)).length := fun j hj => by rw [recs_take hj, List.length_append]
  have hll := rcsB_len l
  have hstep := recs_step hr
  have hend := recs_end hr
  refine aspec_goto lay_ok 131581 (l := 0) Try.func37 rfl rfl rfl (by rfl) ?_
  conv => whnf
  refine AGoto.mk { j : Nat // j ≤ l.length } (fun j => match j with
    | ⟨0, _⟩ => ⟨[(0, .sl 1 b.length true (bytesF b)), (4, .v (.slice none 0 0)), (5, .v (.int .i64 0))], [], [], 0⟩
    | ⟨i + 1, _⟩ => ⟨[(0, .sl 1 b.length true (bytesF b)), (4, .own 90), (5, .v (.int .i64 ((rcsB (l.take (i + 1))).length : Int)))], [(90, .row 39 9 (i + 1) false (rcF (l.take (i + 1))))], [], 91⟩)
    (fun j => l.length - j.1) ⟨0, Nat.zero_le _⟩ _
    (LeR.mk' [] _ _ _ rfl ⟨AEq.refl _, AEq.refl _, AEq.int rfl, trivial⟩ trivial rfl) ?_
  rintro ⟨_ | i, hj⟩
  · dsimp only
    by_cases h0 : 0 < l.length
    · have hs := hstep 0 h0
      have hn := hnx 0 h0
      have ha := hat (0 + 1) (by omega)
      rw [show rcsB (l.take 0) = [] from rfl, List.length_nil] at hs hn
      have htk : (l.take (0 + 1)).length = 1 := by rw [List.length_take]; omega
      have hg : l.take (0 + 1) = [l.getD 0 default] := by cases l with | nil => cases h0 | cons a l => rfl
      repeat' ((conv => whnf); first | refine Spl.yes (by first | assumption | omega) ?_ | refine Spl.no (by first | assumption | omega) ?_ | refine Wr.i64 (by omega) (by omega) ?_ | refine Still.mk rfl rfl ?_ | refine InB.mk (inB_mk (by omega) (by omega)) ?_ | refine Req.mk (by omega) ?_ | refine Req.mk ⟨by first | omega | (dsimp only; omega), by first | omega | (dsimp only; omega)⟩ ?_ | refine ACall.plain _ _ (first_spec (b.drop 0) hs (IsB.drop (IsB.bytes b) 0) (by simp) (by simp; omega)) (SubL.cons (.eq _) .nil) rfl ?_ | refine ARet.hdI ?_ | refine Spl.mk (fun _ => ?_) (fun _ => ?_) | refine Wr.b64 ?_ | refine Wr.bu64 ?_ | refine Wr.bu32 ?_ | refine Wr.bu8 ?_ | refine Wr.u8 (by omega) (by omega) ?_ | refine Wr.u64 (by omega) (by omega) ?_ | refine Wr.u32 (by omega) (by omega) ?_ | refine Dv.pos (by omega) (by omega) ?_ | refine Rm.pos (by omega) (by omega) ?_ | refine ADraw.quiet follows_ok (by kernel_rfl) rfl ?_ | refine BSpl.decY (by first | assumption | omega) ?_ | refine BSpl.decN (by first | assumption | omega) ?_ | refine BSpl.dec (fun _ => ?_) (fun _ => ?_) | refine BSpl.yes (by assumption) ?_ | refine BSpl.no (by assumption) ?_ | refine BSpl.mk (fun _ => ?_) (fun _ => ?_))
      conv => whnf
      refine ⟨⟨0 + 1, by omega⟩, _, LeR.mk' [(2, 90)] _ _ _ rfl ⟨AEq.refl _, AEq.refl _, AEq.int (by omega), trivial⟩ ⟨⟨_, rfl, OEq.row rfl (fun m hm => ?_)⟩, trivial⟩ rfl, by show l.length - (0 + 1) < l.length - 0; omega⟩
      have hm : m < 1 := hm
      obtain rfl : m = 0 := by omega
      show _ = rcF (l.take (0 + 1)) 0
      rw [hg]
      rfl
    · have hl0 : l = [] := List.eq_nil_of_length_eq_zero (by omega)
      subst hl0
      rw [show rcsB [] = [] from rfl, List.length_nil] at hend
      repeat' ((conv => whnf); first | refine Spl.yes (by first | assumption | omega) ?_ | refine Spl.no (by first | assumption | omega) ?_ | refine Wr.i64 (by omega) (by omega) ?_ | refine Still.mk rfl rfl ?_ | refine InB.mk (inB_mk (by omega) (by omega)) ?_ | refine Req.mk (by omega) ?_ | refine Req.mk ⟨by first | omega | (dsimp only; omega), by first | omega | (dsimp only; omega)⟩ ?_ | refine ACall.plain _ _ (first_spec (b.drop 0) hend (IsB.drop (IsB.bytes b) 0) (by simp) (by simp; omega)) (SubL.cons (.eq _) .nil) rfl ?_ | refine ARet.hdI ?_ | refine Spl.mk (fun _ => ?_) (fun _ => ?_) | refine Wr.b64 ?_ | refine Wr.bu64 ?_ | refine Wr.bu32 ?_ | refine Wr.bu8 ?_ | refine Wr.u8 (by omega) (by omega) ?_ | refine Wr.u64 (by omega) (by omega) ?_ | refine Wr.u32 (by omega) (by omega) ?_ | refine Dv.pos (by omega) (by omega) ?_ | refine Rm.pos (by omega) (by omega) ?_ | refine ADraw.quiet follows_ok (by kernel_rfl) rfl ?_ | refine BSpl.decY (by first | assumption | omega) ?_ | refine BSpl.decN (by first | assumption | omega) ?_ | refine BSpl.dec (fun _ => ?_) (fun _ => ?_) | refine BSpl.yes (by assumption) ?_ | refine BSpl.no (by assumption) ?_ | refine BSpl.mk (fun _ => ?_) (fun _ => ?_))
      conv => whnf
      exact AEqI.mk (AEq.tup (.of (fun X u h => C1.nilS (by decide) h) (.same .nil)))
  · dsimp only
    have hai := hat (i + 1) hj
    have hlt : (l.take (i + 1)).length = i + 1 := by rw [List.length_take]; omega
    by_cases h0 : i + 1 < l.length
    · have hs := hstep (i + 1) h0
      have hn := hnx (i + 1) h0
      have ha := hat (i + 1 + 1) (by omega)
      have hg : l.take (i + 1 + 1) = l.take (i + 1) ++ [l.getD (i + 1) default] := by
        rw [List.getD, List.getElem?_eq_getElem h0]; exact (List.take_append_getElem h0).symm
      repeat' ((conv => whnf); first | refine Spl.yes (by first | assumption | omega) ?_ | refine Spl.no (by first | assumption | omega) ?_ | refine Wr.i64 (by omega) (by omega) ?_ | refine Still.mk rfl rfl ?_ | refine InB.mk (inB_mk (by omega) (by omega)) ?_ | refine Req.mk (by omega) ?_ | refine Req.mk ⟨by first | omega | (dsimp only; omega), by first | omega | (dsimp only; omega)⟩ ?_ | refine ACall.plain _ _ (first_spec (b.drop (rcsB (l.take (i + 1))).length) hs (IsB.drop (IsB.bytes b) _) (by simp) (by simp; omega)) (SubL.cons (.eq _) .nil) rfl ?_ | refine ARet.hdI ?_ | refine Spl.mk (fun _ => ?_) (fun _ => ?_) | refine Wr.b64 ?_ | refine Wr.bu64 ?_ | refine Wr.bu32 ?_ | refine Wr.bu8 ?_ | refine Wr.u8 (by omega) (by omega) ?_ | refine Wr.u64 (by omega) (by omega) ?_ | refine Wr.u32 (by omega) (by omega) ?_ | refine Dv.pos (by omega) (by omega) ?_ | refine Rm.pos (by omega) (by omega) ?_ | refine ADraw.quiet follows_ok (by kernel_rfl) rfl ?_ | refine BSpl.decY (by first | assumption | omega) ?_ | refine BSpl.decN (by first | assumption | omega) ?_ | refine BSpl.dec (fun _ => ?_) (fun _ => ?_) | refine BSpl.yes (by assumption) ?_ | refine BSpl.no (by assumption) ?_ | refine BSpl.mk (fun _ => ?_) (fun _ => ?_))
      conv => whnf
      refine ⟨⟨i + 1 + 1, by omega⟩, _, LeR.mk' [(93, 90)] _ _ _ rfl ⟨AEq.refl _, AEq.refl _, AEq.int (by omega), trivial⟩ ⟨⟨_, rfl, OEq.row rfl (fun m hm => ?_)⟩, trivial⟩ rfl, by show l.length - (i + 1 + 1) < l.length - (i + 1); omega⟩
      show _ = rcF (l.take (i + 1 + 1)) m
      rw [hg]
      exact els_app1 (c := Rc.cs) hlt.symm rfl m hm
    · have hli : l.take (i + 1) = l := List.take_of_length_le (by omega)
      have hle : i + 1 = l.length := by omega
      rw [hli] at hai hlt ⊢
      rw [hle]
      repeat' ((conv => whnf); first | refine Spl.yes (by first | assumption | omega) ?_ | refine Spl.no (by first | assumption | omega) ?_ | refine Wr.i64 (by omega) (by omega) ?_ | refine Still.mk rfl rfl ?_ | refine InB.mk (inB_mk (by omega) (by omega)) ?_ | refine Req.mk (by omega) ?_ | refine Req.mk ⟨by first | omega | (dsimp only; omega), by first | omega | (dsimp only; omega)⟩ ?_ | refine ACall.plain _ _ (first_spec (b.drop (rcsB l).length) hend (IsB.drop (IsB.bytes b) _) (by simp) (by simp; omega)) (SubL.cons (.eq _) .nil) rfl ?_ | refine ARet.hdI ?_ | refine Spl.mk (fun _ => ?_) (fun _ => ?_) | refine Wr.b64 ?_ | refine Wr.bu64 ?_ | refine Wr.bu32 ?_ | refine Wr.bu8 ?_ | refine Wr.u8 (by omega) (by omega) ?_ | refine Wr.u64 (by omega) (by omega) ?_ | refine Wr.u32 (by omega) (by omega) ?_ | refine Dv.pos (by omega) (by omega) ?_ | refine Rm.pos (by omega) (by omega) ?_ | refine ADraw.quiet follows_ok (by kernel_rfl) rfl ?_ | refine BSpl.decY (by first | assumption | omega) ?_ | refine BSpl.decN (by first | assumption | omega) ?_ | refine BSpl.dec (fun _ => ?_) (fun _ => ?_) | refine BSpl.yes (by assumption) ?_ | refine BSpl.no (by assumption) ?_ | refine BSpl.mk (fun _ => ?_) (fun _ => ?_))
      conv => whnf
      exact AEqI.mk (AEq.refl _)

theorem all_spec {n : Nat} {F : Nat → List AV} (b : List UInt8) (hF : IsB F b) (hn : n = b.length) (hl : b.length ≤ 1000000000) {l : List Rc} {t : List UInt8} (hr : Recs b l t) :
    ASpec Try.prog 37 [.sl 1 n true F] (.tup [.sl 9 l.length false (rcF l), .v (.int .i64 ((rcsB l).length : Int))]) [] :=
  (all_e b hl l t hr).args (Ch.isB hF hn .nil)
end Go.Proofs.Ytbmojelnkldecaa
