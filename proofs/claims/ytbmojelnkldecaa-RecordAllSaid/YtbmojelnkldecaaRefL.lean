/-
  The statement RecordAll, walked.
-/
import Derived.Test.YtbmojelnkldecaaRefK
import Derived.Test.YtbmojelnkldecaaRefD
namespace Go.Proofs.Ytbmojelnkldecaa
open Go.RowKit

theorem C1.nilB {X : CX} {f : Nat → List AV} {u : Value} (h : C1 X (.v (.slice none 0 0)) u) : C1 X (.sl 1 0 true f) u := by
  have h : u = .slice none 0 0 := h
  subst h
  exact (show C0 X (.sl 1 0 true f) (.slice none 0 0) from .sl 1 0 true f none 0 [] (by omega) (Nat.le_refl _) (by simp [maxLen]) (by simp) (fun i hi => absurd hi (Nat.not_lt_zero i)) (fun _ x hx => by simp [flat] at hx) (fun i x u hx => by simp [flat] at hx) (.inl rfl))
theorem recs_drop {b : List UInt8} {l : List Rc} {t : List UInt8} (h : Recs b l t) (j : Nat) (hj : j < l.length) : b.drop (rcsB (l.take j)).length = rcBytes (l.getD j default) ++ (rcsB (l.drop (j + 1)) ++ t) := by
  have e : l = l.take j ++ l.getD j default :: l.drop (j + 1) := by
    rw [List.getD, List.getElem?_eq_getElem hj]
    simp
  have e2 : b = rcsB (l.take j) ++ (rcBytes (l.getD j default) ++ (rcsB (l.drop (j + 1)) ++ t)) := by
    rw [h.eq]
    conv => lhs; rw [e]
    simp [rcsB]
  conv => lhs; rw [e2]
  rw [List.drop_left]

set_option maxHeartbeats 8000000 in
set_option maxRecDepth 100000 in
theorem all18_e (b : List UInt8) (hl : b.length ≤ 1000000000) (l : List Rc) (t : List UInt8) (hr : Recs b l t) :
    ASpec Try.prog 38 [.sl 1 b.length true (bytesF b)] (.tup [.sl 9 l.length false (rcF l), .v (.int .i64 ((rcsB l).length : Int))]) [] := by
  have hbl : (rcsB l).length ≤ b.length := by rw [hr.eq, List.length_append]; omega
  have hll := rcsB_len l
  refine aspec_of lay_ok 151115727451897366347773 Try.func38 rfl rfl rfl ?_
  repeat' ((conv => whnf); first | refine Spl.yes (by first | assumption | omega) ?_ | refine Spl.no (by first | assumption | omega) ?_ | refine Wr.i64 (by omega) (by omega) ?_ | refine Still.mk rfl rfl ?_ | refine InB.mk (inB_mk (by omega) (by omega)) ?_ | refine Req.mk (by omega) ?_ | refine Req.mk ⟨by first | omega | (dsimp only; omega), by first | omega | (dsimp only; omega)⟩ ?_ | refine ARet.hdI ?_ | refine Spl.mk (fun _ => ?_) (fun _ => ?_) | refine Wr.b64 ?_ | refine Wr.bu64 ?_ | refine Wr.bu32 ?_ | refine Wr.bu8 ?_ | refine Wr.u8 (by omega) (by omega) ?_ | refine Wr.u64 (by omega) (by omega) ?_ | refine Wr.u32 (by omega) (by omega) ?_ | refine Dv.pos (by omega) (by omega) ?_ | refine Rm.pos (by omega) (by omega) ?_ | refine ADraw.quiet follows_ok (by kernel_rfl) rfl ?_ | refine ADraw.sched (id := 10) lay_ok (awp_snd lay_ok _) [(0, none), (1, none), (2, none), (3, none), (4, none), (5, none), (6, none), (7, none), (8, none), (9, none), (10, none), (11, none), (12, none), (13, none), (14, none), (15, none)] [] follows_ok (by kernel_rfl) ?_ | refine BSpl.decY (by first | assumption | omega) ?_ | refine BSpl.decN (by first | assumption | omega) ?_ | refine BSpl.dec (fun _ => ?_) (fun _ => ?_) | refine BSpl.yes (by assumption) ?_ | refine BSpl.no (by assumption) ?_ | refine BSpl.mk (fun _ => ?_) (fun _ => ?_))
  conv => whnf
  refine ALoop.mk { j : Nat // j ≤ l.length } (fun j => ⟨[(0, .sl 1 b.length true (bytesF b)), (4, .own 90), (5, .v (.int .i64 ((rcsB (l.take j.1)).length : Int)))],
      [(90, .row 39 9 (l.take j.1).length false (rcF (l.take j.1)))], [], 91⟩) (fun j => l.length - j.1) ⟨0, Nat.zero_le _⟩ _
    (LeR.mk' [(0, 90)] _ _ _ rfl ⟨AEq.refl _, AEq.refl _, AEq.int rfl, trivial⟩ ⟨⟨_, rfl, OEq.rowF rfl (fun i hi => absurd hi (Nat.not_lt_zero i))⟩, trivial⟩ rfl) ?_
  rintro ⟨j, hj⟩
  dsimp only
  have hlt : (l.take j).length = j := by rw [List.length_take]; omega
  by_cases hjl : j < l.length
  · have hd := recs_drop hr j hjl
    have hx : mayR (l.getD j default) = true := by
      rw [List.getD, List.getElem?_eq_getElem hjl]
      exact hr.may _ (List.getElem_mem hjl)
    have hn : (rcsB (l.take (j + 1))).length = (rcsB (l.take j)).length + (rcBytes (l.getD j default)).length := by rw [recs_take hjl, List.length_append]
    have hg : l.take (j + 1) = l.take j ++ [l.getD j default] := by
      rw [List.getD, List.getElem?_eq_getElem hjl]; exact (List.take_append_getElem hjl).symm
    generalize hX : l.getD j default = x at hd hx hn hg
    generalize hrest : rcsB (l.drop (j + 1)) ++ t = rest at hd
    obtain ⟨a, ha⟩ : ∃ a, a = (rcsB (l.take j)).length := ⟨_, rfl⟩
    rw [← ha] at hd hn ⊢
    have hbd := congrArg List.length hd
    rw [List.length_drop, List.length_append] at hbd
    have hbody := rcBody_len x hx
    have hsl := sealB_len (rcBody x)
    have hrt := rtake_spec (b.drop a) (n := b.length - a) ((IsB.bytes b).drop a) (by simp) (by simp; omega)
    have hdS : b.drop a = vput (sealB (rcBody x)).length ++ (sealB (rcBody x) ++ rest) := by rw [hd]; simp [rcBytes]
    rw [hdS, rtake_put _ _ (by omega)] at hrt
    dsimp only at hrt
    have hrl : (rcBytes x).length = (vput (sealB (rcBody x)).length).length + (sealB (rcBody x)).length := by unfold rcBytes; rw [List.length_append]
    obtain ⟨f, hf1, _, hf3⟩ := refR_any (rcBody x) (by omega)
    obtain rfl : f = x := hf3 x hx rfl
    have hop : ∀ {n : Nat} {F : Nat → List AV} (_ : IsB F (sealB (rcBody f))) (_ : n = (sealB (rcBody f)).length), _ := fun {n F} hF hn => kopen_ok (n := n) (F := F) (rcBody f) hF hn (by omega)
    have hput := fun d => r18Put_yes d f hx
    have hSF : ∀ u, u = a + (vput (sealB (rcBody f)).length).length → IsB (fun i => bytesF b (u + i)) (sealB (rcBody f)) := by
      intro u hu i hi
      have h1 : bytesF b (u + i) = bytesF (b.drop u) i := (IsB.bytes b).drop u i (by subst hu; rw [← List.drop_drop, hdS, List.drop_left, List.length_append]; omega)
      show bytesF b (u + i) = _
      rw [h1, hu, ← List.drop_drop, hdS, List.drop_left]
      have := (IsB.bytes (sealB (rcBody f) ++ rest)).take (sealB (rcBody f)).length i
      rw [List.take_left] at this
      exact this hi
    have hwF : IsB (fun i => bytesF b (a + i)) (rcBytes f) := by
      intro i hi
      have h1 : bytesF b (a + i) = bytesF (b.drop a) i := (IsB.bytes b).drop a i (by rw [hd, List.length_append]; omega)
      show bytesF b (a + i) = _
      rw [h1, hd]
      have := (IsB.bytes (rcBytes f ++ rest)).take (rcBytes f).length i
      rw [List.take_left] at this
      exact this hi
    generalize rcBytes f = w at hput hwF hrl hn hbd hd
    generalize (vput (sealB (rcBody f)).length).length = v at hrt hrl hSF
    generalize sealB (rcBody f) = S at hop hSF hrl hrt hsl
    generalize rcBody f = m at hop hf1 hsl hbody
    clear hdS hd hf3
    repeat' ((conv => whnf); first | refine Spl.yes (by first | assumption | omega) ?_ | refine Spl.no (by first | assumption | omega) ?_ | refine Wr.i64 (by omega) (by omega) ?_ | refine Still.mk rfl rfl ?_ | refine InB.mk (inB_mk (by omega) (by omega)) ?_ | refine Req.mk (by omega) ?_ | refine Req.mk ⟨by first | omega | (dsimp only; omega), by first | omega | (dsimp only; omega)⟩ ?_ | refine ACall.plain _ _ (hrt) (SubL.cons (.eq _) .nil) rfl ?_ | refine ACall.plain _ _ (hop (hSF _ (by omega)) (by omega)) (SubL.cons (.eq _) .nil) rfl ?_ | refine ACall.plain _ _ (hf1) (SubL.cons (.eq _) .nil) rfl ?_ | refine ACall.fresh _ _ _ _ _ _ _ (hput _) (SubL.cons (.eq _) .nil) rfl ?_ | refine Bs.of w (IsB.bytes _) rfl ?_ | refine Bs.of w hwF (by omega) ?_ | refine Spl.yes rfl ?_ | refine ARet.hdI ?_ | refine Spl.mk (fun _ => ?_) (fun _ => ?_) | refine Wr.b64 ?_ | refine Wr.bu64 ?_ | refine Wr.bu32 ?_ | refine Wr.bu8 ?_ | refine Wr.u8 (by omega) (by omega) ?_ | refine Wr.u64 (by omega) (by omega) ?_ | refine Wr.u32 (by omega) (by omega) ?_ | refine Dv.pos (by omega) (by omega) ?_ | refine Rm.pos (by omega) (by omega) ?_ | refine ADraw.quiet follows_ok (by kernel_rfl) rfl ?_ | refine ADraw.sched (id := 10) lay_ok (awp_snd lay_ok _) [(0, none), (1, none), (2, none), (3, none), (4, none), (5, none), (6, none), (7, none), (8, none), (9, none), (10, none), (11, none), (12, none), (13, none), (14, none), (15, none)] [] follows_ok (by kernel_rfl) ?_ | refine BSpl.decY (by first | assumption | omega) ?_ | refine BSpl.decN (by first | assumption | omega) ?_ | refine BSpl.dec (fun _ => ?_) (fun _ => ?_) | refine BSpl.yes (by assumption) ?_ | refine BSpl.no (by assumption) ?_ | refine BSpl.mk (fun _ => ?_) (fun _ => ?_))
    conv => whnf
    refine ⟨⟨j + 1, by omega⟩, _, LeR.mk' [(94, 90)] _ _ _ rfl ⟨AEq.refl _, AEq.refl _, AEq.int (by dsimp only; omega), trivial⟩ ⟨⟨_, rfl, OEq.row ?_ (fun m hm => ?_)⟩, trivial⟩ rfl, by show l.length - (j + 1) < l.length - j; omega⟩
    · rw [hg, List.length_append]
      rfl
    · show _ = rcF (l.take (j + 1)) m
      rw [hg]
      exact els_app1 (c := Rc.cs) rfl rfl m hm
  · have hW : l.take j = l := List.take_of_length_le (by omega)
    rw [hW] at hlt ⊢
    have hend := recs_end hr
    obtain ⟨a, ha⟩ : ∃ a, a = (rcsB l).length := ⟨_, rfl⟩
    rw [← ha] at hend hbl ⊢
    have hrt := rtake_spec (b.drop a) (n := b.length - a) ((IsB.bytes b).drop a) (by simp) (by simp; omega)
    have hrl := rtake_le (b.drop a)
    rw [List.length_drop] at hrl
    obtain ⟨⟨n, k, e⟩, ht⟩ : ∃ p, rtake (b.drop a) = p := ⟨_, rfl⟩
    rw [ht] at hrt hrl
    dsimp only at hrt hrl
    by_cases h0 : e ≠ 0 ∨ b.length - a - k < n
    · repeat' ((conv => whnf); first | refine Spl.yes (by first | assumption | omega) ?_ | refine Spl.no (by first | assumption | omega) ?_ | refine Wr.i64 (by omega) (by omega) ?_ | refine Still.mk rfl rfl ?_ | refine InB.mk (inB_mk (by omega) (by omega)) ?_ | refine Req.mk (by omega) ?_ | refine Req.mk ⟨by first | omega | (dsimp only; omega), by first | omega | (dsimp only; omega)⟩ ?_ | refine ACall.plain _ _ (hrt) (SubL.cons (.eq _) .nil) rfl ?_ | refine ARet.hdI ?_ | refine Spl.mk (fun _ => ?_) (fun _ => ?_) | refine Wr.b64 ?_ | refine Wr.bu64 ?_ | refine Wr.bu32 ?_ | refine Wr.bu8 ?_ | refine Wr.u8 (by omega) (by omega) ?_ | refine Wr.u64 (by omega) (by omega) ?_ | refine Wr.u32 (by omega) (by omega) ?_ | refine Dv.pos (by omega) (by omega) ?_ | refine Rm.pos (by omega) (by omega) ?_ | refine ADraw.quiet follows_ok (by kernel_rfl) rfl ?_ | refine ADraw.sched (id := 10) lay_ok (awp_snd lay_ok _) [(0, none), (1, none), (2, none), (3, none), (4, none), (5, none), (6, none), (7, none), (8, none), (9, none), (10, none), (11, none), (12, none), (13, none), (14, none), (15, none)] [] follows_ok (by kernel_rfl) ?_ | refine BSpl.decY (by first | assumption | omega) ?_ | refine BSpl.decN (by first | assumption | omega) ?_ | refine BSpl.dec (fun _ => ?_) (fun _ => ?_) | refine BSpl.yes (by assumption) ?_ | refine BSpl.no (by assumption) ?_ | refine BSpl.mk (fun _ => ?_) (fun _ => ?_))
      all_goals (conv => whnf)
      all_goals first
        | exact AEqI.mk (AEq.refl _)
        | (exfalso; omega)
    · obtain rfl : e = 0 := by omega
      have hvl : a + k + n ≤ b.length := by omega
      obtain ⟨W, hW⟩ : ∃ W, W = (b.drop (a + k)).take n := ⟨_, rfl⟩
      have hWl : W.length = n := by rw [hW, List.length_take, List.length_drop]; omega
      have hWF : IsB (fun i => bytesF b (a + k + i)) W := by rw [hW]; exact (IsB.drop (IsB.bytes b) (a + k)).take n
      by_cases ho : okSeal W
      · have hil : (inner W).length ≤ W.length := by unfold inner; rw [List.length_take]; omega
        have hop : ∀ {n : Nat} {F : Nat → List AV} (_ : IsB F W) (_ : n = W.length), _ := fun {n} {F} hF hn => kopen_ok (n := n) (F := F) (inner W) (by rw [← ok_inner ho]; exact hF) (by rw [← ok_inner ho]; exact hn) (by omega)
        obtain ⟨f, hf1, hf2, hf3⟩ := refR_any (inner W) (by omega)
        generalize inner W = m at hop hil hf1
        cases hm : mayR f with
        | false =>
          have hp := r18Put_no f (by omega) hm
          repeat' ((conv => whnf); first | refine Spl.yes (by first | assumption | omega) ?_ | refine Spl.no (by first | assumption | omega) ?_ | refine Wr.i64 (by omega) (by omega) ?_ | refine Still.mk rfl rfl ?_ | refine InB.mk (inB_mk (by omega) (by omega)) ?_ | refine Req.mk (by omega) ?_ | refine Req.mk ⟨by first | omega | (dsimp only; omega), by first | omega | (dsimp only; omega)⟩ ?_ | refine ACall.plain _ _ (hrt) (SubL.cons (.eq _) .nil) rfl ?_ | refine ACall.plain _ _ (hop hWF (by omega)) (SubL.cons (.eq _) .nil) rfl ?_ | refine ACall.plain _ _ (hf1) (SubL.cons (.eq _) .nil) rfl ?_ | refine ACall.plain _ _ (hp) (SubL.cons (.eq _) .nil) rfl ?_ | refine ARet.hdI ?_ | refine Spl.mk (fun _ => ?_) (fun _ => ?_) | refine Wr.b64 ?_ | refine Wr.bu64 ?_ | refine Wr.bu32 ?_ | refine Wr.bu8 ?_ | refine Wr.u8 (by omega) (by omega) ?_ | refine Wr.u64 (by omega) (by omega) ?_ | refine Wr.u32 (by omega) (by omega) ?_ | refine Dv.pos (by omega) (by omega) ?_ | refine Rm.pos (by omega) (by omega) ?_ | refine ADraw.quiet follows_ok (by kernel_rfl) rfl ?_ | refine ADraw.sched (id := 10) lay_ok (awp_snd lay_ok _) [(0, none), (1, none), (2, none), (3, none), (4, none), (5, none), (6, none), (7, none), (8, none), (9, none), (10, none), (11, none), (12, none), (13, none), (14, none), (15, none)] [] follows_ok (by kernel_rfl) ?_ | refine BSpl.decY (by first | assumption | omega) ?_ | refine BSpl.decN (by first | assumption | omega) ?_ | refine BSpl.dec (fun _ => ?_) (fun _ => ?_) | refine BSpl.yes (by assumption) ?_ | refine BSpl.no (by assumption) ?_ | refine BSpl.mk (fun _ => ?_) (fun _ => ?_))
          all_goals (conv => whnf)
          all_goals exact AEqI.mk (AEq.refl _)
        | true =>
          have hp := fun d => r18Put_yes d f hm
          have hne : ¬ rcBytes f = (b.drop a).take (k + n) := by
            intro h
            have : b.drop a = rcBytes f ++ (b.drop a).drop (k + n) := by rw [h, List.take_append_drop]
            rw [this, firstF_put f hm] at hend
            cases hend
          have hne := str_ne2 hne
          generalize rcBytes f = w at hp hne
          repeat' ((conv => whnf); first | refine Spl.yes (by first | assumption | omega) ?_ | refine Spl.no (by first | assumption | omega) ?_ | refine Wr.i64 (by omega) (by omega) ?_ | refine Still.mk rfl rfl ?_ | refine InB.mk (inB_mk (by omega) (by omega)) ?_ | refine Req.mk (by omega) ?_ | refine Req.mk ⟨by first | omega | (dsimp only; omega), by first | omega | (dsimp only; omega)⟩ ?_ | refine ACall.plain _ _ (hrt) (SubL.cons (.eq _) .nil) rfl ?_ | refine ACall.plain _ _ (hop hWF (by omega)) (SubL.cons (.eq _) .nil) rfl ?_ | refine ACall.plain _ _ (hf1) (SubL.cons (.eq _) .nil) rfl ?_ | refine ACall.fresh _ _ _ _ _ _ _ (hp _) (SubL.cons (.eq _) .nil) rfl ?_ | refine Bs.of w (IsB.bytes _) rfl ?_ | refine Bs.of ((b.drop a).take (k + n)) (((IsB.bytes b).drop a).take (k + n)) (by rw [List.length_take, List.length_drop]; omega) ?_ | refine Spl.no hne ?_ | refine ARet.hdI ?_ | refine Spl.mk (fun _ => ?_) (fun _ => ?_) | refine Wr.b64 ?_ | refine Wr.bu64 ?_ | refine Wr.bu32 ?_ | refine Wr.bu8 ?_ | refine Wr.u8 (by omega) (by omega) ?_ | refine Wr.u64 (by omega) (by omega) ?_ | refine Wr.u32 (by omega) (by omega) ?_ | refine Dv.pos (by omega) (by omega) ?_ | refine Rm.pos (by omega) (by omega) ?_ | refine ADraw.quiet follows_ok (by kernel_rfl) rfl ?_ | refine ADraw.sched (id := 10) lay_ok (awp_snd lay_ok _) [(0, none), (1, none), (2, none), (3, none), (4, none), (5, none), (6, none), (7, none), (8, none), (9, none), (10, none), (11, none), (12, none), (13, none), (14, none), (15, none)] [] follows_ok (by kernel_rfl) ?_ | refine BSpl.decY (by first | assumption | omega) ?_ | refine BSpl.decN (by first | assumption | omega) ?_ | refine BSpl.dec (fun _ => ?_) (fun _ => ?_) | refine BSpl.yes (by assumption) ?_ | refine BSpl.no (by assumption) ?_ | refine BSpl.mk (fun _ => ?_) (fun _ => ?_))
          all_goals (conv => whnf)
          all_goals exact AEqI.mk (AEq.refl _)
      · have hop : ∀ {n : Nat} {F : Nat → List AV} (_ : IsB F W) (_ : n = W.length), _ := fun {n} {F} hF hn => kopen_no (n := n) (F := F) W ho hF hn (by omega)
        have hf1 := (refR_short [] (by decide)).1.args (avs := [.v (.slice none 0 0)]) (.of (fun X u h => C1.nilB h) .nil)
        have hp := r18Put_no rc0 (by decide) (by decide)
        repeat' ((conv => whnf); first | refine Spl.yes (by first | assumption | omega) ?_ | refine Spl.no (by first | assumption | omega) ?_ | refine Wr.i64 (by omega) (by omega) ?_ | refine Still.mk rfl rfl ?_ | refine InB.mk (inB_mk (by omega) (by omega)) ?_ | refine Req.mk (by omega) ?_ | refine Req.mk ⟨by first | omega | (dsimp only; omega), by first | omega | (dsimp only; omega)⟩ ?_ | refine ACall.plain _ _ (hrt) (SubL.cons (.eq _) .nil) rfl ?_ | refine ACall.plain _ _ (hop hWF (by omega)) (SubL.cons (.eq _) .nil) rfl ?_ | refine ACall.plain _ _ (hf1) (SubL.cons (.eq _) .nil) rfl ?_ | refine ACall.plain _ _ (hp) (SubL.cons (.eq _) .nil) rfl ?_ | refine ARet.hdI ?_ | refine Spl.mk (fun _ => ?_) (fun _ => ?_) | refine Wr.b64 ?_ | refine Wr.bu64 ?_ | refine Wr.bu32 ?_ | refine Wr.bu8 ?_ | refine Wr.u8 (by omega) (by omega) ?_ | refine Wr.u64 (by omega) (by omega) ?_ | refine Wr.u32 (by omega) (by omega) ?_ | refine Dv.pos (by omega) (by omega) ?_ | refine Rm.pos (by omega) (by omega) ?_ | refine ADraw.quiet follows_ok (by kernel_rfl) rfl ?_ | refine ADraw.sched (id := 10) lay_ok (awp_snd lay_ok _) [(0, none), (1, none), (2, none), (3, none), (4, none), (5, none), (6, none), (7, none), (8, none), (9, none), (10, none), (11, none), (12, none), (13, none), (14, none), (15, none)] [] follows_ok (by kernel_rfl) ?_ | refine BSpl.decY (by first | assumption | omega) ?_ | refine BSpl.decN (by first | assumption | omega) ?_ | refine BSpl.dec (fun _ => ?_) (fun _ => ?_) | refine BSpl.yes (by assumption) ?_ | refine BSpl.no (by assumption) ?_ | refine BSpl.mk (fun _ => ?_) (fun _ => ?_))
        all_goals (conv => whnf)
        all_goals exact AEqI.mk (AEq.refl _)

theorem all18_spec {n : Nat} {F : Nat → List AV} (b : List UInt8) (hF : IsB F b) (hn : n = b.length) (hl : b.length ≤ 1000000000) {l : List Rc} {t : List UInt8} (hr : Recs b l t) :
    ASpec Try.prog 38 [.sl 1 n true F] (.tup [.sl 9 l.length false (rcF l), .v (.int .i64 ((rcsB l).length : Int))]) [] :=
  (all18_e b hl l t hr).args (Ch.isB hF hn .nil)

theorem few18_spec (x : Rc) (hl : x.ev.length ≤ 140737488355328) : ASpec Try.prog 34 [x.av] (Rc.av ⟨x.k, x.r, x.u, x.c, x.ev.take 30⟩) [] := by
  obtain ⟨k, r, u, ⟨c0, c1, c2, c3, c4⟩, ev⟩ := x
  dsimp only at hl
  have hn : (if (30 : Int) < (ev.length : Int) then (30 : Int) else (ev.length : Int)).toNat = (ev.take 30).length := by
    rw [List.length_take]
    split <;> omega
  dsimp only [Rc.av, Rc.cs]
  refine aspec_of lay_ok 7 Try.func34 rfl rfl rfl ?_
  repeat' ((conv => whnf); first | refine Spl.yes (by first | assumption | omega) ?_ | refine Spl.no (by first | assumption | omega) ?_ | refine Wr.i64 (by omega) (by omega) ?_ | refine Still.mk rfl rfl ?_ | refine InB.mk (inB_mk (by omega) (by omega)) ?_ | refine Req.mk (by omega) ?_ | refine Req.mk ⟨by first | omega | (dsimp only; omega), by first | omega | (dsimp only; omega)⟩ ?_ | refine InB.mk (inB_mk (by split <;> omega) (by split <;> omega)) ?_ | refine ARet.hdI ?_ | refine Spl.mk (fun _ => ?_) (fun _ => ?_) | refine Wr.b64 ?_ | refine Wr.bu64 ?_ | refine Wr.bu32 ?_ | refine Wr.bu8 ?_ | refine Wr.u8 (by omega) (by omega) ?_ | refine Wr.u64 (by omega) (by omega) ?_ | refine Wr.u32 (by omega) (by omega) ?_ | refine Dv.pos (by omega) (by omega) ?_ | refine Rm.pos (by omega) (by omega) ?_ | refine ADraw.quiet follows_ok (by kernel_rfl) rfl ?_ | refine BSpl.decY (by first | assumption | omega) ?_ | refine BSpl.decN (by first | assumption | omega) ?_ | refine BSpl.dec (fun _ => ?_) (fun _ => ?_) | refine BSpl.yes (by assumption) ?_ | refine BSpl.no (by assumption) ?_ | refine BSpl.mk (fun _ => ?_) (fun _ => ?_))
  conv => whnf
  refine AEqI.mk fun X u h => C1.isE (l := ev.take 30) ?_ hn h
  intro i hi
  rw [List.length_take] at hi
  show Ev.cs _ = Ev.cs _
  rw [List.getD, List.getD, List.getElem?_take_of_lt (by omega)]
set_option maxRecDepth 100000 in
theorem short18_spec (l : List UInt8) : ASpec Try.prog 36 [.sl 1 l.length true (bytesF l)] (.sl 1 (l.take 1500).length true (bytesF (l.take 1500))) [] := by
  have hl : (if (1500 : Int) < (l.length : Int) then (1500 : Int) else (l.length : Int)).toNat = (l.take 1500).length := by
    rw [List.length_take]
    split <;> omega
  refine aspec_of lay_ok 5 Try.func36 rfl rfl rfl ?_
  repeat' ((conv => whnf); first | refine Spl.yes (by first | assumption | omega) ?_ | refine Spl.no (by first | assumption | omega) ?_ | refine Wr.i64 (by omega) (by omega) ?_ | refine Still.mk rfl rfl ?_ | refine InB.mk (inB_mk (by omega) (by omega)) ?_ | refine Req.mk (by omega) ?_ | refine Req.mk ⟨by first | omega | (dsimp only; omega), by first | omega | (dsimp only; omega)⟩ ?_ | refine ARet.hdI ?_ | refine InB.mk (inB_mk (by split <;> omega) (by split <;> omega)) ?_ | refine Spl.mk (fun _ => ?_) (fun _ => ?_) | refine Wr.b64 ?_ | refine Wr.bu64 ?_ | refine Wr.bu32 ?_ | refine Wr.bu8 ?_ | refine Wr.u8 (by omega) (by omega) ?_ | refine Wr.u64 (by omega) (by omega) ?_ | refine Wr.u32 (by omega) (by omega) ?_ | refine Dv.pos (by omega) (by omega) ?_ | refine Rm.pos (by omega) (by omega) ?_ | refine ADraw.quiet follows_ok (by kernel_rfl) rfl ?_ | refine BSpl.decY (by first | assumption | omega) ?_ | refine BSpl.decN (by first | assumption | omega) ?_ | refine BSpl.dec (fun _ => ?_) (fun _ => ?_) | refine BSpl.yes (by assumption) ?_ | refine BSpl.no (by assumption) ?_ | refine BSpl.mk (fun _ => ?_) (fun _ => ?_))
  conv => whnf
  refine AEqI.mk ?_
  rw [hl]
  exact AEq.isB ((IsB.bytes l).take 1500) rfl
theorem same18_recs {b : List UInt8} {l : List Rc} {t : List UInt8} (h : Recs b l t) (hb : b.length ≤ 1000000000) : ASpec Try.prog 40 [.sl 9 l.length false (rcF l), .sl 9 l.length false (rcF l)] (.v (.bool true)) [] := by
  have h1 := rcsB_len l
  have h2 : (rcsB l).length ≤ b.length := by rw [h.eq, List.length_append]; omega
  have hE : ∀ r ∈ l, r.ev.length ≤ 1000000000 := fun r hr => by have := (mayR_of (h.may r hr)).l; omega
  exact same18_spec l l true (by simp) (by omega) (by omega) hE hE

set_option maxHeartbeats 8000000 in
set_option maxRecDepth 100000 in
theorem rcAll_spec (a : Rc) (b : List UInt8) (_hra : ∀ e ∈ a.ev, e.key.size ≤ 140737488355328 ∧ e.v.size ≤ 140737488355328) (hla : a.ev.length ≤ 140737488355328) :
    ASpec Try.prog 12 [a.av, .sl 1 b.length true (bytesF b)] (.v (.bool true)) [] := by
  have hfew := few18_spec a hla
  have hyl : (⟨a.k, a.r, a.u, a.c, a.ev.take 30⟩ : Rc).ev.length ≤ 140737488355328 := by dsimp only; rw [List.length_take]; omega
  generalize (⟨a.k, a.r, a.u, a.c, a.ev.take 30⟩ : Rc) = y at hfew hyl
  have hp : ∃ Q x, ASpec Try.prog 23 [y.av] (.tup [.sl 1 Q.length true (bytesF Q), .v (.int .i64 x)]) [] ∧ ASpec Try.prog 35 [y.av] (.tup [.sl 1 Q.length true (bytesF Q), .v (.int .i64 x)]) [] := by
    cases hm : mayR y with
    | true => exact ⟨rcBytes y, 0, (rcPut_yes 0 y hm).thaw, (r18Put_yes 0 y hm).thaw⟩
    | false => exact ⟨[], 1, (rcPut_no y hyl hm).res (AEq.tup (.of (fun _ _ h => C1.nilB h) (.same .nil))), (r18Put_no y hyl hm).res (AEq.tup (.of (fun _ _ h => C1.nilB h) (.same .nil)))⟩
  obtain ⟨Q, e, hp1, hp2⟩ := hp
  have hB : (b.take 1500).length ≤ 1500 := by rw [List.length_take]; omega
  have hshort := short18_spec b
  generalize b.take 1500 = B at hB hshort
  have hs := seal_sl B (IsB.bytes B) rfl (by omega)
  have hsl := sealB_len B
  generalize sealB B = S at hs hsl
  obtain ⟨L, t, hr⟩ := recs_any B.length B (Nat.le_refl _)
  have hv := fun d => vput_spec d S.length (by omega)
  have hvl : (vput S.length).length ≤ 10 := vputF_le 9 _
  generalize vput S.length = V at hv hvl
  obtain ⟨L2, t2, hr2⟩ := recs_any (V ++ S ++ B).length (V ++ S ++ B) (Nat.le_refl _)
  have hWl : (V ++ S ++ B).length ≤ 4000 := by rw [List.length_append, List.length_append]; omega
  have hs1 := same18_recs hr (by omega)
  have hs2 := same18_recs hr2 (by omega)
  have h1 := all_spec B (IsB.bytes B) rfl (by omega) hr
  have h2 := all18_spec B (IsB.bytes B) rfl (by omega) hr
  have h3 : ∀ {n : Nat} {F : Nat → List AV} (_ : IsB F (V ++ S ++ B)) (_ : n = (V ++ S ++ B).length), _ := fun {n F} hF hn => all_spec (n := n) (F := F) (V ++ S ++ B) hF hn (by omega) hr2
  have h4 : ∀ {n : Nat} {F : Nat → List AV} (_ : IsB F (V ++ S ++ B)) (_ : n = (V ++ S ++ B).length), _ := fun {n F} hF hn => all18_spec (n := n) (F := F) (V ++ S ++ B) hF hn (by omega) hr2
  clear hr hr2
  refine aspec_of lay_ok 2097143 Try.func12 rfl rfl rfl ?_
  repeat' ((conv => whnf); first | refine Spl.yes (by first | assumption | omega) ?_ | refine Spl.no (by first | assumption | omega) ?_ | refine Wr.i64 (by omega) (by omega) ?_ | refine Still.mk rfl rfl ?_ | refine InB.mk (inB_mk (by omega) (by omega)) ?_ | refine Req.mk (by omega) ?_ | refine Req.mk ⟨by first | omega | (dsimp only; omega), by first | omega | (dsimp only; omega)⟩ ?_ | refine ACall.plain _ _ (shown18_spec) .nil rfl ?_ | refine ACall.plain _ _ (hfew) (SubL.cons (.eq _) .nil) rfl ?_ | refine ACall.plain _ _ (hp1) (SubL.cons (.eq _) .nil) rfl ?_ | refine ACall.plain _ _ (hp2) (SubL.cons (.eq _) .nil) rfl ?_ | refine ACall.plain _ _ (hshort) (SubL.cons (.eq _) .nil) rfl ?_ | refine ACall.plain _ _ (h1) (SubL.cons (.eq _) .nil) rfl ?_ | refine ACall.plain _ _ (h2) (SubL.cons (.eq _) .nil) rfl ?_ | refine ACall.plain _ _ (hs) (SubL.cons (.eq _) .nil) rfl ?_ | refine ACall.fresh _ _ _ _ _ _ _ (hv _) (SubL.cons (.eq _) .nil) rfl ?_ | refine ACall.plain _ _ (h3 (IsB.app (IsB.app (IsB.bytes _) (IsB.bytes _) rfl) (IsB.bytes _) (by simp)) (by simp; omega)) (SubL.cons (.eq _) .nil) rfl ?_ | refine ACall.plain _ _ (h4 (IsB.app (IsB.app (IsB.bytes _) (IsB.bytes _) rfl) (IsB.bytes _) (by simp)) (by simp; omega)) (SubL.cons (.eq _) .nil) rfl ?_ | refine ACall.plain _ _ (hs1) (SubL.cons (.eq _) (SubL.cons (.eq _) .nil)) rfl ?_ | refine ACall.plain _ _ (hs2) (SubL.cons (.eq _) (SubL.cons (.eq _) .nil)) rfl ?_ | refine Bs.of Q (IsB.bytes _) rfl ?_ | refine Spl.yes rfl ?_ | refine ARet.hdI ?_ | refine Spl.mk (fun _ => ?_) (fun _ => ?_) | refine Wr.b64 ?_ | refine Wr.bu64 ?_ | refine Wr.bu32 ?_ | refine Wr.bu8 ?_ | refine Wr.u8 (by omega) (by omega) ?_ | refine Wr.u64 (by omega) (by omega) ?_ | refine Wr.u32 (by omega) (by omega) ?_ | refine Dv.pos (by omega) (by omega) ?_ | refine Rm.pos (by omega) (by omega) ?_ | refine ADraw.quiet follows_ok (by kernel_rfl) rfl ?_ | refine BSpl.decY (by first | assumption | omega) ?_ | refine BSpl.decN (by first | assumption | omega) ?_ | refine BSpl.dec (fun _ => ?_) (fun _ => ?_) | refine BSpl.yes (by assumption) ?_ | refine BSpl.no (by assumption) ?_ | refine BSpl.mk (fun _ => ?_) (fun _ => ?_))
  all_goals (conv => whnf)
  all_goals exact AEqI.mk (AEq.refl _)
end Go.Proofs.Ytbmojelnkldecaa
