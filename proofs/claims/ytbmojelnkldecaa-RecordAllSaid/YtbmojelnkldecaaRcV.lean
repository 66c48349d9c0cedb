/-
  What record.number, record.list and record.read tell of any bytes.
-/
import Derived.Test.YtbmojelnkldecaaRcLaw
namespace Go.Proofs.Ytbmojelnkldecaa
open Go.RowKit

theorem AEq.tup {xs ys : List AV} (h : Ch xs ys) : AEq (.tup xs) (.tup ys) := fun _ _ ⟨us, e, ha⟩ => ⟨us, e, h.all ha⟩

set_option maxHeartbeats 2000000 in
set_option maxRecDepth 100000 in
theorem rnum_ok {n : Nat} {F : Nat → List AV} (l : List UInt8) {m k : Nat} (h : numF l = some (m, k)) (hF : IsB F l) (hn : n = l.length) : ASpec Try.prog 98 [.sl 1 n true F] (.tup [.v (.int .i64 (m : Int)), .sl 1 (l.drop k).length true (bytesF (l.drop k)), .v (.bool true)]) [] := by
  have hle := numF_le h
  obtain ⟨⟨a, c, e⟩, hv⟩ : ∃ p, vtake l = p := ⟨_, rfl⟩
  have hs := vtake_spec l hF hn
  unfold numF at h
  rw [hv] at hs h
  dsimp only at hs h
  split at h
  · rename_i h0
    obtain ⟨h0, h1⟩ := h0
    simp only [Option.some.injEq, Prod.mk.injEq] at h
    obtain ⟨rfl, rfl⟩ := h
    subst h0
    refine aspec_of lay_ok 524541 Try.func98 rfl rfl rfl ?_
    repeat' ((conv => whnf); first | refine Spl.yes (by first | assumption | omega) ?_ | refine Spl.no (by first | assumption | omega) ?_ | refine Wr.i64 (by omega) (by omega) ?_ | refine Still.mk rfl rfl ?_ | refine InB.mk (inB_mk (by omega) (by omega)) ?_ | refine Req.mk (by omega) ?_ | refine Req.mk ⟨by first | omega | (dsimp only; omega), by first | omega | (dsimp only; omega)⟩ ?_ | refine ACall.plain _ _ (hs) (SubL.cons (.eq _) .nil) rfl ?_ | refine ARet.hdI ?_ | refine Spl.mk (fun _ => ?_) (fun _ => ?_) | refine Wr.b64 ?_ | refine Wr.bu64 ?_ | refine Wr.bu32 ?_ | refine Wr.bu8 ?_ | refine Wr.u8 (by omega) (by omega) ?_ | refine Wr.u64 (by omega) (by omega) ?_ | refine Wr.u32 (by omega) (by omega) ?_ | refine Dv.pos (by omega) (by omega) ?_ | refine Rm.pos (by omega) (by omega) ?_ | refine ADraw.quiet follows_ok (by kernel_rfl) rfl ?_ | refine ADraw.sched (id := 4) lay_ok (awp_snd lay_ok _) [(0, none), (1, none), (2, none), (3, none), (4, none), (5, none), (6, none), (7, none)] [] follows_ok (by kernel_rfl) ?_ | refine BSpl.decY (by first | assumption | omega) ?_ | refine BSpl.decN (by first | assumption | omega) ?_ | refine BSpl.dec (fun _ => ?_) (fun _ => ?_) | refine BSpl.yes (by assumption) ?_ | refine BSpl.no (by assumption) ?_ | refine BSpl.mk (fun _ => ?_) (fun _ => ?_))
    conv => whnf
    exact AEqI.mk (AEq.tup (.same (.isB (IsB.drop hF _) (by simp [hn]) (.same .nil))))
  · cases h
set_option maxHeartbeats 2000000 in
set_option maxRecDepth 100000 in
theorem rnum_no {n : Nat} {F : Nat → List AV} (l : List UInt8) (h : numF l = none) (hF : IsB F l) (hn : n = l.length) : ASpec Try.prog 98 [.sl 1 n true F] (.tup [.v (.int .i64 0), .v (.slice none 0 0), .v (.bool false)]) [] := by
  obtain ⟨⟨a, c, e⟩, hv⟩ : ∃ p, vtake l = p := ⟨_, rfl⟩
  have hs := vtake_spec l hF hn
  unfold numF at h
  rw [hv] at hs h
  dsimp only at hs h
  split at h
  · cases h
  · rename_i h0
    refine aspec_of lay_ok 524541 Try.func98 rfl rfl rfl ?_
    repeat' ((conv => whnf); first | refine Spl.yes (by first | assumption | omega) ?_ | refine Spl.no (by first | assumption | omega) ?_ | refine Wr.i64 (by omega) (by omega) ?_ | refine Still.mk rfl rfl ?_ | refine InB.mk (inB_mk (by omega) (by omega)) ?_ | refine Req.mk (by omega) ?_ | refine Req.mk ⟨by first | omega | (dsimp only; omega), by first | omega | (dsimp only; omega)⟩ ?_ | refine ACall.plain _ _ (hs) (SubL.cons (.eq _) .nil) rfl ?_ | refine ARet.hdI ?_ | refine Spl.mk (fun _ => ?_) (fun _ => ?_) | refine Wr.b64 ?_ | refine Wr.bu64 ?_ | refine Wr.bu32 ?_ | refine Wr.bu8 ?_ | refine Wr.u8 (by omega) (by omega) ?_ | refine Wr.u64 (by omega) (by omega) ?_ | refine Wr.u32 (by omega) (by omega) ?_ | refine Dv.pos (by omega) (by omega) ?_ | refine Rm.pos (by omega) (by omega) ?_ | refine ADraw.quiet follows_ok (by kernel_rfl) rfl ?_ | refine ADraw.sched (id := 4) lay_ok (awp_snd lay_ok _) [(0, none), (1, none), (2, none), (3, none), (4, none), (5, none), (6, none), (7, none)] [] follows_ok (by kernel_rfl) ?_ | refine BSpl.decY (by first | assumption | omega) ?_ | refine BSpl.decN (by first | assumption | omega) ?_ | refine BSpl.dec (fun _ => ?_) (fun _ => ?_) | refine BSpl.yes (by assumption) ?_ | refine BSpl.no (by assumption) ?_ | refine BSpl.mk (fun _ => ?_) (fun _ => ?_))
    all_goals (conv => whnf)
    all_goals first
      | exact AEqI.mk (AEq.refl _)
      | (exfalso; apply h0; constructor <;> omega)

set_option maxHeartbeats 4000000 in
set_option maxRecDepth 100000 in
theorem rlist_e (b : List UInt8) (hl : b.length ≤ 1000000000) : ASpec Try.prog 99 [.sl 1 b.length true (bytesF b)] (evsR (listF b)) [] := by
  cases hN : numF b with
  | none =>
    have hnum := rnum_no b hN (IsB.bytes b) rfl
    rw [show listF b = none by unfold listF; rw [hN]]
    refine aspec_of lay_ok 4326425597 Try.func99 rfl rfl rfl ?_
    repeat' ((conv => whnf); first | refine Spl.yes (by first | assumption | omega) ?_ | refine Spl.no (by first | assumption | omega) ?_ | refine Wr.i64 (by omega) (by omega) ?_ | refine Still.mk rfl rfl ?_ | refine InB.mk (inB_mk (by omega) (by omega)) ?_ | refine Req.mk (by omega) ?_ | refine Req.mk ⟨by first | omega | (dsimp only; omega), by first | omega | (dsimp only; omega)⟩ ?_ | refine ACall.plain _ _ (hnum) (SubL.cons (.eq _) .nil) rfl ?_ | refine ARet.hdI ?_ | refine Spl.mk (fun _ => ?_) (fun _ => ?_) | refine Wr.b64 ?_ | refine Wr.bu64 ?_ | refine Wr.bu32 ?_ | refine Wr.bu8 ?_ | refine Wr.u8 (by omega) (by omega) ?_ | refine Wr.u64 (by omega) (by omega) ?_ | refine Wr.u32 (by omega) (by omega) ?_ | refine Dv.pos (by omega) (by omega) ?_ | refine Rm.pos (by omega) (by omega) ?_ | refine ADraw.quiet follows_ok (by kernel_rfl) rfl ?_ | refine ADraw.sched (id := 10) lay_ok (awp_snd lay_ok _) [(0, none), (1, none), (4, none), (5, none), (6, none), (2, some [1]), (3, some [1]), (7, none), (8, none)] [(2, [1]), (3, [1]), (7, [1]), (8, [1])] follows_ok (by kernel_rfl) ?_ | refine BSpl.decY (by first | assumption | omega) ?_ | refine BSpl.decN (by first | assumption | omega) ?_ | refine BSpl.dec (fun _ => ?_) (fun _ => ?_) | refine BSpl.yes (by assumption) ?_ | refine BSpl.no (by assumption) ?_ | refine BSpl.mk (fun _ => ?_) (fun _ => ?_))
    all_goals (conv => whnf)
    all_goals exact AEqI.mk (AEq.refl _)
  | some p =>
    obtain ⟨c, k⟩ := p
    have hnum := rnum_ok b hN (IsB.bytes b) rfl
    have hle := numF_le hN
    have hdl : (b.drop k).length ≤ b.length := by rw [List.length_drop]; omega
    by_cases hc : 4096 < c
    · rw [show listF b = none by unfold listF; rw [hN]; dsimp only; rw [if_pos hc]]
      refine aspec_of lay_ok 4326425597 Try.func99 rfl rfl rfl ?_
      repeat' ((conv => whnf); first | refine Spl.yes (by first | assumption | omega) ?_ | refine Spl.no (by first | assumption | omega) ?_ | refine Wr.i64 (by omega) (by omega) ?_ | refine Still.mk rfl rfl ?_ | refine InB.mk (inB_mk (by omega) (by omega)) ?_ | refine Req.mk (by omega) ?_ | refine Req.mk ⟨by first | omega | (dsimp only; omega), by first | omega | (dsimp only; omega)⟩ ?_ | refine ACall.plain _ _ (hnum) (SubL.cons (.eq _) .nil) rfl ?_ | refine ARet.hdI ?_ | refine Spl.mk (fun _ => ?_) (fun _ => ?_) | refine Wr.b64 ?_ | refine Wr.bu64 ?_ | refine Wr.bu32 ?_ | refine Wr.bu8 ?_ | refine Wr.u8 (by omega) (by omega) ?_ | refine Wr.u64 (by omega) (by omega) ?_ | refine Wr.u32 (by omega) (by omega) ?_ | refine Dv.pos (by omega) (by omega) ?_ | refine Rm.pos (by omega) (by omega) ?_ | refine ADraw.quiet follows_ok (by kernel_rfl) rfl ?_ | refine ADraw.sched (id := 10) lay_ok (awp_snd lay_ok _) [(0, none), (1, none), (4, none), (5, none), (6, none), (2, some [1]), (3, some [1]), (7, none), (8, none)] [(2, [1]), (3, [1]), (7, [1]), (8, [1])] follows_ok (by kernel_rfl) ?_ | refine BSpl.decY (by first | assumption | omega) ?_ | refine BSpl.decN (by first | assumption | omega) ?_ | refine BSpl.dec (fun _ => ?_) (fun _ => ?_) | refine BSpl.yes (by assumption) ?_ | refine BSpl.no (by assumption) ?_ | refine BSpl.mk (fun _ => ?_) (fun _ => ?_))
      all_goals (conv => whnf)
      all_goals exact AEqI.mk (AEq.refl _)
    · have hlf : listF b = (evsAt (b.drop k) c).map (·.1) := by unfold listF; rw [hN]; dsimp only; rw [if_neg hc]
      generalize b.drop k = t at hnum hdl hlf
      refine aspec_of lay_ok 4326425597 Try.func99 rfl rfl rfl ?_
      repeat' ((conv => whnf); first | refine Spl.yes (by first | assumption | omega) ?_ | refine Spl.no (by first | assumption | omega) ?_ | refine Wr.i64 (by omega) (by omega) ?_ | refine Still.mk rfl rfl ?_ | refine InB.mk (inB_mk (by omega) (by omega)) ?_ | refine Req.mk (by omega) ?_ | refine Req.mk ⟨by first | omega | (dsimp only; omega), by first | omega | (dsimp only; omega)⟩ ?_ | refine ACall.plain _ _ (hnum) (SubL.cons (.eq _) .nil) rfl ?_ | refine ARet.hdI ?_ | refine Spl.mk (fun _ => ?_) (fun _ => ?_) | refine Wr.b64 ?_ | refine Wr.bu64 ?_ | refine Wr.bu32 ?_ | refine Wr.bu8 ?_ | refine Wr.u8 (by omega) (by omega) ?_ | refine Wr.u64 (by omega) (by omega) ?_ | refine Wr.u32 (by omega) (by omega) ?_ | refine Dv.pos (by omega) (by omega) ?_ | refine Rm.pos (by omega) (by omega) ?_ | refine ADraw.quiet follows_ok (by kernel_rfl) rfl ?_ | refine ADraw.sched (id := 10) lay_ok (awp_snd lay_ok _) [(0, none), (1, none), (4, none), (5, none), (6, none), (2, some [1]), (3, some [1]), (7, none), (8, none)] [(2, [1]), (3, [1]), (7, [1]), (8, [1])] follows_ok (by kernel_rfl) ?_ | refine BSpl.decY (by first | assumption | omega) ?_ | refine BSpl.decN (by first | assumption | omega) ?_ | refine BSpl.dec (fun _ => ?_) (fun _ => ?_) | refine BSpl.yes (by assumption) ?_ | refine BSpl.no (by assumption) ?_ | refine BSpl.mk (fun _ => ?_) (fun _ => ?_))
      conv => whnf
      refine ALoop.mk { p : Nat × List Ev × List UInt8 // evsAt t p.1 = some p.2 ∧ p.1 ≤ c } (fun p => match p with
        | ⟨(0, _, r), _⟩ => ⟨[(0, .sl 1 r.length true (bytesF r)), (6, .v (.slice none 0 0)), (22, .v (.int .i64 (c : Int))), (23, .v (.int .i64 0))], [], [], 0⟩
        | ⟨(i + 1, l, r), _⟩ => ⟨[(0, .sl 1 r.length true (bytesF r)), (6, .own 90), (22, .v (.int .i64 (c : Int))), (23, .v (.int .i64 ((i : Int) + 1)))], [(90, .row 25 12 l.length true (evF l))], [], 91⟩)
        (fun p => c - p.1.1) ⟨(0, [], t), rfl, Nat.zero_le _⟩ _
        (LeR.mk' [] _ _ _ rfl ⟨AEq.refl _, AEq.refl _, AEq.refl _, AEq.int rfl, trivial⟩ trivial rfl) ?_
      rintro ⟨⟨_ | i, l, r⟩, hp, hj⟩
      · dsimp only at hp hj
        obtain ⟨hl0, hr0⟩ := evsAt_len hp
        obtain rfl : l = [] := List.eq_nil_of_length_eq_zero hl0
        have hz : c = 0 → listF b = some [] := fun h => by rw [hlf, h, hp]; rfl
        rcases takeE_ways r with ⟨e, m, ht, -, hm, -⟩ | ht | ht
        · dsimp only
          repeat' ((conv => whnf); first | refine Spl.yes (by first | assumption | omega) ?_ | refine Spl.no (by first | assumption | omega) ?_ | refine Wr.i64 (by omega) (by omega) ?_ | refine Still.mk rfl rfl ?_ | refine InB.mk (inB_mk (by omega) (by omega)) ?_ | refine Req.mk (by omega) ?_ | refine Req.mk ⟨by first | omega | (dsimp only; omega), by first | omega | (dsimp only; omega)⟩ ?_ | refine ACall.plain _ _ (take_any r ht (IsB.bytes r) rfl (by omega)) (SubL.cons (.eq _) .nil) rfl ?_ | refine ARet.hdI ?_ | refine Spl.mk (fun _ => ?_) (fun _ => ?_) | refine Wr.b64 ?_ | refine Wr.bu64 ?_ | refine Wr.bu32 ?_ | refine Wr.bu8 ?_ | refine Wr.u8 (by omega) (by omega) ?_ | refine Wr.u64 (by omega) (by omega) ?_ | refine Wr.u32 (by omega) (by omega) ?_ | refine Dv.pos (by omega) (by omega) ?_ | refine Rm.pos (by omega) (by omega) ?_ | refine ADraw.quiet follows_ok (by kernel_rfl) rfl ?_ | refine ADraw.sched (id := 10) lay_ok (awp_snd lay_ok _) [(0, none), (1, none), (4, none), (5, none), (6, none), (2, some [1]), (3, some [1]), (7, none), (8, none)] [(2, [1]), (3, [1]), (7, [1]), (8, [1])] follows_ok (by kernel_rfl) ?_ | refine BSpl.decY (by first | assumption | omega) ?_ | refine BSpl.decN (by first | assumption | omega) ?_ | refine BSpl.dec (fun _ => ?_) (fun _ => ?_) | refine BSpl.yes (by assumption) ?_ | refine BSpl.no (by assumption) ?_ | refine BSpl.mk (fun _ => ?_) (fun _ => ?_))
          all_goals (conv => whnf)
          · refine ⟨⟨(0 + 1, [] ++ [e], r.drop m), evsAt_step hp ht, by omega⟩, _, LeR.mk' [(2, 90)] _ _ _ rfl ⟨AEq.isB (IsB.drop (IsB.bytes r) m) (by simp), AEq.refl _, AEq.refl _, AEq.int rfl, trivial⟩ ⟨⟨_, rfl, OEq.row rfl (fun i hi => ?_)⟩, trivial⟩ rfl, by show c - (0 + 1) < c - 0; omega⟩
            have hi : i < 1 := hi
            obtain rfl : i = 0 := by omega
            rfl
          · rw [hz (by omega)]
            exact AEqI.mk (AEq.nilT _)
        all_goals
          have hno : 0 < c → listF b = none := fun h => by rw [hlf, evsAt_none (evsAt_stop hp (by rw [ht]; decide)) c (by omega)]; rfl
          dsimp only
          repeat' ((conv => whnf); first | refine Spl.yes (by first | assumption | omega) ?_ | refine Spl.no (by first | assumption | omega) ?_ | refine Wr.i64 (by omega) (by omega) ?_ | refine Still.mk rfl rfl ?_ | refine InB.mk (inB_mk (by omega) (by omega)) ?_ | refine Req.mk (by omega) ?_ | refine Req.mk ⟨by first | omega | (dsimp only; omega), by first | omega | (dsimp only; omega)⟩ ?_ | refine ACall.plain _ _ (take_any r ht (IsB.bytes r) rfl (by omega)) (SubL.cons (.eq _) .nil) rfl ?_ | refine ARet.hdI ?_ | refine Spl.mk (fun _ => ?_) (fun _ => ?_) | refine Wr.b64 ?_ | refine Wr.bu64 ?_ | refine Wr.bu32 ?_ | refine Wr.bu8 ?_ | refine Wr.u8 (by omega) (by omega) ?_ | refine Wr.u64 (by omega) (by omega) ?_ | refine Wr.u32 (by omega) (by omega) ?_ | refine Dv.pos (by omega) (by omega) ?_ | refine Rm.pos (by omega) (by omega) ?_ | refine ADraw.quiet follows_ok (by kernel_rfl) rfl ?_ | refine ADraw.sched (id := 10) lay_ok (awp_snd lay_ok _) [(0, none), (1, none), (4, none), (5, none), (6, none), (2, some [1]), (3, some [1]), (7, none), (8, none)] [(2, [1]), (3, [1]), (7, [1]), (8, [1])] follows_ok (by kernel_rfl) ?_ | refine BSpl.decY (by first | assumption | omega) ?_ | refine BSpl.decN (by first | assumption | omega) ?_ | refine BSpl.dec (fun _ => ?_) (fun _ => ?_) | refine BSpl.yes (by assumption) ?_ | refine BSpl.no (by assumption) ?_ | refine BSpl.mk (fun _ => ?_) (fun _ => ?_))
          all_goals (conv => whnf)
          · rw [hno (by omega)]
            exact AEqI.mk (AEq.refl _)
          · rw [hz (by omega)]
            exact AEqI.mk (AEq.nilT _)
      · dsimp only at hp hj
        obtain ⟨hl0, hr0⟩ := evsAt_len hp
        have hz : c = i + 1 → listF b = some l := fun h => by rw [hlf, h, hp]; rfl
        rcases takeE_ways r with ⟨e, m, ht, -, hm, -⟩ | ht | ht
        · dsimp only
          repeat' ((conv => whnf); first | refine Spl.yes (by first | assumption | omega) ?_ | refine Spl.no (by first | assumption | omega) ?_ | refine Wr.i64 (by omega) (by omega) ?_ | refine Still.mk rfl rfl ?_ | refine InB.mk (inB_mk (by omega) (by omega)) ?_ | refine Req.mk (by omega) ?_ | refine Req.mk ⟨by first | omega | (dsimp only; omega), by first | omega | (dsimp only; omega)⟩ ?_ | refine ACall.plain _ _ (take_any r ht (IsB.bytes r) rfl (by omega)) (SubL.cons (.eq _) .nil) rfl ?_ | refine ARet.hdI ?_ | refine Spl.mk (fun _ => ?_) (fun _ => ?_) | refine Wr.b64 ?_ | refine Wr.bu64 ?_ | refine Wr.bu32 ?_ | refine Wr.bu8 ?_ | refine Wr.u8 (by omega) (by omega) ?_ | refine Wr.u64 (by omega) (by omega) ?_ | refine Wr.u32 (by omega) (by omega) ?_ | refine Dv.pos (by omega) (by omega) ?_ | refine Rm.pos (by omega) (by omega) ?_ | refine ADraw.quiet follows_ok (by kernel_rfl) rfl ?_ | refine ADraw.sched (id := 10) lay_ok (awp_snd lay_ok _) [(0, none), (1, none), (4, none), (5, none), (6, none), (2, some [1]), (3, some [1]), (7, none), (8, none)] [(2, [1]), (3, [1]), (7, [1]), (8, [1])] follows_ok (by kernel_rfl) ?_ | refine BSpl.decY (by first | assumption | omega) ?_ | refine BSpl.decN (by first | assumption | omega) ?_ | refine BSpl.dec (fun _ => ?_) (fun _ => ?_) | refine BSpl.yes (by assumption) ?_ | refine BSpl.no (by assumption) ?_ | refine BSpl.mk (fun _ => ?_) (fun _ => ?_))
          all_goals (conv => whnf)
          · refine ⟨⟨(i + 1 + 1, l ++ [e], r.drop m), evsAt_step hp ht, by omega⟩, _, LeR.mk' [(93, 90)] _ _ _ rfl ⟨AEq.isB (IsB.drop (IsB.bytes r) m) (by simp), AEq.refl _, AEq.refl _, AEq.int rfl, trivial⟩ ⟨⟨_, rfl, OEq.row (by simp) (fun m hm => els_app1 (c := Ev.cs) rfl rfl m hm)⟩, trivial⟩ rfl, by show c - (i + 1 + 1) < c - (i + 1); omega⟩
          · rw [hz (by omega)]
            exact AEqI.mk (AEq.refl _)
        all_goals
          have hno : i + 1 < c → listF b = none := fun h => by rw [hlf, evsAt_none (evsAt_stop hp (by rw [ht]; decide)) c (by omega)]; rfl
          dsimp only
          repeat' ((conv => whnf); first | refine Spl.yes (by first | assumption | omega) ?_ | refine Spl.no (by first | assumption | omega) ?_ | refine Wr.i64 (by omega) (by omega) ?_ | refine Still.mk rfl rfl ?_ | refine InB.mk (inB_mk (by omega) (by omega)) ?_ | refine Req.mk (by omega) ?_ | refine Req.mk ⟨by first | omega | (dsimp only; omega), by first | omega | (dsimp only; omega)⟩ ?_ | refine ACall.plain _ _ (take_any r ht (IsB.bytes r) rfl (by omega)) (SubL.cons (.eq _) .nil) rfl ?_ | refine ARet.hdI ?_ | refine Spl.mk (fun _ => ?_) (fun _ => ?_) | refine Wr.b64 ?_ | refine Wr.bu64 ?_ | refine Wr.bu32 ?_ | refine Wr.bu8 ?_ | refine Wr.u8 (by omega) (by omega) ?_ | refine Wr.u64 (by omega) (by omega) ?_ | refine Wr.u32 (by omega) (by omega) ?_ | refine Dv.pos (by omega) (by omega) ?_ | refine Rm.pos (by omega) (by omega) ?_ | refine ADraw.quiet follows_ok (by kernel_rfl) rfl ?_ | refine ADraw.sched (id := 10) lay_ok (awp_snd lay_ok _) [(0, none), (1, none), (4, none), (5, none), (6, none), (2, some [1]), (3, some [1]), (7, none), (8, none)] [(2, [1]), (3, [1]), (7, [1]), (8, [1])] follows_ok (by kernel_rfl) ?_ | refine BSpl.decY (by first | assumption | omega) ?_ | refine BSpl.decN (by first | assumption | omega) ?_ | refine BSpl.dec (fun _ => ?_) (fun _ => ?_) | refine BSpl.yes (by assumption) ?_ | refine BSpl.no (by assumption) ?_ | refine BSpl.mk (fun _ => ?_) (fun _ => ?_))
          all_goals (conv => whnf)
          · rw [hno (by omega)]
            exact AEqI.mk (AEq.refl _)
          · rw [hz (by omega)]
            exact AEqI.mk (AEq.refl _)

theorem rlist_spec {n : Nat} {F : Nat → List AV} (b : List UInt8) (hF : IsB F b) (hn : n = b.length) (hl : b.length ≤ 1000000000) : ASpec Try.prog 99 [.sl 1 n true F] (evsR (listF b)) [] :=
  (rlist_e b hl).args (Ch.isB hF hn .nil)

theorem fields_e (k : Int) (h : k = 1 ∨ k = 2 ∨ k = 5) : ASpec Try.prog 55 [.v (.int .i64 k)] (.tup [.v (.bool false), .v (.bool true), .v (.bool false), .v (.bool true)]) [] := by
  have := rcFields_spec k
  rcases h with rfl | rfl | rfl <;> exact this
theorem fields_u (k : Int) (h : k = 3) : ASpec Try.prog 55 [.v (.int .i64 k)] (.tup [.v (.bool true), .v (.bool false), .v (.bool false), .v (.bool true)]) [] := by
  have := rcFields_spec k
  rcases h with rfl; exact this
theorem fields_ue (k : Int) (h : k = 4) : ASpec Try.prog 55 [.v (.int .i64 k)] (.tup [.v (.bool true), .v (.bool true), .v (.bool false), .v (.bool true)]) [] := by
  have := rcFields_spec k
  rcases h with rfl; exact this
theorem fields_c (k : Int) (h : k = 6) : ASpec Try.prog 55 [.v (.int .i64 k)] (.tup [.v (.bool false), .v (.bool false), .v (.bool true), .v (.bool true)]) [] := by
  have := rcFields_spec k
  rcases h with rfl; exact this

theorem readR_eq {b : List UInt8} (hu : 2 ≤ b.length) : readR b = rdR ((b.getD 0 default).toNat : Int) ((b.getD 1 default).toNat : Int) (b.drop 2) := by
  unfold readR
  rw [if_neg (by omega)]

set_option maxHeartbeats 8000000 in
set_option maxRecDepth 100000 in
theorem rread_no (b : List UInt8) (hl : b.length ≤ 1000000000) (h : b.length < 2) :
    ASpec Try.prog 88 [.sl 1 b.length true (bytesF b)] (.tup [(readR b).1.av, .v (.bool (readR b).2)]) [] := by
  rw [show readR b = (rc0, false) by unfold readR; rw [if_pos h]]
  dsimp only [Rc.av, Rc.cs]
  refine aspec_of lay_ok 36894649369136998397 Try.func88 rfl rfl rfl ?_
  repeat' ((conv => whnf); first | refine Spl.yes (by first | assumption | omega) ?_ | refine Spl.no (by first | assumption | omega) ?_ | refine Wr.i64 (by omega) (by omega) ?_ | refine Still.mk rfl rfl ?_ | refine InB.mk (inB_mk (by omega) (by omega)) ?_ | refine Req.mk (by omega) ?_ | refine Req.mk ⟨by first | omega | (dsimp only; omega), by first | omega | (dsimp only; omega)⟩ ?_ | refine ALoop.unr 10 6 rfl ?_ | refine ARet.hdI ?_ | refine Spl.mk (fun _ => ?_) (fun _ => ?_) | refine Wr.b64 ?_ | refine Wr.bu64 ?_ | refine Wr.bu32 ?_ | refine Wr.bu8 ?_ | refine Wr.u8 (by omega) (by omega) ?_ | refine Wr.u64 (by omega) (by omega) ?_ | refine Wr.u32 (by omega) (by omega) ?_ | refine Dv.pos (by omega) (by omega) ?_ | refine Rm.pos (by omega) (by omega) ?_ | refine ADraw.quiet follows_ok (by kernel_rfl) rfl ?_ | refine ADraw.sched (id := 3) lay_ok (awp_snd lay_ok _) [(0, none), (1, none), (2, none), (3, none), (4, none), (5, none), (6, none), (7, none), (8, none), (9, some []), (10, some [7, 6, 3, 2])] [(3, [2]), (7, [6]), (8, [7, 6, 3, 2]), (9, []), (10, [7, 6, 3, 2])] follows_ok (by kernel_rfl) ?_ | refine BSpl.decY (by first | assumption | omega) ?_ | refine BSpl.decN (by first | assumption | omega) ?_ | refine BSpl.dec (fun _ => ?_) (fun _ => ?_) | refine BSpl.yes (by assumption) ?_ | refine BSpl.no (by assumption) ?_ | refine BSpl.mk (fun _ => ?_) (fun _ => ?_))
  all_goals (conv => whnf)
  all_goals exact AEqI.mk (AEq.nilEvT _)

set_option maxHeartbeats 8000000 in
set_option maxRecDepth 100000 in
theorem rread_none (b : List UInt8) (hl : b.length ≤ 1000000000) (hu : 2 ≤ b.length) (hk : ¬ (((b.getD 0 default).toNat : Int) = 1 ∨ ((b.getD 0 default).toNat : Int) = 2 ∨ ((b.getD 0 default).toNat : Int) = 5) ∧ ¬ ((b.getD 0 default).toNat : Int) = 3 ∧ ¬ ((b.getD 0 default).toNat : Int) = 4 ∧ ¬ ((b.getD 0 default).toNat : Int) = 6) :
    ASpec Try.prog 88 [.sl 1 b.length true (bytesF b)] (.tup [(readR b).1.av, .v (.bool (readR b).2)]) [] := by
  rw [readR_eq hu]
  unfold rdR
  rw [if_neg hk.1, if_neg hk.2.1, if_neg hk.2.2.1, if_neg hk.2.2.2]
  have hf := rcFields_no ((b.getD 0 default).toNat : Int) (by omega)
  dsimp only [Rc.av, Rc.cs]
  refine aspec_of lay_ok 36894649369136998397 Try.func88 rfl rfl rfl ?_
  repeat' ((conv => whnf); first | refine Spl.yes (by first | assumption | omega) ?_ | refine Spl.no (by first | assumption | omega) ?_ | refine Wr.i64 (by omega) (by omega) ?_ | refine Still.mk rfl rfl ?_ | refine InB.mk (inB_mk (by omega) (by omega)) ?_ | refine Req.mk (by omega) ?_ | refine Req.mk ⟨by first | omega | (dsimp only; omega), by first | omega | (dsimp only; omega)⟩ ?_ | refine ACall.plain _ _ (hf) (SubL.cons (.eq _) .nil) rfl ?_ | refine ALoop.unr 10 6 rfl ?_ | refine ARet.hdI ?_ | refine Spl.mk (fun _ => ?_) (fun _ => ?_) | refine Wr.b64 ?_ | refine Wr.bu64 ?_ | refine Wr.bu32 ?_ | refine Wr.bu8 ?_ | refine Wr.u8 (by omega) (by omega) ?_ | refine Wr.u64 (by omega) (by omega) ?_ | refine Wr.u32 (by omega) (by omega) ?_ | refine Dv.pos (by omega) (by omega) ?_ | refine Rm.pos (by omega) (by omega) ?_ | refine ADraw.quiet follows_ok (by kernel_rfl) rfl ?_ | refine ADraw.sched (id := 3) lay_ok (awp_snd lay_ok _) [(0, none), (1, none), (2, none), (3, none), (4, none), (5, none), (6, none), (7, none), (8, none), (9, some []), (10, some [7, 6, 3, 2])] [(3, [2]), (7, [6]), (8, [7, 6, 3, 2]), (9, []), (10, [7, 6, 3, 2])] follows_ok (by kernel_rfl) ?_ | refine BSpl.decY (by first | assumption | omega) ?_ | refine BSpl.decN (by first | assumption | omega) ?_ | refine BSpl.dec (fun _ => ?_) (fun _ => ?_) | refine BSpl.yes (by assumption) ?_ | refine BSpl.no (by assumption) ?_ | refine BSpl.mk (fun _ => ?_) (fun _ => ?_))
  all_goals (conv => whnf)
  all_goals exact AEqI.mk (AEq.nilEvT _)

set_option maxHeartbeats 8000000 in
set_option maxRecDepth 100000 in
theorem rread_e (b : List UInt8) (hl : b.length ≤ 1000000000) (hu : 2 ≤ b.length) (hk : ((b.getD 0 default).toNat : Int) = 1 ∨ ((b.getD 0 default).toNat : Int) = 2 ∨ ((b.getD 0 default).toNat : Int) = 5) :
    ASpec Try.prog 88 [.sl 1 b.length true (bytesF b)] (.tup [(readR b).1.av, .v (.bool (readR b).2)]) [] := by
  rw [readR_eq hu]
  unfold rdR
  rw [if_pos hk]
  unfold rdRl
  have he := rlist_spec (n := b.length - 2) (b.drop 2) (IsB.drop (IsB.bytes b) 2) (by simp) (by simp; omega)
  cases hE : listF (b.drop 2) with
  | none =>
    rw [hE] at he
    dsimp only [evsR] at he
    dsimp only [Rc.av, Rc.cs]
    refine aspec_of lay_ok 36894649369136998397 Try.func88 rfl rfl rfl ?_
    repeat' ((conv => whnf); first | refine Spl.yes (by first | assumption | omega) ?_ | refine Spl.no (by first | assumption | omega) ?_ | refine Wr.i64 (by omega) (by omega) ?_ | refine Still.mk rfl rfl ?_ | refine InB.mk (inB_mk (by omega) (by omega)) ?_ | refine Req.mk (by omega) ?_ | refine Req.mk ⟨by first | omega | (dsimp only; omega), by first | omega | (dsimp only; omega)⟩ ?_ | refine ACall.plain _ _ (fields_e _ hk) (SubL.cons (.eq _) .nil) rfl ?_ | refine ACall.plain _ _ (he) (SubL.cons (.eq _) .nil) rfl ?_ | refine ALoop.unr 10 6 rfl ?_ | refine ARet.hdI ?_ | refine Spl.mk (fun _ => ?_) (fun _ => ?_) | refine Wr.b64 ?_ | refine Wr.bu64 ?_ | refine Wr.bu32 ?_ | refine Wr.bu8 ?_ | refine Wr.u8 (by omega) (by omega) ?_ | refine Wr.u64 (by omega) (by omega) ?_ | refine Wr.u32 (by omega) (by omega) ?_ | refine Dv.pos (by omega) (by omega) ?_ | refine Rm.pos (by omega) (by omega) ?_ | refine ADraw.quiet follows_ok (by kernel_rfl) rfl ?_ | refine ADraw.sched (id := 3) lay_ok (awp_snd lay_ok _) [(0, none), (1, none), (2, none), (3, none), (4, none), (5, none), (6, none), (7, none), (8, none), (9, some []), (10, some [7, 6, 3, 2])] [(3, [2]), (7, [6]), (8, [7, 6, 3, 2]), (9, []), (10, [7, 6, 3, 2])] follows_ok (by kernel_rfl) ?_ | refine BSpl.decY (by first | assumption | omega) ?_ | refine BSpl.decN (by first | assumption | omega) ?_ | refine BSpl.dec (fun _ => ?_) (fun _ => ?_) | refine BSpl.yes (by assumption) ?_ | refine BSpl.no (by assumption) ?_ | refine BSpl.mk (fun _ => ?_) (fun _ => ?_))
    all_goals (conv => whnf)
    all_goals exact AEqI.mk (AEq.nilEvT _)
  | some l =>
    rw [hE] at he
    dsimp only [evsR] at he
    dsimp only [Rc.av, Rc.cs]
    refine aspec_of lay_ok 36894649369136998397 Try.func88 rfl rfl rfl ?_
    repeat' ((conv => whnf); first | refine Spl.yes (by first | assumption | omega) ?_ | refine Spl.no (by first | assumption | omega) ?_ | refine Wr.i64 (by omega) (by omega) ?_ | refine Still.mk rfl rfl ?_ | refine InB.mk (inB_mk (by omega) (by omega)) ?_ | refine Req.mk (by omega) ?_ | refine Req.mk ⟨by first | omega | (dsimp only; omega), by first | omega | (dsimp only; omega)⟩ ?_ | refine ACall.plain _ _ (fields_e _ hk) (SubL.cons (.eq _) .nil) rfl ?_ | refine ACall.plain _ _ (he) (SubL.cons (.eq _) .nil) rfl ?_ | refine ALoop.unr 10 6 rfl ?_ | refine ARet.hdI ?_ | refine Spl.mk (fun _ => ?_) (fun _ => ?_) | refine Wr.b64 ?_ | refine Wr.bu64 ?_ | refine Wr.bu32 ?_ | refine Wr.bu8 ?_ | refine Wr.u8 (by omega) (by omega) ?_ | refine Wr.u64 (by omega) (by omega) ?_ | refine Wr.u32 (by omega) (by omega) ?_ | refine Dv.pos (by omega) (by omega) ?_ | refine Rm.pos (by omega) (by omega) ?_ | refine ADraw.quiet follows_ok (by kernel_rfl) rfl ?_ | refine ADraw.sched (id := 3) lay_ok (awp_snd lay_ok _) [(0, none), (1, none), (2, none), (3, none), (4, none), (5, none), (6, none), (7, none), (8, none), (9, some []), (10, some [7, 6, 3, 2])] [(3, [2]), (7, [6]), (8, [7, 6, 3, 2]), (9, []), (10, [7, 6, 3, 2])] follows_ok (by kernel_rfl) ?_ | refine BSpl.decY (by first | assumption | omega) ?_ | refine BSpl.decN (by first | assumption | omega) ?_ | refine BSpl.dec (fun _ => ?_) (fun _ => ?_) | refine BSpl.yes (by assumption) ?_ | refine BSpl.no (by assumption) ?_ | refine BSpl.mk (fun _ => ?_) (fun _ => ?_))
    all_goals (conv => whnf)
    all_goals exact AEqI.mk (AEq.refl _)

set_option maxHeartbeats 8000000 in
set_option maxRecDepth 100000 in
theorem rread_u (b : List UInt8) (hl : b.length ≤ 1000000000) (hu : 2 ≤ b.length) (hk : ((b.getD 0 default).toNat : Int) = 3) :
    ASpec Try.prog 88 [.sl 1 b.length true (bytesF b)] (.tup [(readR b).1.av, .v (.bool (readR b).2)]) [] := by
  rw [readR_eq hu]
  unfold rdR
  rw [if_neg (by omega), if_pos hk]
  unfold rdRn
  cases hE : numF (b.drop 2) with
  | none =>
    have he := rnum_no (n := b.length - 2) (b.drop 2) hE (IsB.drop (IsB.bytes b) 2) (by simp)
    dsimp only [Rc.av, Rc.cs]
    refine aspec_of lay_ok 36894649369136998397 Try.func88 rfl rfl rfl ?_
    repeat' ((conv => whnf); first | refine Spl.yes (by first | assumption | omega) ?_ | refine Spl.no (by first | assumption | omega) ?_ | refine Wr.i64 (by omega) (by omega) ?_ | refine Still.mk rfl rfl ?_ | refine InB.mk (inB_mk (by omega) (by omega)) ?_ | refine Req.mk (by omega) ?_ | refine Req.mk ⟨by first | omega | (dsimp only; omega), by first | omega | (dsimp only; omega)⟩ ?_ | refine ACall.plain _ _ (fields_u _ hk) (SubL.cons (.eq _) .nil) rfl ?_ | refine ACall.plain _ _ (he) (SubL.cons (.eq _) .nil) rfl ?_ | refine ALoop.unr 10 6 rfl ?_ | refine ARet.hdI ?_ | refine Spl.mk (fun _ => ?_) (fun _ => ?_) | refine Wr.b64 ?_ | refine Wr.bu64 ?_ | refine Wr.bu32 ?_ | refine Wr.bu8 ?_ | refine Wr.u8 (by omega) (by omega) ?_ | refine Wr.u64 (by omega) (by omega) ?_ | refine Wr.u32 (by omega) (by omega) ?_ | refine Dv.pos (by omega) (by omega) ?_ | refine Rm.pos (by omega) (by omega) ?_ | refine ADraw.quiet follows_ok (by kernel_rfl) rfl ?_ | refine ADraw.sched (id := 3) lay_ok (awp_snd lay_ok _) [(0, none), (1, none), (2, none), (3, none), (4, none), (5, none), (6, none), (7, none), (8, none), (9, some []), (10, some [7, 6, 3, 2])] [(3, [2]), (7, [6]), (8, [7, 6, 3, 2]), (9, []), (10, [7, 6, 3, 2])] follows_ok (by kernel_rfl) ?_ | refine BSpl.decY (by first | assumption | omega) ?_ | refine BSpl.decN (by first | assumption | omega) ?_ | refine BSpl.dec (fun _ => ?_) (fun _ => ?_) | refine BSpl.yes (by assumption) ?_ | refine BSpl.no (by assumption) ?_ | refine BSpl.mk (fun _ => ?_) (fun _ => ?_))
    all_goals (conv => whnf)
    all_goals exact AEqI.mk (AEq.nilEvT _)
  | some p =>
    obtain ⟨m, k⟩ := p
    have he := rnum_ok (n := b.length - 2) (b.drop 2) hE (IsB.drop (IsB.bytes b) 2) (by simp)
    dsimp only [Rc.av, Rc.cs]
    refine aspec_of lay_ok 36894649369136998397 Try.func88 rfl rfl rfl ?_
    repeat' ((conv => whnf); first | refine Spl.yes (by first | assumption | omega) ?_ | refine Spl.no (by first | assumption | omega) ?_ | refine Wr.i64 (by omega) (by omega) ?_ | refine Still.mk rfl rfl ?_ | refine InB.mk (inB_mk (by omega) (by omega)) ?_ | refine Req.mk (by omega) ?_ | refine Req.mk ⟨by first | omega | (dsimp only; omega), by first | omega | (dsimp only; omega)⟩ ?_ | refine ACall.plain _ _ (fields_u _ hk) (SubL.cons (.eq _) .nil) rfl ?_ | refine ACall.plain _ _ (he) (SubL.cons (.eq _) .nil) rfl ?_ | refine ALoop.unr 10 6 rfl ?_ | refine ARet.hdI ?_ | refine Spl.mk (fun _ => ?_) (fun _ => ?_) | refine Wr.b64 ?_ | refine Wr.bu64 ?_ | refine Wr.bu32 ?_ | refine Wr.bu8 ?_ | refine Wr.u8 (by omega) (by omega) ?_ | refine Wr.u64 (by omega) (by omega) ?_ | refine Wr.u32 (by omega) (by omega) ?_ | refine Dv.pos (by omega) (by omega) ?_ | refine Rm.pos (by omega) (by omega) ?_ | refine ADraw.quiet follows_ok (by kernel_rfl) rfl ?_ | refine ADraw.sched (id := 3) lay_ok (awp_snd lay_ok _) [(0, none), (1, none), (2, none), (3, none), (4, none), (5, none), (6, none), (7, none), (8, none), (9, some []), (10, some [7, 6, 3, 2])] [(3, [2]), (7, [6]), (8, [7, 6, 3, 2]), (9, []), (10, [7, 6, 3, 2])] follows_ok (by kernel_rfl) ?_ | refine BSpl.decY (by first | assumption | omega) ?_ | refine BSpl.decN (by first | assumption | omega) ?_ | refine BSpl.dec (fun _ => ?_) (fun _ => ?_) | refine BSpl.yes (by assumption) ?_ | refine BSpl.no (by assumption) ?_ | refine BSpl.mk (fun _ => ?_) (fun _ => ?_))
    all_goals (conv => whnf)
    all_goals exact AEqI.mk (AEq.nilEvT _)

set_option maxHeartbeats 8000000 in
set_option maxRecDepth 100000 in
theorem rread_ue (b : List UInt8) (hl : b.length ≤ 1000000000) (hu : 2 ≤ b.length) (hk : ((b.getD 0 default).toNat : Int) = 4) :
    ASpec Try.prog 88 [.sl 1 b.length true (bytesF b)] (.tup [(readR b).1.av, .v (.bool (readR b).2)]) [] := by
  rw [readR_eq hu]
  unfold rdR
  rw [if_neg (by omega), if_neg (by omega), if_pos hk]
  cases hE : numF (b.drop 2) with
  | none =>
    have he := rnum_no (n := b.length - 2) (b.drop 2) hE (IsB.drop (IsB.bytes b) 2) (by simp)
    dsimp only [Rc.av, Rc.cs]
    refine aspec_of lay_ok 36894649369136998397 Try.func88 rfl rfl rfl ?_
    repeat' ((conv => whnf); first | refine Spl.yes (by first | assumption | omega) ?_ | refine Spl.no (by first | assumption | omega) ?_ | refine Wr.i64 (by omega) (by omega) ?_ | refine Still.mk rfl rfl ?_ | refine InB.mk (inB_mk (by omega) (by omega)) ?_ | refine Req.mk (by omega) ?_ | refine Req.mk ⟨by first | omega | (dsimp only; omega), by first | omega | (dsimp only; omega)⟩ ?_ | refine ACall.plain _ _ (fields_ue _ hk) (SubL.cons (.eq _) .nil) rfl ?_ | refine ACall.plain _ _ (he) (SubL.cons (.eq _) .nil) rfl ?_ | refine ALoop.unr 10 6 rfl ?_ | refine ARet.hdI ?_ | refine Spl.mk (fun _ => ?_) (fun _ => ?_) | refine Wr.b64 ?_ | refine Wr.bu64 ?_ | refine Wr.bu32 ?_ | refine Wr.bu8 ?_ | refine Wr.u8 (by omega) (by omega) ?_ | refine Wr.u64 (by omega) (by omega) ?_ | refine Wr.u32 (by omega) (by omega) ?_ | refine Dv.pos (by omega) (by omega) ?_ | refine Rm.pos (by omega) (by omega) ?_ | refine ADraw.quiet follows_ok (by kernel_rfl) rfl ?_ | refine ADraw.sched (id := 3) lay_ok (awp_snd lay_ok _) [(0, none), (1, none), (2, none), (3, none), (4, none), (5, none), (6, none), (7, none), (8, none), (9, some []), (10, some [7, 6, 3, 2])] [(3, [2]), (7, [6]), (8, [7, 6, 3, 2]), (9, []), (10, [7, 6, 3, 2])] follows_ok (by kernel_rfl) ?_ | refine BSpl.decY (by first | assumption | omega) ?_ | refine BSpl.decN (by first | assumption | omega) ?_ | refine BSpl.dec (fun _ => ?_) (fun _ => ?_) | refine BSpl.yes (by assumption) ?_ | refine BSpl.no (by assumption) ?_ | refine BSpl.mk (fun _ => ?_) (fun _ => ?_))
    all_goals (conv => whnf)
    all_goals exact AEqI.mk (AEq.nilEvT _)
  | some p =>
    obtain ⟨m, k⟩ := p
    have he := rnum_ok (n := b.length - 2) (b.drop 2) hE (IsB.drop (IsB.bytes b) 2) (by simp)
    dsimp only
    have hdl : ((b.drop 2).drop k).length ≤ b.length := by rw [List.length_drop, List.length_drop]; omega
    generalize (b.drop 2).drop k = t at he hdl
    have hli := rlist_spec t (IsB.bytes t) rfl (by omega)
    unfold rdRl
    cases hL : listF t with
    | none =>
      rw [hL] at hli
      dsimp only [evsR] at hli
      dsimp only [Rc.av, Rc.cs]
      refine aspec_of lay_ok 36894649369136998397 Try.func88 rfl rfl rfl ?_
      repeat' ((conv => whnf); first | refine Spl.yes (by first | assumption | omega) ?_ | refine Spl.no (by first | assumption | omega) ?_ | refine Wr.i64 (by omega) (by omega) ?_ | refine Still.mk rfl rfl ?_ | refine InB.mk (inB_mk (by omega) (by omega)) ?_ | refine Req.mk (by omega) ?_ | refine Req.mk ⟨by first | omega | (dsimp only; omega), by first | omega | (dsimp only; omega)⟩ ?_ | refine ACall.plain _ _ (fields_ue _ hk) (SubL.cons (.eq _) .nil) rfl ?_ | refine ACall.plain _ _ (he) (SubL.cons (.eq _) .nil) rfl ?_ | refine ACall.plain _ _ (hli) (SubL.cons (.eq _) .nil) rfl ?_ | refine ALoop.unr 10 6 rfl ?_ | refine ARet.hdI ?_ | refine Spl.mk (fun _ => ?_) (fun _ => ?_) | refine Wr.b64 ?_ | refine Wr.bu64 ?_ | refine Wr.bu32 ?_ | refine Wr.bu8 ?_ | refine Wr.u8 (by omega) (by omega) ?_ | refine Wr.u64 (by omega) (by omega) ?_ | refine Wr.u32 (by omega) (by omega) ?_ | refine Dv.pos (by omega) (by omega) ?_ | refine Rm.pos (by omega) (by omega) ?_ | refine ADraw.quiet follows_ok (by kernel_rfl) rfl ?_ | refine ADraw.sched (id := 3) lay_ok (awp_snd lay_ok _) [(0, none), (1, none), (2, none), (3, none), (4, none), (5, none), (6, none), (7, none), (8, none), (9, some []), (10, some [7, 6, 3, 2])] [(3, [2]), (7, [6]), (8, [7, 6, 3, 2]), (9, []), (10, [7, 6, 3, 2])] follows_ok (by kernel_rfl) ?_ | refine BSpl.decY (by first | assumption | omega) ?_ | refine BSpl.decN (by first | assumption | omega) ?_ | refine BSpl.dec (fun _ => ?_) (fun _ => ?_) | refine BSpl.yes (by assumption) ?_ | refine BSpl.no (by assumption) ?_ | refine BSpl.mk (fun _ => ?_) (fun _ => ?_))
      all_goals (conv => whnf)
      all_goals exact AEqI.mk (AEq.nilEvT _)
    | some l =>
      rw [hL] at hli
      dsimp only [evsR] at hli
      dsimp only [Rc.av, Rc.cs]
      refine aspec_of lay_ok 36894649369136998397 Try.func88 rfl rfl rfl ?_
      repeat' ((conv => whnf); first | refine Spl.yes (by first | assumption | omega) ?_ | refine Spl.no (by first | assumption | omega) ?_ | refine Wr.i64 (by omega) (by omega) ?_ | refine Still.mk rfl rfl ?_ | refine InB.mk (inB_mk (by omega) (by omega)) ?_ | refine Req.mk (by omega) ?_ | refine Req.mk ⟨by first | omega | (dsimp only; omega), by first | omega | (dsimp only; omega)⟩ ?_ | refine ACall.plain _ _ (fields_ue _ hk) (SubL.cons (.eq _) .nil) rfl ?_ | refine ACall.plain _ _ (he) (SubL.cons (.eq _) .nil) rfl ?_ | refine ACall.plain _ _ (hli) (SubL.cons (.eq _) .nil) rfl ?_ | refine ALoop.unr 10 6 rfl ?_ | refine ARet.hdI ?_ | refine Spl.mk (fun _ => ?_) (fun _ => ?_) | refine Wr.b64 ?_ | refine Wr.bu64 ?_ | refine Wr.bu32 ?_ | refine Wr.bu8 ?_ | refine Wr.u8 (by omega) (by omega) ?_ | refine Wr.u64 (by omega) (by omega) ?_ | refine Wr.u32 (by omega) (by omega) ?_ | refine Dv.pos (by omega) (by omega) ?_ | refine Rm.pos (by omega) (by omega) ?_ | refine ADraw.quiet follows_ok (by kernel_rfl) rfl ?_ | refine ADraw.sched (id := 3) lay_ok (awp_snd lay_ok _) [(0, none), (1, none), (2, none), (3, none), (4, none), (5, none), (6, none), (7, none), (8, none), (9, some []), (10, some [7, 6, 3, 2])] [(3, [2]), (7, [6]), (8, [7, 6, 3, 2]), (9, []), (10, [7, 6, 3, 2])] follows_ok (by kernel_rfl) ?_ | refine BSpl.decY (by first | assumption | omega) ?_ | refine BSpl.decN (by first | assumption | omega) ?_ | refine BSpl.dec (fun _ => ?_) (fun _ => ?_) | refine BSpl.yes (by assumption) ?_ | refine BSpl.no (by assumption) ?_ | refine BSpl.mk (fun _ => ?_) (fun _ => ?_))
      all_goals (conv => whnf)
      all_goals exact AEqI.mk (AEq.refl _)

set_option maxHeartbeats 8000000 in
set_option maxRecDepth 100000 in
theorem rread_c (b : List UInt8) (hl : b.length ≤ 1000000000) (hu : 2 ≤ b.length) (hk : ((b.getD 0 default).toNat : Int) = 6) :
    ASpec Try.prog 88 [.sl 1 b.length true (bytesF b)] (.tup [(readR b).1.av, .v (.bool (readR b).2)]) [] := by
  rw [readR_eq hu]
  unfold rdR
  rw [if_neg (by omega), if_neg (by omega), if_neg (by omega), if_pos hk]
  cases g0 : numF (b.drop 2) with
  | none =>
    have e0 := rnum_no (n := b.length - 2) (b.drop 2) g0 (IsB.drop (IsB.bytes b) 2) (by simp)
    have hr : rdC (b.drop 2) = (⟨0, 0, 0, 0, 0⟩, false) := by unfold rdC; simp only [g0]
    rw [hr]
    dsimp only [Rc.av, Rc.cs]
    refine aspec_of lay_ok 36894649369136998397 Try.func88 rfl rfl rfl ?_
    repeat' ((conv => whnf); first | refine Spl.yes (by first | assumption | omega) ?_ | refine Spl.no (by first | assumption | omega) ?_ | refine Wr.i64 (by omega) (by omega) ?_ | refine Still.mk rfl rfl ?_ | refine InB.mk (inB_mk (by omega) (by omega)) ?_ | refine Req.mk (by omega) ?_ | refine Req.mk ⟨by first | omega | (dsimp only; omega), by first | omega | (dsimp only; omega)⟩ ?_ | refine ACall.plain _ _ (fields_c _ hk) (SubL.cons (.eq _) .nil) rfl ?_ | refine ACall.plain _ _ (e0) (SubL.cons (.eq _) .nil) rfl ?_ | refine ALoop.unr 10 6 rfl ?_ | refine ARet.hdI ?_ | refine Spl.mk (fun _ => ?_) (fun _ => ?_) | refine Wr.b64 ?_ | refine Wr.bu64 ?_ | refine Wr.bu32 ?_ | refine Wr.bu8 ?_ | refine Wr.u8 (by omega) (by omega) ?_ | refine Wr.u64 (by omega) (by omega) ?_ | refine Wr.u32 (by omega) (by omega) ?_ | refine Dv.pos (by omega) (by omega) ?_ | refine Rm.pos (by omega) (by omega) ?_ | refine ADraw.quiet follows_ok (by kernel_rfl) rfl ?_ | refine ADraw.sched (id := 3) lay_ok (awp_snd lay_ok _) [(0, none), (1, none), (2, none), (3, none), (4, none), (5, none), (6, none), (7, none), (8, none), (9, some []), (10, some [7, 6, 3, 2])] [(3, [2]), (7, [6]), (8, [7, 6, 3, 2]), (9, []), (10, [7, 6, 3, 2])] follows_ok (by kernel_rfl) ?_ | refine BSpl.decY (by first | assumption | omega) ?_ | refine BSpl.decN (by first | assumption | omega) ?_ | refine BSpl.dec (fun _ => ?_) (fun _ => ?_) | refine BSpl.yes (by assumption) ?_ | refine BSpl.no (by assumption) ?_ | refine BSpl.mk (fun _ => ?_) (fun _ => ?_))
    all_goals (conv => whnf)
    all_goals exact AEqI.mk (AEq.nilEvT _)
  | some p0 =>
    obtain ⟨m0, k0⟩ := p0
    have e0 := rnum_ok (n := b.length - 2) (b.drop 2) g0 (IsB.drop (IsB.bytes b) 2) (by simp)
    cases g1 : numF ((b.drop 2).drop k0) with
    | none =>
      have e1 := rnum_no ((b.drop 2).drop k0) g1 (IsB.bytes _) rfl
      have hr : rdC (b.drop 2) = (⟨m0, 0, 0, 0, 0⟩, false) := by unfold rdC; simp only [g0, g1]
      rw [hr]
      dsimp only [Rc.av, Rc.cs]
      refine aspec_of lay_ok 36894649369136998397 Try.func88 rfl rfl rfl ?_
      repeat' ((conv => whnf); first | refine Spl.yes (by first | assumption | omega) ?_ | refine Spl.no (by first | assumption | omega) ?_ | refine Wr.i64 (by omega) (by omega) ?_ | refine Still.mk rfl rfl ?_ | refine InB.mk (inB_mk (by omega) (by omega)) ?_ | refine Req.mk (by omega) ?_ | refine Req.mk ⟨by first | omega | (dsimp only; omega), by first | omega | (dsimp only; omega)⟩ ?_ | refine ACall.plain _ _ (fields_c _ hk) (SubL.cons (.eq _) .nil) rfl ?_ | refine ACall.plain _ _ (e0) (SubL.cons (.eq _) .nil) rfl ?_ | refine ACall.plain _ _ (e1) (SubL.cons (.eq _) .nil) rfl ?_ | refine ALoop.unr 10 6 rfl ?_ | refine ARet.hdI ?_ | refine Spl.mk (fun _ => ?_) (fun _ => ?_) | refine Wr.b64 ?_ | refine Wr.bu64 ?_ | refine Wr.bu32 ?_ | refine Wr.bu8 ?_ | refine Wr.u8 (by omega) (by omega) ?_ | refine Wr.u64 (by omega) (by omega) ?_ | refine Wr.u32 (by omega) (by omega) ?_ | refine Dv.pos (by omega) (by omega) ?_ | refine Rm.pos (by omega) (by omega) ?_ | refine ADraw.quiet follows_ok (by kernel_rfl) rfl ?_ | refine ADraw.sched (id := 3) lay_ok (awp_snd lay_ok _) [(0, none), (1, none), (2, none), (3, none), (4, none), (5, none), (6, none), (7, none), (8, none), (9, some []), (10, some [7, 6, 3, 2])] [(3, [2]), (7, [6]), (8, [7, 6, 3, 2]), (9, []), (10, [7, 6, 3, 2])] follows_ok (by kernel_rfl) ?_ | refine BSpl.decY (by first | assumption | omega) ?_ | refine BSpl.decN (by first | assumption | omega) ?_ | refine BSpl.dec (fun _ => ?_) (fun _ => ?_) | refine BSpl.yes (by assumption) ?_ | refine BSpl.no (by assumption) ?_ | refine BSpl.mk (fun _ => ?_) (fun _ => ?_))
      all_goals (conv => whnf)
      all_goals exact AEqI.mk (AEq.nilEvT _)
    | some p1 =>
      obtain ⟨m1, k1⟩ := p1
      have e1 := rnum_ok ((b.drop 2).drop k0) g1 (IsB.bytes _) rfl
      cases g2 : numF (((b.drop 2).drop k0).drop k1) with
      | none =>
        have e2 := rnum_no (((b.drop 2).drop k0).drop k1) g2 (IsB.bytes _) rfl
        have hr : rdC (b.drop 2) = (⟨m0, m1, 0, 0, 0⟩, false) := by unfold rdC; simp only [g0, g1, g2]
        rw [hr]
        dsimp only [Rc.av, Rc.cs]
        refine aspec_of lay_ok 36894649369136998397 Try.func88 rfl rfl rfl ?_
        repeat' ((conv => whnf); first | refine Spl.yes (by first | assumption | omega) ?_ | refine Spl.no (by first | assumption | omega) ?_ | refine Wr.i64 (by omega) (by omega) ?_ | refine Still.mk rfl rfl ?_ | refine InB.mk (inB_mk (by omega) (by omega)) ?_ | refine Req.mk (by omega) ?_ | refine Req.mk ⟨by first | omega | (dsimp only; omega), by first | omega | (dsimp only; omega)⟩ ?_ | refine ACall.plain _ _ (fields_c _ hk) (SubL.cons (.eq _) .nil) rfl ?_ | refine ACall.plain _ _ (e0) (SubL.cons (.eq _) .nil) rfl ?_ | refine ACall.plain _ _ (e1) (SubL.cons (.eq _) .nil) rfl ?_ | refine ACall.plain _ _ (e2) (SubL.cons (.eq _) .nil) rfl ?_ | refine ALoop.unr 10 6 rfl ?_ | refine ARet.hdI ?_ | refine Spl.mk (fun _ => ?_) (fun _ => ?_) | refine Wr.b64 ?_ | refine Wr.bu64 ?_ | refine Wr.bu32 ?_ | refine Wr.bu8 ?_ | refine Wr.u8 (by omega) (by omega) ?_ | refine Wr.u64 (by omega) (by omega) ?_ | refine Wr.u32 (by omega) (by omega) ?_ | refine Dv.pos (by omega) (by omega) ?_ | refine Rm.pos (by omega) (by omega) ?_ | refine ADraw.quiet follows_ok (by kernel_rfl) rfl ?_ | refine ADraw.sched (id := 3) lay_ok (awp_snd lay_ok _) [(0, none), (1, none), (2, none), (3, none), (4, none), (5, none), (6, none), (7, none), (8, none), (9, some []), (10, some [7, 6, 3, 2])] [(3, [2]), (7, [6]), (8, [7, 6, 3, 2]), (9, []), (10, [7, 6, 3, 2])] follows_ok (by kernel_rfl) ?_ | refine BSpl.decY (by first | assumption | omega) ?_ | refine BSpl.decN (by first | assumption | omega) ?_ | refine BSpl.dec (fun _ => ?_) (fun _ => ?_) | refine BSpl.yes (by assumption) ?_ | refine BSpl.no (by assumption) ?_ | refine BSpl.mk (fun _ => ?_) (fun _ => ?_))
        all_goals (conv => whnf)
        all_goals exact AEqI.mk (AEq.nilEvT _)
      | some p2 =>
        obtain ⟨m2, k2⟩ := p2
        have e2 := rnum_ok (((b.drop 2).drop k0).drop k1) g2 (IsB.bytes _) rfl
        cases g3 : numF ((((b.drop 2).drop k0).drop k1).drop k2) with
        | none =>
          have e3 := rnum_no ((((b.drop 2).drop k0).drop k1).drop k2) g3 (IsB.bytes _) rfl
          have hr : rdC (b.drop 2) = (⟨m0, m1, m2, 0, 0⟩, false) := by unfold rdC; simp only [g0, g1, g2, g3]
          rw [hr]
          dsimp only [Rc.av, Rc.cs]
          refine aspec_of lay_ok 36894649369136998397 Try.func88 rfl rfl rfl ?_
          repeat' ((conv => whnf); first | refine Spl.yes (by first | assumption | omega) ?_ | refine Spl.no (by first | assumption | omega) ?_ | refine Wr.i64 (by omega) (by omega) ?_ | refine Still.mk rfl rfl ?_ | refine InB.mk (inB_mk (by omega) (by omega)) ?_ | refine Req.mk (by omega) ?_ | refine Req.mk ⟨by first | omega | (dsimp only; omega), by first | omega | (dsimp only; omega)⟩ ?_ | refine ACall.plain _ _ (fields_c _ hk) (SubL.cons (.eq _) .nil) rfl ?_ | refine ACall.plain _ _ (e0) (SubL.cons (.eq _) .nil) rfl ?_ | refine ACall.plain _ _ (e1) (SubL.cons (.eq _) .nil) rfl ?_ | refine ACall.plain _ _ (e2) (SubL.cons (.eq _) .nil) rfl ?_ | refine ACall.plain _ _ (e3) (SubL.cons (.eq _) .nil) rfl ?_ | refine ALoop.unr 10 6 rfl ?_ | refine ARet.hdI ?_ | refine Spl.mk (fun _ => ?_) (fun _ => ?_) | refine Wr.b64 ?_ | refine Wr.bu64 ?_ | refine Wr.bu32 ?_ | refine Wr.bu8 ?_ | refine Wr.u8 (by omega) (by omega) ?_ | refine Wr.u64 (by omega) (by omega) ?_ | refine Wr.u32 (by omega) (by omega) ?_ | refine Dv.pos (by omega) (by omega) ?_ | refine Rm.pos (by omega) (by omega) ?_ | refine ADraw.quiet follows_ok (by kernel_rfl) rfl ?_ | refine ADraw.sched (id := 3) lay_ok (awp_snd lay_ok _) [(0, none), (1, none), (2, none), (3, none), (4, none), (5, none), (6, none), (7, none), (8, none), (9, some []), (10, some [7, 6, 3, 2])] [(3, [2]), (7, [6]), (8, [7, 6, 3, 2]), (9, []), (10, [7, 6, 3, 2])] follows_ok (by kernel_rfl) ?_ | refine BSpl.decY (by first | assumption | omega) ?_ | refine BSpl.decN (by first | assumption | omega) ?_ | refine BSpl.dec (fun _ => ?_) (fun _ => ?_) | refine BSpl.yes (by assumption) ?_ | refine BSpl.no (by assumption) ?_ | refine BSpl.mk (fun _ => ?_) (fun _ => ?_))
          all_goals (conv => whnf)
          all_goals exact AEqI.mk (AEq.nilEvT _)
        | some p3 =>
          obtain ⟨m3, k3⟩ := p3
          have e3 := rnum_ok ((((b.drop 2).drop k0).drop k1).drop k2) g3 (IsB.bytes _) rfl
          cases g4 : numF (((((b.drop 2).drop k0).drop k1).drop k2).drop k3) with
          | none =>
            have e4 := rnum_no (((((b.drop 2).drop k0).drop k1).drop k2).drop k3) g4 (IsB.bytes _) rfl
            have hr : rdC (b.drop 2) = (⟨m0, m1, m2, m3, 0⟩, false) := by unfold rdC; simp only [g0, g1, g2, g3, g4]
            rw [hr]
            dsimp only [Rc.av, Rc.cs]
            refine aspec_of lay_ok 36894649369136998397 Try.func88 rfl rfl rfl ?_
            repeat' ((conv => whnf); first | refine Spl.yes (by first | assumption | omega) ?_ | refine Spl.no (by first | assumption | omega) ?_ | refine Wr.i64 (by omega) (by omega) ?_ | refine Still.mk rfl rfl ?_ | refine InB.mk (inB_mk (by omega) (by omega)) ?_ | refine Req.mk (by omega) ?_ | refine Req.mk ⟨by first | omega | (dsimp only; omega), by first | omega | (dsimp only; omega)⟩ ?_ | refine ACall.plain _ _ (fields_c _ hk) (SubL.cons (.eq _) .nil) rfl ?_ | refine ACall.plain _ _ (e0) (SubL.cons (.eq _) .nil) rfl ?_ | refine ACall.plain _ _ (e1) (SubL.cons (.eq _) .nil) rfl ?_ | refine ACall.plain _ _ (e2) (SubL.cons (.eq _) .nil) rfl ?_ | refine ACall.plain _ _ (e3) (SubL.cons (.eq _) .nil) rfl ?_ | refine ACall.plain _ _ (e4) (SubL.cons (.eq _) .nil) rfl ?_ | refine ALoop.unr 10 6 rfl ?_ | refine ARet.hdI ?_ | refine Spl.mk (fun _ => ?_) (fun _ => ?_) | refine Wr.b64 ?_ | refine Wr.bu64 ?_ | refine Wr.bu32 ?_ | refine Wr.bu8 ?_ | refine Wr.u8 (by omega) (by omega) ?_ | refine Wr.u64 (by omega) (by omega) ?_ | refine Wr.u32 (by omega) (by omega) ?_ | refine Dv.pos (by omega) (by omega) ?_ | refine Rm.pos (by omega) (by omega) ?_ | refine ADraw.quiet follows_ok (by kernel_rfl) rfl ?_ | refine ADraw.sched (id := 3) lay_ok (awp_snd lay_ok _) [(0, none), (1, none), (2, none), (3, none), (4, none), (5, none), (6, none), (7, none), (8, none), (9, some []), (10, some [7, 6, 3, 2])] [(3, [2]), (7, [6]), (8, [7, 6, 3, 2]), (9, []), (10, [7, 6, 3, 2])] follows_ok (by kernel_rfl) ?_ | refine BSpl.decY (by first | assumption | omega) ?_ | refine BSpl.decN (by first | assumption | omega) ?_ | refine BSpl.dec (fun _ => ?_) (fun _ => ?_) | refine BSpl.yes (by assumption) ?_ | refine BSpl.no (by assumption) ?_ | refine BSpl.mk (fun _ => ?_) (fun _ => ?_))
            all_goals (conv => whnf)
            all_goals exact AEqI.mk (AEq.nilEvT _)
          | some p4 =>
            obtain ⟨m4, k4⟩ := p4
            have e4 := rnum_ok (((((b.drop 2).drop k0).drop k1).drop k2).drop k3) g4 (IsB.bytes _) rfl
            have hr : rdC (b.drop 2) = (⟨m0, m1, m2, m3, m4⟩, true) := by unfold rdC; simp only [g0, g1, g2, g3, g4]
            rw [hr]
            dsimp only [Rc.av, Rc.cs]
            refine aspec_of lay_ok 36894649369136998397 Try.func88 rfl rfl rfl ?_
            repeat' ((conv => whnf); first | refine Spl.yes (by first | assumption | omega) ?_ | refine Spl.no (by first | assumption | omega) ?_ | refine Wr.i64 (by omega) (by omega) ?_ | refine Still.mk rfl rfl ?_ | refine InB.mk (inB_mk (by omega) (by omega)) ?_ | refine Req.mk (by omega) ?_ | refine Req.mk ⟨by first | omega | (dsimp only; omega), by first | omega | (dsimp only; omega)⟩ ?_ | refine ACall.plain _ _ (fields_c _ hk) (SubL.cons (.eq _) .nil) rfl ?_ | refine ACall.plain _ _ (e0) (SubL.cons (.eq _) .nil) rfl ?_ | refine ACall.plain _ _ (e1) (SubL.cons (.eq _) .nil) rfl ?_ | refine ACall.plain _ _ (e2) (SubL.cons (.eq _) .nil) rfl ?_ | refine ACall.plain _ _ (e3) (SubL.cons (.eq _) .nil) rfl ?_ | refine ACall.plain _ _ (e4) (SubL.cons (.eq _) .nil) rfl ?_ | refine ALoop.unr 10 6 rfl ?_ | refine ARet.hdI ?_ | refine Spl.mk (fun _ => ?_) (fun _ => ?_) | refine Wr.b64 ?_ | refine Wr.bu64 ?_ | refine Wr.bu32 ?_ | refine Wr.bu8 ?_ | refine Wr.u8 (by omega) (by omega) ?_ | refine Wr.u64 (by omega) (by omega) ?_ | refine Wr.u32 (by omega) (by omega) ?_ | refine Dv.pos (by omega) (by omega) ?_ | refine Rm.pos (by omega) (by omega) ?_ | refine ADraw.quiet follows_ok (by kernel_rfl) rfl ?_ | refine ADraw.sched (id := 3) lay_ok (awp_snd lay_ok _) [(0, none), (1, none), (2, none), (3, none), (4, none), (5, none), (6, none), (7, none), (8, none), (9, some []), (10, some [7, 6, 3, 2])] [(3, [2]), (7, [6]), (8, [7, 6, 3, 2]), (9, []), (10, [7, 6, 3, 2])] follows_ok (by kernel_rfl) ?_ | refine BSpl.decY (by first | assumption | omega) ?_ | refine BSpl.decN (by first | assumption | omega) ?_ | refine BSpl.dec (fun _ => ?_) (fun _ => ?_) | refine BSpl.yes (by assumption) ?_ | refine BSpl.no (by assumption) ?_ | refine BSpl.mk (fun _ => ?_) (fun _ => ?_))
            all_goals (conv => whnf)
            all_goals exact AEqI.mk (AEq.nilEvT _)

theorem rread_spec {n : Nat} {F : Nat → List AV} (b : List UInt8) (hF : IsB F b) (hn : n = b.length) (hl : b.length ≤ 1000000000) : ASpec Try.prog 88 [.sl 1 n true F] (.tup [(readR b).1.av, .v (.bool (readR b).2)]) [] := by
  refine ASpec.args ?_ (Ch.isB hF hn .nil)
  by_cases h : b.length < 2
  · exact rread_no b hl h
  · have hu : 2 ≤ b.length := by omega
    by_cases h1 : ((b.getD 0 default).toNat : Int) = 1 ∨ ((b.getD 0 default).toNat : Int) = 2 ∨ ((b.getD 0 default).toNat : Int) = 5
    · exact rread_e b hl hu h1
    · by_cases h2 : ((b.getD 0 default).toNat : Int) = 3
      · exact rread_u b hl hu h2
      · by_cases h3 : ((b.getD 0 default).toNat : Int) = 4
        · exact rread_ue b hl hu h3
        · by_cases h4 : ((b.getD 0 default).toNat : Int) = 6
          · exact rread_c b hl hu h4
          · exact rread_none b hl hu ⟨h1, h2, h3, h4⟩
end Go.Proofs.Ytbmojelnkldecaa
