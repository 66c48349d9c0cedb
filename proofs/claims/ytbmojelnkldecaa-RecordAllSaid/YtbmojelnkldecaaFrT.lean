/-
  What frame.number and frame.events tell of any bytes; equality of bytes and of lists of events.
-/
import Derived.Test.YtbmojelnkldecaaFrmP
import Derived.Test.YtbmojelnkldecaaTkF
namespace Go.Proofs.Ytbmojelnkldecaa
open Go.RowKit

def numF (b : List UInt8) : Option (Nat × Nat) := if (vtake b).2.2 = 0 ∧ (vtake b).1 ≤ 1048576 then some ((vtake b).1, (vtake b).2.1) else none

set_option maxHeartbeats 2000000 in
set_option maxRecDepth 100000 in
theorem number_ok {n : Nat} {F : Nat → List AV} (l : List UInt8) {m k : Nat} (h : numF l = some (m, k)) (hF : IsB F l) (hn : n = l.length) : ASpec Try.prog 84 [.sl 1 n true F] (.tup [.v (.int .i64 (m : Int)), .v (.int .i64 (k : Int)), .v (.bool true)]) [] := by
  obtain ⟨⟨a, c, e⟩, hv⟩ : ∃ p, vtake l = p := ⟨_, rfl⟩
  have hs := vtake_spec l hF hn
  unfold numF at h
  rw [hv] at hs h
  dsimp only at hs h
  split at h
  · rename_i h0
    obtain ⟨h0, h1⟩ := h0
    simp only [Option.some.injEq, Prod.mk.injEq] at h
    obtain ⟨rfl, rfl⟩ := h
    subst h0
    refine aspec_of lay_ok 524541 Try.func84 rfl rfl rfl ?_
    repeat' ((conv => whnf); first | refine Spl.yes (by first | assumption | omega) ?_ | refine Spl.no (by first | assumption | omega) ?_ | refine Wr.i64 (by omega) (by omega) ?_ | refine Still.mk rfl rfl ?_ | refine InB.mk (inB_mk (by omega) (by omega)) ?_ | refine Req.mk (by omega) ?_ | refine Req.mk ⟨by first | omega | (dsimp only; omega), by first | omega | (dsimp only; omega)⟩ ?_ | refine ACall.plain _ _ (hs) (SubL.cons (.eq _) .nil) rfl ?_ | refine ARet.hdI ?_ | refine Spl.mk (fun _ => ?_) (fun _ => ?_) | refine Wr.b64 ?_ | refine Wr.bu64 ?_ | refine Wr.bu32 ?_ | refine Wr.bu8 ?_ | refine Wr.u8 (by omega) (by omega) ?_ | refine Wr.u64 (by omega) (by omega) ?_ | refine Wr.u32 (by omega) (by omega) ?_ | refine Dv.pos (by omega) (by omega) ?_ | refine Rm.pos (by omega) (by omega) ?_ | refine ADraw.quiet follows_ok (by kernel_rfl) rfl ?_ | refine BSpl.decY (by first | assumption | omega) ?_ | refine BSpl.decN (by first | assumption | omega) ?_ | refine BSpl.dec (fun _ => ?_) (fun _ => ?_) | refine BSpl.yes (by assumption) ?_ | refine BSpl.no (by assumption) ?_ | refine BSpl.mk (fun _ => ?_) (fun _ => ?_))
    conv => whnf
    exact AEqI.mk (AEq.refl _)
  · cases h
set_option maxHeartbeats 2000000 in
set_option maxRecDepth 100000 in
theorem number_no {n : Nat} {F : Nat → List AV} (l : List UInt8) (h : numF l = none) (hF : IsB F l) (hn : n = l.length) : ASpec Try.prog 84 [.sl 1 n true F] (.tup [.v (.int .i64 0), .v (.int .i64 0), .v (.bool false)]) [] := by
  obtain ⟨⟨a, c, e⟩, hv⟩ : ∃ p, vtake l = p := ⟨_, rfl⟩
  have hs := vtake_spec l hF hn
  unfold numF at h
  rw [hv] at hs h
  dsimp only at hs h
  split at h
  · cases h
  · rename_i h0
    refine aspec_of lay_ok 524541 Try.func84 rfl rfl rfl ?_
    repeat' ((conv => whnf); first | refine Spl.yes (by first | assumption | omega) ?_ | refine Spl.no (by first | assumption | omega) ?_ | refine Wr.i64 (by omega) (by omega) ?_ | refine Still.mk rfl rfl ?_ | refine InB.mk (inB_mk (by omega) (by omega)) ?_ | refine Req.mk (by omega) ?_ | refine Req.mk ⟨by first | omega | (dsimp only; omega), by first | omega | (dsimp only; omega)⟩ ?_ | refine ACall.plain _ _ (hs) (SubL.cons (.eq _) .nil) rfl ?_ | refine ARet.hdI ?_ | refine Spl.mk (fun _ => ?_) (fun _ => ?_) | refine Wr.b64 ?_ | refine Wr.bu64 ?_ | refine Wr.bu32 ?_ | refine Wr.bu8 ?_ | refine Wr.u8 (by omega) (by omega) ?_ | refine Wr.u64 (by omega) (by omega) ?_ | refine Wr.u32 (by omega) (by omega) ?_ | refine Dv.pos (by omega) (by omega) ?_ | refine Rm.pos (by omega) (by omega) ?_ | refine ADraw.quiet follows_ok (by kernel_rfl) rfl ?_ | refine BSpl.decY (by first | assumption | omega) ?_ | refine BSpl.decN (by first | assumption | omega) ?_ | refine BSpl.dec (fun _ => ?_) (fun _ => ?_) | refine BSpl.yes (by assumption) ?_ | refine BSpl.no (by assumption) ?_ | refine BSpl.mk (fun _ => ?_) (fun _ => ?_))
    all_goals (conv => whnf)
    all_goals first
      | exact AEqI.mk (AEq.refl _)
      | (exfalso; apply h0; constructor <;> omega)

def evsAt (b : List UInt8) : Nat → Option (List Ev × List UInt8)
  | 0 => some ([], b)
  | j + 1 => match evsAt b j with
    | none => none
    | some (l, r) => if (takeE r).2.2 = 0 then some (l ++ [(takeE r).1], r.drop (takeE r).2.1) else none
def evsF : List UInt8 → Option (List Ev)
  | [] => none
  | c :: r => (evsAt r c.toNat).map (·.1)

theorem evsAt_len {b : List UInt8} : ∀ {j : Nat} {l : List Ev} {r : List UInt8}, evsAt b j = some (l, r) → l.length = j ∧ r.length ≤ b.length
  | 0, l, r, h => by
    simp only [evsAt, Option.some.injEq, Prod.mk.injEq] at h
    obtain ⟨rfl, rfl⟩ := h
    exact ⟨rfl, Nat.le_refl _⟩
  | j + 1, l, r, h => by
    unfold evsAt at h
    cases h0 : evsAt b j with
    | none => rw [h0] at h; cases h
    | some p =>
      obtain ⟨l0, r0⟩ := p
      rw [h0] at h
      dsimp only at h
      have ih := evsAt_len h0
      split at h
      · simp only [Option.some.injEq, Prod.mk.injEq] at h
        obtain ⟨rfl, rfl⟩ := h
        refine ⟨by simp [ih.1], ?_⟩
        rw [List.length_drop]
        omega
      · cases h
theorem evsAt_step {b : List UInt8} {j : Nat} {l : List Ev} {r : List UInt8} {e : Ev} {m : Nat} (h : evsAt b j = some (l, r)) (ht : takeE r = (e, m, 0)) : evsAt b (j + 1) = some (l ++ [e], r.drop m) := by
  unfold evsAt
  rw [h]
  dsimp only
  rw [ht]
  rfl
theorem evsAt_stop {b : List UInt8} {j : Nat} {l : List Ev} {r : List UInt8} (h : evsAt b j = some (l, r)) (ht : (takeE r).2.2 ≠ 0) : evsAt b (j + 1) = none := by
  unfold evsAt
  rw [h]
  dsimp only
  rw [if_neg ht]
theorem evsAt_none {b : List UInt8} {j : Nat} (h : evsAt b j = none) : ∀ n, j ≤ n → evsAt b n = none := by
  intro n hn
  obtain ⟨d, rfl⟩ := Nat.le.dest hn
  clear hn
  induction d with
  | zero => exact h
  | succ d ih =>
    show evsAt b (j + d + 1) = none
    unfold evsAt
    rw [ih]

theorem C1.nilSl {X : CX} {f : Nat → List AV} {u : Value} (h : C1 X (.v (.slice none 0 0)) u) : C1 X (.sl 12 0 true f) u := by
  have h : u = .slice none 0 0 := h
  subst h
  exact (show C0 X (.sl 12 0 true f) (.slice none 0 0) from .sl 12 0 true f none 0 [] (by omega) (Nat.le_refl _) (by simp [maxLen]) (by simp) (fun i hi => absurd hi (Nat.not_lt_zero i)) (fun _ x hx => by simp [flat] at hx) (fun i x u hx => by simp [flat] at hx) (.inl rfl))
theorem All2.hd {R : AV → Value → Prop} {x y : AV} {xs : List AV} {us : List Value} (h : All2 R (x :: xs) us) (hi : ∀ u, R x u → R y u) : All2 R (y :: xs) us := by
  rcases us with _ | ⟨u, us⟩
  · have := h.1; simp at this
  · exact All2.cons (hi u (h.2 0 _ _ rfl rfl)) ⟨by have := h.1; simpa using this, fun i a b ha hb => h.2 (i + 1) a b (by simpa using ha) (by simpa using hb)⟩
theorem AEq.nilT {b : AV} (f : Nat → List AV) : AEq (.tup [.v (.slice none 0 0), b]) (.tup [.sl 12 0 true f, b]) := by
  rintro X u ⟨us, e, ha⟩
  exact ⟨us, e, ha.hd fun u hu => C1.nilSl hu⟩

def evsR : Option (List Ev) → AV
  | none => .tup [.v (.slice none 0 0), .v (.bool false)]
  | some l => .tup [.sl 12 l.length true (evF l), .v (.bool true)]

theorem equal_spec {n m : Nat} {F G : Nat → List AV} (a b : List UInt8) (hF : IsB F a) (hn : n = a.length) (hG : IsB G b) (hm : m = b.length) : ASpec Try.prog 64 [.sl 1 n true F, .sl 1 m true G] (.v (.bool (decide (a = b)))) [] := by
  refine aspec_of lay_ok 19 Try.func64 rfl rfl rfl ?_
  repeat' ((conv => whnf); first | refine Spl.yes (by first | assumption | omega) ?_ | refine Spl.no (by first | assumption | omega) ?_ | refine Wr.i64 (by omega) (by omega) ?_ | refine Still.mk rfl rfl ?_ | refine InB.mk (inB_mk (by omega) (by omega)) ?_ | refine Req.mk (by omega) ?_ | refine Req.mk ⟨by first | omega | (dsimp only; omega), by first | omega | (dsimp only; omega)⟩ ?_ | refine Bs.of a hF hn ?_ | refine Bs.of b hG hm ?_ | refine ARet.hdI ?_ | refine Spl.mk (fun _ => ?_) (fun _ => ?_) | refine Wr.b64 ?_ | refine Wr.bu64 ?_ | refine Wr.bu32 ?_ | refine Wr.bu8 ?_ | refine Wr.u8 (by omega) (by omega) ?_ | refine Wr.u64 (by omega) (by omega) ?_ | refine Wr.u32 (by omega) (by omega) ?_ | refine Dv.pos (by omega) (by omega) ?_ | refine Rm.pos (by omega) (by omega) ?_ | refine ADraw.quiet follows_ok (by kernel_rfl) rfl ?_ | refine BSpl.decY (by first | assumption | omega) ?_ | refine BSpl.decN (by first | assumption | omega) ?_ | refine BSpl.dec (fun _ => ?_) (fun _ => ?_) | refine BSpl.yes (by assumption) ?_ | refine BSpl.no (by assumption) ?_ | refine BSpl.mk (fun _ => ?_) (fun _ => ?_))
  all_goals (conv => whnf)
  all_goals (refine AEqI.mk (AEq.of ?_))
  · have h : (⟨a.toArray⟩ : ByteArray) = ⟨b.toArray⟩ := by assumption
    have : a = b := by simpa using h
    simp [this]
  · have h : ¬ (⟨a.toArray⟩ : ByteArray) = ⟨b.toArray⟩ := by assumption
    have : ¬ a = b := by simpa using h
    simp [this]

set_option maxHeartbeats 4000000 in
set_option maxRecDepth 100000 in
theorem events_e (b : List UInt8) (hl : b.length ≤ 1000000000) : ASpec Try.prog 83 [.sl 1 b.length true (bytesF b)] (evsR (evsF b)) [] := by
  rcases b with _ | ⟨c, t⟩
  · show ASpec Try.prog 83 [.sl 1 0 true (bytesF [])] _ []
    refine aspec_of lay_ok 270273021 Try.func83 rfl rfl rfl ?_
    repeat' ((conv => whnf); first | refine Spl.yes (by first | assumption | omega) ?_ | refine Spl.no (by first | assumption | omega) ?_ | refine Wr.i64 (by omega) (by omega) ?_ | refine Still.mk rfl rfl ?_ | refine InB.mk (inB_mk (by omega) (by omega)) ?_ | refine Req.mk (by omega) ?_ | refine Req.mk ⟨by first | omega | (dsimp only; omega), by first | omega | (dsimp only; omega)⟩ ?_ | refine ARet.hdI ?_ | refine Spl.mk (fun _ => ?_) (fun _ => ?_) | refine Wr.b64 ?_ | refine Wr.bu64 ?_ | refine Wr.bu32 ?_ | refine Wr.bu8 ?_ | refine Wr.u8 (by omega) (by omega) ?_ | refine Wr.u64 (by omega) (by omega) ?_ | refine Wr.u32 (by omega) (by omega) ?_ | refine Dv.pos (by omega) (by omega) ?_ | refine Rm.pos (by omega) (by omega) ?_ | refine ADraw.quiet follows_ok (by kernel_rfl) rfl ?_ | refine BSpl.decY (by first | assumption | omega) ?_ | refine BSpl.decN (by first | assumption | omega) ?_ | refine BSpl.dec (fun _ => ?_) (fun _ => ?_) | refine BSpl.yes (by assumption) ?_ | refine BSpl.no (by assumption) ?_ | refine BSpl.mk (fun _ => ?_) (fun _ => ?_))
    all_goals (conv => whnf)
    all_goals exact AEqI.mk (AEq.refl _)
  · have hc := UInt8.toNat_lt c
    rw [List.length_cons] at hl ⊢
    refine aspec_of lay_ok 270273021 Try.func83 rfl rfl rfl ?_
    repeat' ((conv => whnf); first | refine Spl.yes (by first | assumption | omega) ?_ | refine Spl.no (by first | assumption | omega) ?_ | refine Wr.i64 (by omega) (by omega) ?_ | refine Still.mk rfl rfl ?_ | refine InB.mk (inB_mk (by omega) (by omega)) ?_ | refine Req.mk (by omega) ?_ | refine Req.mk ⟨by first | omega | (dsimp only; omega), by first | omega | (dsimp only; omega)⟩ ?_ | refine ARet.hdI ?_ | refine Spl.mk (fun _ => ?_) (fun _ => ?_) | refine Wr.b64 ?_ | refine Wr.bu64 ?_ | refine Wr.bu32 ?_ | refine Wr.bu8 ?_ | refine Wr.u8 (by omega) (by omega) ?_ | refine Wr.u64 (by omega) (by omega) ?_ | refine Wr.u32 (by omega) (by omega) ?_ | refine Dv.pos (by omega) (by omega) ?_ | refine Rm.pos (by omega) (by omega) ?_ | refine ADraw.quiet follows_ok (by kernel_rfl) rfl ?_ | refine BSpl.decY (by first | assumption | omega) ?_ | refine BSpl.decN (by first | assumption | omega) ?_ | refine BSpl.dec (fun _ => ?_) (fun _ => ?_) | refine BSpl.yes (by assumption) ?_ | refine BSpl.no (by assumption) ?_ | refine BSpl.mk (fun _ => ?_) (fun _ => ?_))
    conv => whnf
    refine ALoop.mk { p : Nat × List Ev × List UInt8 // evsAt t p.1 = some p.2 ∧ p.1 ≤ c.toNat } (fun p => match p with
      | ⟨(0, _, r), _⟩ => ⟨[(0, .sl 1 r.length true (bytesF r)), (4, .v (.slice none 0 0)), (18, .v (.int .i64 (c.toNat : Int))), (19, .v (.int .i64 0))], [], [], 0⟩
      | ⟨(i + 1, l, r), _⟩ => ⟨[(0, .sl 1 r.length true (bytesF r)), (4, .own 90), (18, .v (.int .i64 (c.toNat : Int))), (19, .v (.int .i64 ((i : Int) + 1)))], [(90, .row 25 12 l.length true (evF l))], [], 91⟩)
      (fun p => c.toNat - p.1.1) ⟨(0, [], t), rfl, Nat.zero_le _⟩ _
      (LeR.mk' [] _ _ _ rfl ⟨AEq.isB (IsB.drop (IsB.bytes (c :: t)) 1) (by simp), AEq.refl _, AEq.refl _, AEq.int rfl, trivial⟩ trivial rfl) ?_
    rintro ⟨⟨_ | i, l, r⟩, hp, hj⟩
    · dsimp only at hp hj
      obtain ⟨hl0, hr0⟩ := evsAt_len hp
      obtain rfl : l = [] := List.eq_nil_of_length_eq_zero hl0
      have hz : c.toNat = 0 → evsF (c :: t) = some [] := fun h => by show (evsAt t c.toNat).map (·.1) = _; rw [h, hp]; rfl
      rcases takeE_ways r with ⟨e, m, ht, -, hm, -⟩ | ht | ht
      · dsimp only
        repeat' ((conv => whnf); first | refine Spl.yes (by first | assumption | omega) ?_ | refine Spl.no (by first | assumption | omega) ?_ | refine Wr.i64 (by omega) (by omega) ?_ | refine Still.mk rfl rfl ?_ | refine InB.mk (inB_mk (by omega) (by omega)) ?_ | refine Req.mk (by omega) ?_ | refine Req.mk ⟨by first | omega | (dsimp only; omega), by first | omega | (dsimp only; omega)⟩ ?_ | refine ACall.plain _ _ (take_any r ht (IsB.bytes r) rfl (by omega)) (SubL.cons (.eq _) .nil) rfl ?_ | refine ARet.hdI ?_ | refine Spl.mk (fun _ => ?_) (fun _ => ?_) | refine Wr.b64 ?_ | refine Wr.bu64 ?_ | refine Wr.bu32 ?_ | refine Wr.bu8 ?_ | refine Wr.u8 (by omega) (by omega) ?_ | refine Wr.u64 (by omega) (by omega) ?_ | refine Wr.u32 (by omega) (by omega) ?_ | refine Dv.pos (by omega) (by omega) ?_ | refine Rm.pos (by omega) (by omega) ?_ | refine ADraw.quiet follows_ok (by kernel_rfl) rfl ?_ | refine BSpl.decY (by first | assumption | omega) ?_ | refine BSpl.decN (by first | assumption | omega) ?_ | refine BSpl.dec (fun _ => ?_) (fun _ => ?_) | refine BSpl.yes (by assumption) ?_ | refine BSpl.no (by assumption) ?_ | refine BSpl.mk (fun _ => ?_) (fun _ => ?_))
        all_goals (conv => whnf)
        · refine ⟨⟨(0 + 1, [] ++ [e], r.drop m), evsAt_step hp ht, by omega⟩, _, LeR.mk' [(2, 90)] _ _ _ rfl ⟨AEq.isB (IsB.drop (IsB.bytes r) m) (by simp), AEq.refl _, AEq.refl _, AEq.int rfl, trivial⟩ ⟨⟨_, rfl, OEq.row rfl (fun i hi => ?_)⟩, trivial⟩ rfl, by show c.toNat - (0 + 1) < c.toNat - 0; omega⟩
          have hi : i < 1 := hi
          obtain rfl : i = 0 := by omega
          rfl
        · rw [hz (by omega)]
          exact AEqI.mk (AEq.nilT _)
      all_goals
        have hno : 0 < c.toNat → evsF (c :: t) = none := fun h => by show (evsAt t c.toNat).map (·.1) = _; rw [evsAt_none (evsAt_stop hp (by rw [ht]; decide)) c.toNat (by omega)]; rfl
        dsimp only
        repeat' ((conv => whnf); first | refine Spl.yes (by first | assumption | omega) ?_ | refine Spl.no (by first | assumption | omega) ?_ | refine Wr.i64 (by omega) (by omega) ?_ | refine Still.mk rfl rfl ?_ | refine InB.mk (inB_mk (by omega) (by omega)) ?_ | refine Req.mk (by omega) ?_ | refine Req.mk ⟨by first | omega | (dsimp only; omega), by first | omega | (dsimp only; omega)⟩ ?_ | refine ACall.plain _ _ (take_any r ht (IsB.bytes r) rfl (by omega)) (SubL.cons (.eq _) .nil) rfl ?_ | refine ARet.hdI ?_ | refine Spl.mk (fun _ => ?_) (fun _ => ?_) | refine Wr.b64 ?_ | refine Wr.bu64 ?_ | refine Wr.bu32 ?_ | refine Wr.bu8 ?_ | refine Wr.u8 (by omega) (by omega) ?_ | refine Wr.u64 (by omega) (by omega) ?_ | refine Wr.u32 (by omega) (by omega) ?_ | refine Dv.pos (by omega) (by omega) ?_ | refine Rm.pos (by omega) (by omega) ?_ | refine ADraw.quiet follows_ok (by kernel_rfl) rfl ?_ | refine BSpl.decY (by first | assumption | omega) ?_ | refine BSpl.decN (by first | assumption | omega) ?_ | refine BSpl.dec (fun _ => ?_) (fun _ => ?_) | refine BSpl.yes (by assumption) ?_ | refine BSpl.no (by assumption) ?_ | refine BSpl.mk (fun _ => ?_) (fun _ => ?_))
        all_goals (conv => whnf)
        · rw [hno (by omega)]
          exact AEqI.mk (AEq.refl _)
        · rw [hz (by omega)]
          exact AEqI.mk (AEq.nilT _)
    · dsimp only at hp hj
      obtain ⟨hl0, hr0⟩ := evsAt_len hp
      have hz : c.toNat = i + 1 → evsF (c :: t) = some l := fun h => by show (evsAt t c.toNat).map (·.1) = _; rw [h, hp]; rfl
      rcases takeE_ways r with ⟨e, m, ht, -, hm, -⟩ | ht | ht
      · dsimp only
        repeat' ((conv => whnf); first | refine Spl.yes (by first | assumption | omega) ?_ | refine Spl.no (by first | assumption | omega) ?_ | refine Wr.i64 (by omega) (by omega) ?_ | refine Still.mk rfl rfl ?_ | refine InB.mk (inB_mk (by omega) (by omega)) ?_ | refine Req.mk (by omega) ?_ | refine Req.mk ⟨by first | omega | (dsimp only; omega), by first | omega | (dsimp only; omega)⟩ ?_ | refine ACall.plain _ _ (take_any r ht (IsB.bytes r) rfl (by omega)) (SubL.cons (.eq _) .nil) rfl ?_ | refine ARet.hdI ?_ | refine Spl.mk (fun _ => ?_) (fun _ => ?_) | refine Wr.b64 ?_ | refine Wr.bu64 ?_ | refine Wr.bu32 ?_ | refine Wr.bu8 ?_ | refine Wr.u8 (by omega) (by omega) ?_ | refine Wr.u64 (by omega) (by omega) ?_ | refine Wr.u32 (by omega) (by omega) ?_ | refine Dv.pos (by omega) (by omega) ?_ | refine Rm.pos (by omega) (by omega) ?_ | refine ADraw.quiet follows_ok (by kernel_rfl) rfl ?_ | refine BSpl.decY (by first | assumption | omega) ?_ | refine BSpl.decN (by first | assumption | omega) ?_ | refine BSpl.dec (fun _ => ?_) (fun _ => ?_) | refine BSpl.yes (by assumption) ?_ | refine BSpl.no (by assumption) ?_ | refine BSpl.mk (fun _ => ?_) (fun _ => ?_))
        all_goals (conv => whnf)
        · refine ⟨⟨(i + 1 + 1, l ++ [e], r.drop m), evsAt_step hp ht, by omega⟩, _, LeR.mk' [(93, 90)] _ _ _ rfl ⟨AEq.isB (IsB.drop (IsB.bytes r) m) (by simp), AEq.refl _, AEq.refl _, AEq.int rfl, trivial⟩ ⟨⟨_, rfl, OEq.row (by simp) (fun m hm => els_app1 (c := Ev.cs) rfl rfl m hm)⟩, trivial⟩ rfl, by show c.toNat - (i + 1 + 1) < c.toNat - (i + 1); omega⟩
        · rw [hz (by omega)]
          exact AEqI.mk (AEq.refl _)
      all_goals
        have hno : i + 1 < c.toNat → evsF (c :: t) = none := fun h => by show (evsAt t c.toNat).map (·.1) = _; rw [evsAt_none (evsAt_stop hp (by rw [ht]; decide)) c.toNat (by omega)]; rfl
        dsimp only
        repeat' ((conv => whnf); first | refine Spl.yes (by first | assumption | omega) ?_ | refine Spl.no (by first | assumption | omega) ?_ | refine Wr.i64 (by omega) (by omega) ?_ | refine Still.mk rfl rfl ?_ | refine InB.mk (inB_mk (by omega) (by omega)) ?_ | refine Req.mk (by omega) ?_ | refine Req.mk ⟨by first | omega | (dsimp only; omega), by first | omega | (dsimp only; omega)⟩ ?_ | refine ACall.plain _ _ (take_any r ht (IsB.bytes r) rfl (by omega)) (SubL.cons (.eq _) .nil) rfl ?_ | refine ARet.hdI ?_ | refine Spl.mk (fun _ => ?_) (fun _ => ?_) | refine Wr.b64 ?_ | refine Wr.bu64 ?_ | refine Wr.bu32 ?_ | refine Wr.bu8 ?_ | refine Wr.u8 (by omega) (by omega) ?_ | refine Wr.u64 (by omega) (by omega) ?_ | refine Wr.u32 (by omega) (by omega) ?_ | refine Dv.pos (by omega) (by omega) ?_ | refine Rm.pos (by omega) (by omega) ?_ | refine ADraw.quiet follows_ok (by kernel_rfl) rfl ?_ | refine BSpl.decY (by first | assumption | omega) ?_ | refine BSpl.decN (by first | assumption | omega) ?_ | refine BSpl.dec (fun _ => ?_) (fun _ => ?_) | refine BSpl.yes (by assumption) ?_ | refine BSpl.no (by assumption) ?_ | refine BSpl.mk (fun _ => ?_) (fun _ => ?_))
        all_goals (conv => whnf)
        · rw [hno (by omega)]
          exact AEqI.mk (AEq.refl _)
        · rw [hz (by omega)]
          exact AEqI.mk (AEq.refl _)

theorem events_spec {n : Nat} {F : Nat → List AV} (b : List UInt8) (hF : IsB F b) (hn : n = b.length) (hl : b.length ≤ 1000000000) : ASpec Try.prog 83 [.sl 1 n true F] (evsR (evsF b)) [] :=
  (events_e b hl).args (Ch.isB hF hn .nil)
end Go.Proofs.Ytbmojelnkldecaa
