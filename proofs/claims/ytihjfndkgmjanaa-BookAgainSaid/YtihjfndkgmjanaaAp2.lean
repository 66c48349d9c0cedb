/-
  BookApart: the walk.
-/
import Derived.Test.YtihjfndkgmjanaaMk2
import Derived.Test.YtihjfndkgmjanaaMk3
import Derived.Test.YtihjfndkgmjanaaAp1
import Derived.Test.YtihjfndkgmjanaaBkR
namespace Go.Proofs.Ytihjfndkgmjanaa
open Go.RowKit

theorem size_bnd (w : List Ev) : sizeB w ≤ 2 * w.length := by
  have h1 : (livingB w).length ≤ w.length := List.length_filter_le ..
  have h2 : (countingB w (livingB w)).length ≤ w.length := List.length_filter_le ..
  have h3 := List.length_filter_le (fun e => !laterB w e) (countingB w (livingB w))
  unfold sizeB
  omega
theorem make_len (l : List Ch0) : (makeL (l.take 40)).length ≤ 40 := by
  have h := (mkB_of (l.take 40)).2.2
  rw [List.length_take] at h
  unfold makeL
  omega
theorem rng_take {l : List Ch0} (h : ∀ c ∈ l, c.rng) (k : Nat) : ∀ c ∈ l.take k, c.rng := fun c hc => h c (List.mem_of_mem_take hc)
theorem of_len (w : List Ev) : (ofB w).length ≤ w.length := by
  have h1 : (keysB w).length ≤ ((livingB w).map fun e => strL e.key).length := by
    have := compact_le (sortL ((livingB w).map fun e => strL e.key))
    rw [show (sortL ((livingB w).map fun e => strL e.key)).length = ((livingB w).map fun e => strL e.key).length from List.length_mergeSort ..] at this
    exact this
  have h2 : (livingB w).length ≤ w.length := List.length_filter_le ..
  rw [List.length_map] at h1
  unfold ofB
  rw [List.length_map]
  omega
theorem vals_len (B : List Ev) : (valsF B).length ≤ B.length := by
  have := compact_le (sortL (B.map fun e => strL e.v))
  rw [show (sortL (B.map fun e => strL e.v)).length = (B.map fun e => strL e.v).length from List.length_mergeSort .., List.length_map] at this
  exact this
theorem of_sets (w : List Ev) : ∀ c ∈ ofB w, c.s0.length ≤ w.length ∧ c.s1.length ≤ w.length := fun c hc => by
  obtain ⟨k, _, rfl⟩ := List.mem_map.1 hc
  have h : ∀ n, (valsF (addsB ⟨k.toArray⟩ n (countingB w (livingB w)))).length ≤ w.length := fun n => by
    have h1 := vals_len (addsB ⟨k.toArray⟩ n (countingB w (livingB w)))
    have h2 : (addsB ⟨k.toArray⟩ n (countingB w (livingB w))).length ≤ (countingB w (livingB w)).length := List.length_filter_le ..
    have h3 : (countingB w (livingB w)).length ≤ w.length := List.length_filter_le ..
    omega
  exact ⟨h 0, h 1⟩

def eqP (key : ByteArray) : ByteArray → Bool := fun k => decide (k = key)
def neP (key : ByteArray) : ByteArray → Bool := fun k => !decide (k = key)
set_option maxHeartbeats 8000000 in
set_option maxRecDepth 100000 in
theorem apart_key (l : List Ch0) (hr : ∀ c ∈ l, c.rng) (n : Int) (hn : 0 ≤ n ∧ n ≤ 255) (k : Nat) (hk : n % 3 = k) (key : ByteArray) (hkey : keysV.getD k .junk = .v (.string key)) (hk3 : k = 0 ∨ k = 1 ∨ k = 2) :
    ASpec Try.prog 9 [.sl 7 l.length true (chF l), .v (.int .u8 n)] (.v (.bool true)) [] := by
  have hsh := shown_spec
  have hst := short_spec l
  have hlt : (l.take 40).length ≤ 40 := by rw [List.length_take]; omega
  have hmk := make_spec (l.take 40) (by omega) (rng_take hr 40)
  have hW := make_len l
  generalize makeL (l.take 40) = W at hmk hW
  have hT1 : ∀ {j : Nat} {T : List Ev}, T = (W.take j).filter (fun e => neP key e.key) → T.length ≤ 40 := fun h => by have := tk_len h; omega
  have hT2 : ∀ {j : Nat} {T : List Ev}, T = (W.take j).filter (fun e => eqP key e.key) → T.length ≤ 40 := fun h => by have := tk_len h; omega
  have hofW := of_spec W (by omega)
  have hszW := size_spec W (by omega)
  have hlO : (onP (neP key) W).length ≤ 40 := by have := List.length_filter_le (fun e : Ev => neP key e.key) W; unfold onP; omega
  have hlM : (onP (eqP key) W).length ≤ 40 := by have := List.length_filter_le (fun e : Ev => eqP key e.key) W; unfold onP; omega
  have hofO := of_spec (onP (neP key) W) (by omega)
  have hszO := size_spec (onP (neP key) W) (by omega)
  have hofM := of_spec (onP (eqP key) W) (by omega)
  have hszM := size_spec (onP (eqP key) W) (by omega)
  have e1 : ofB (onP (neP key) W) = woL (ofB W) key := of_on
  have e2 : ofB (onP (eqP key) W) = (ofB W).filter fun c => decide (c.key = key) := of_on
  have e3 : sizeB W = sizeB (onP (eqP key) W) + sizeB (onP (neP key) W) := size_two
  have e4 : (ofB W).length = (ofB (onP (neP key) W)).length + (ofB (onP (eqP key) W)).length := by
    rw [e1, e2]
    have := len_two (q := fun c : Cont => decide (c.key = key)) (ofB W)
    unfold woL woP
    omega
  have e5 := of_one_key W key
  rw [← e2] at e5
  have e6 : ∀ c ∈ ofB (onP (eqP key) W), c.key = key := fun c hc => by
    rw [e2] at hc
    exact of_decide_eq_true (List.mem_filter.1 hc).2
  have b1 := size_bnd W
  have b2 := of_len W
  have hwo := without_spec (ofB W) key (by omega)
  rw [← e1] at hwo
  have hsm := same_spec (ofB (onP (neP key) W)) (ofB (onP (neP key) W)) false false true (by simp) (by omega) (fun c hc => by have := of_sets _ c hc; omega)
  have hM : (ofB (onP (eqP key) W)).length = 0 ∨ ((ofB (onP (eqP key) W)).length = 1 ∧ ((ofB (onP (eqP key) W)).getD (0 : Int).toNat default).key = key) := by
    rcases Nat.eq_zero_or_pos (ofB (onP (eqP key) W)).length with h | h
    · exact .inl h
    · refine .inr ⟨by omega, e6 _ ?_⟩
      have : (0 : Int).toNat < (ofB (onP (eqP key) W)).length := h
      rw [List.getD, List.getElem?_eq_getElem this]
      exact List.getElem_mem this
  clear e1 e2 e5 e6
  generalize ofB (onP (eqP key) W) = M at *
  generalize ofB (onP (neP key) W) = O at *
  generalize ofB W = A at *
  generalize sizeB (onP (eqP key) W) = z1 at *
  generalize sizeB (onP (neP key) W) = z2 at *
  generalize sizeB W = z at *
  refine aspec_of lay_ok 2361183241572530012147 Try.func9 rfl rfl rfl ?_
  have hbig : keysV = [.v (.string ⟨#[97, 110, 110]⟩), .v (.string ⟨#[98, 111, 98]⟩), .v (.string ⟨#[99, 121]⟩)] := rfl
  rcases hk3 with rfl | rfl | rfl
  all_goals
    have hkk := hkey
    simp only [hbig, List.getD, List.getElem?_cons_zero, List.getElem?_cons_succ, Option.getD_some, AV.v.injEq, Value.string.injEq] at hkk
    clear hkey
    repeat' ((conv => whnf); first | refine Spl.yes (by first | assumption | omega) ?_ | refine Spl.no (by first | assumption | omega) ?_ | refine Wr.i64 (by omega) (by omega) ?_ | refine Still.mk rfl rfl ?_ | refine InB.mk (inB_mk (by omega) (by omega)) ?_ | refine Req.mk (by omega) ?_ | refine Req.mk ⟨by first | omega | (dsimp only; omega), by first | omega | (dsimp only; omega)⟩ ?_ | refine ACall.plain _ _ (hsh) .nil rfl ?_ | refine ACall.plain _ _ (hst) (SubL.cons (.eq _) .nil) rfl ?_ | refine ACall.plain _ _ (hmk) (SubL.cons (.eq _) .nil) rfl ?_ | refine Rm.is (by omega) (by omega) hk ?_ | refine ARet.hdI ?_ | refine Spl.mk (fun _ => ?_) (fun _ => ?_) | refine InA.mk (inB_mk (by omega) (by omega)) ?_ | refine Wr.b64 ?_ | refine Wr.bu64 ?_ | refine Wr.bu32 ?_ | refine Wr.bu8 ?_ | refine Wr.u8 (by omega) (by omega) ?_ | refine Wr.u64 (by omega) (by omega) ?_ | refine Wr.u32 (by omega) (by omega) ?_ | refine Dv.pos (by omega) (by omega) ?_ | refine Rm.pos (by omega) (by omega) ?_ | refine ADraw.quiet follows_ok (by kernel_rfl) rfl ?_ | refine BSpl.decY (by first | assumption | omega) ?_ | refine BSpl.decN (by first | assumption | omega) ?_ | refine BSpl.dec (fun _ => ?_) (fun _ => ?_) | refine BSpl.yes (by assumption) ?_ | refine BSpl.no (by assumption) ?_ | refine BSpl.mk (fun _ => ?_) (fun _ => ?_))
    conv => whnf
    rw [hkk]
    clear hkk
    refine ALoop.mk { x : Nat × List Ev × List Ev // x.1 ≤ W.length ∧ x.2.1 = (W.take x.1).filter (fun e => neP key e.key) ∧ x.2.2 = (W.take x.1).filter (fun e => eqP key e.key) }
      (fun x => ⟨[(4, .v (.bool false)), (5, .v (.bool true)), (6, .sl 12 W.length true (evF W)), (8, .v (.string key)), (9, .own 90), (10, .own 91), (11, .v (.int .i64 (x.1.1 : Int)))],
        [(90, .row 32 12 x.1.2.1.length true (evF x.1.2.1)), (91, .row 32 12 x.1.2.2.length true (evF x.1.2.2))], [], 92⟩) (fun x => W.length - x.1.1) ⟨(0, [], []), Nat.zero_le _, rfl, rfl⟩ _
      (LeR.mk' [(1, 90), (2, 91)] _ _ _ rfl ⟨AEq.refl _, AEq.refl _, AEq.refl _, AEq.refl _, AEq.refl _, AEq.refl _, AEq.int rfl, trivial⟩ ⟨⟨_, rfl, OEq.row rfl (fun i hi => absurd hi (Nat.not_lt_zero i))⟩, ⟨_, rfl, OEq.row rfl (fun i hi => absurd hi (Nat.not_lt_zero i))⟩, trivial⟩ rfl) ?_
    rintro ⟨⟨j, T1, T2⟩, hj, hT1', hT2'⟩
    dsimp only at hj hT1' hT2' ⊢
    have l1 := hT1 hT1'
    have l2 := hT2 hT2'
    by_cases hjl : j < W.length
    · have f1 := filter_tk (p := fun e => neP key e.key) hjl
      have f2 := filter_tk (p := fun e => eqP key e.key) hjl
      rw [← hT1'] at f1
      rw [← hT2'] at f2
      have g1 : ¬ (W.getD (j : Int).toNat default).key = key → T1 ++ [W.getD (j : Int).toNat default] = (W.take (j + 1)).filter (fun e => neP key e.key) := fun h => by rw [f1, if_pos (by unfold neP; rw [decide_eq_false h]; rfl)]
      have g2 : ¬ (W.getD (j : Int).toNat default).key = key → T2 = (W.take (j + 1)).filter (fun e => eqP key e.key) := fun h => by rw [f2, if_neg (by unfold eqP; rw [decide_eq_false h]; simp), List.append_nil]
      have g3 : (W.getD (j : Int).toNat default).key = key → T1 = (W.take (j + 1)).filter (fun e => neP key e.key) := fun h => by rw [f1, if_neg (by unfold neP; rw [decide_eq_true h]; simp), List.append_nil]
      have g4 : (W.getD (j : Int).toNat default).key = key → T2 ++ [W.getD (j : Int).toNat default] = (W.take (j + 1)).filter (fun e => eqP key e.key) := fun h => by rw [f2, if_pos (by unfold eqP; rw [decide_eq_true h])]
      clear f1 f2 hT1' hT2'
      repeat' ((conv => whnf); first | refine Spl.yes (by first | assumption | omega) ?_ | refine Spl.no (by first | assumption | omega) ?_ | refine Wr.i64 (by omega) (by omega) ?_ | refine Still.mk rfl rfl ?_ | refine InB.mk (inB_mk (by omega) (by omega)) ?_ | refine Req.mk (by omega) ?_ | refine Req.mk ⟨by first | omega | (dsimp only; omega), by first | omega | (dsimp only; omega)⟩ ?_ | refine ARet.hdI ?_ | refine Spl.mk (fun _ => ?_) (fun _ => ?_) | refine InA.mk (inB_mk (by omega) (by omega)) ?_ | refine Wr.b64 ?_ | refine Wr.bu64 ?_ | refine Wr.bu32 ?_ | refine Wr.bu8 ?_ | refine Wr.u8 (by omega) (by omega) ?_ | refine Wr.u64 (by omega) (by omega) ?_ | refine Wr.u32 (by omega) (by omega) ?_ | refine Dv.pos (by omega) (by omega) ?_ | refine Rm.pos (by omega) (by omega) ?_ | refine ADraw.quiet follows_ok (by kernel_rfl) rfl ?_ | refine BSpl.decY (by first | assumption | omega) ?_ | refine BSpl.decN (by first | assumption | omega) ?_ | refine BSpl.dec (fun _ => ?_) (fun _ => ?_) | refine BSpl.yes (by assumption) ?_ | refine BSpl.no (by assumption) ?_ | refine BSpl.mk (fun _ => ?_) (fun _ => ?_))
      all_goals (conv => whnf)
      all_goals first
        | (refine ⟨⟨(j + 1, _, _), hjl, g3 (by assumption), g4 (by assumption)⟩, _, LeR.mk' [(93, 91)] _ _ _ rfl ⟨AEq.refl _, AEq.refl _, AEq.refl _, AEq.refl _, AEq.refl _, AEq.refl _, AEq.int rfl, trivial⟩ ⟨⟨_, rfl, OEq.refl _⟩, ⟨_, rfl, OEq.row len_app (fun m hm => ?_)⟩, trivial⟩ rfl, Nat.sub_succ_lt_self _ _ hjl⟩
           exact els_app1 (c := Ev.cs) (l := T2) rfl rfl m hm)
        | (refine ⟨⟨(j + 1, _, _), hjl, g1 (by assumption), g2 (by assumption)⟩, _, LeR.mk' [(93, 90)] _ _ _ rfl ⟨AEq.refl _, AEq.refl _, AEq.refl _, AEq.refl _, AEq.refl _, AEq.refl _, AEq.int rfl, trivial⟩ ⟨⟨_, rfl, OEq.row len_app (fun m hm => ?_)⟩, ⟨_, rfl, OEq.refl _⟩, trivial⟩ rfl, Nat.sub_succ_lt_self _ _ hjl⟩
           exact els_app1 (c := Ev.cs) (l := T1) rfl rfl m hm)
    · rw [List.take_of_length_le (show W.length ≤ j by omega)] at hT1' hT2'
      have hT1' : T1 = onP (neP key) W := hT1'
      have hT2' : T2 = onP (eqP key) W := hT2'
      subst hT1' hT2'
      rcases hM with hM | ⟨hM, hM0⟩
      · repeat' ((conv => whnf); first | refine Spl.yes (by first | assumption | omega) ?_ | refine Spl.no (by first | assumption | omega) ?_ | refine Wr.i64 (by omega) (by omega) ?_ | refine Still.mk rfl rfl ?_ | refine InB.mk (inB_mk (by omega) (by omega)) ?_ | refine Req.mk (by omega) ?_ | refine Req.mk ⟨by first | omega | (dsimp only; omega), by first | omega | (dsimp only; omega)⟩ ?_ | refine ACall.plain _ _ (hofW) (SubL.cons (.eq _) .nil) rfl ?_ | refine ACall.plain _ _ (hofM) (SubL.cons (.eq _) .nil) rfl ?_ | refine ACall.plain _ _ (hofO) (SubL.cons (.eq _) .nil) rfl ?_ | refine ACall.plain _ _ (hszW) (SubL.cons (.eq _) .nil) rfl ?_ | refine ACall.plain _ _ (hszO) (SubL.cons (.eq _) .nil) rfl ?_ | refine ACall.plain _ _ (hszM) (SubL.cons (.eq _) .nil) rfl ?_ | refine ACall.plain _ _ (hwo) (SubL.cons (.eq _) (SubL.cons (.eq _) .nil)) rfl ?_ | refine ACall.plain _ _ (hsm) (SubL.cons (.eq _) (SubL.cons (.eq _) .nil)) rfl ?_ | refine ARet.hdI ?_ | refine Spl.mk (fun _ => ?_) (fun _ => ?_) | refine InA.mk (inB_mk (by omega) (by omega)) ?_ | refine Wr.b64 ?_ | refine Wr.bu64 ?_ | refine Wr.bu32 ?_ | refine Wr.bu8 ?_ | refine Wr.u8 (by omega) (by omega) ?_ | refine Wr.u64 (by omega) (by omega) ?_ | refine Wr.u32 (by omega) (by omega) ?_ | refine Dv.pos (by omega) (by omega) ?_ | refine Rm.pos (by omega) (by omega) ?_ | refine ADraw.quiet follows_ok (by kernel_rfl) rfl ?_ | refine BSpl.decY (by first | assumption | omega) ?_ | refine BSpl.decN (by first | assumption | omega) ?_ | refine BSpl.dec (fun _ => ?_) (fun _ => ?_) | refine BSpl.yes (by assumption) ?_ | refine BSpl.no (by assumption) ?_ | refine BSpl.mk (fun _ => ?_) (fun _ => ?_))
        all_goals (conv => whnf)
        all_goals first
          | exact AEqI.mk (AEq.refl _)
          | omega
      · repeat' ((conv => whnf); first | refine Spl.yes (by first | assumption | omega) ?_ | refine Spl.no (by first | assumption | omega) ?_ | refine Wr.i64 (by omega) (by omega) ?_ | refine Still.mk rfl rfl ?_ | refine InB.mk (inB_mk (by omega) (by omega)) ?_ | refine Req.mk (by omega) ?_ | refine Req.mk ⟨by first | omega | (dsimp only; omega), by first | omega | (dsimp only; omega)⟩ ?_ | refine ACall.plain _ _ (hofW) (SubL.cons (.eq _) .nil) rfl ?_ | refine ACall.plain _ _ (hofM) (SubL.cons (.eq _) .nil) rfl ?_ | refine ACall.plain _ _ (hofO) (SubL.cons (.eq _) .nil) rfl ?_ | refine ACall.plain _ _ (hszW) (SubL.cons (.eq _) .nil) rfl ?_ | refine ACall.plain _ _ (hszO) (SubL.cons (.eq _) .nil) rfl ?_ | refine ACall.plain _ _ (hszM) (SubL.cons (.eq _) .nil) rfl ?_ | refine ACall.plain _ _ (hwo) (SubL.cons (.eq _) (SubL.cons (.eq _) .nil)) rfl ?_ | refine ACall.plain _ _ (hsm) (SubL.cons (.eq _) (SubL.cons (.eq _) .nil)) rfl ?_ | refine ARet.hdI ?_ | refine Spl.mk (fun _ => ?_) (fun _ => ?_) | refine InA.mk (inB_mk (by omega) (by omega)) ?_ | refine Wr.b64 ?_ | refine Wr.bu64 ?_ | refine Wr.bu32 ?_ | refine Wr.bu8 ?_ | refine Wr.u8 (by omega) (by omega) ?_ | refine Wr.u64 (by omega) (by omega) ?_ | refine Wr.u32 (by omega) (by omega) ?_ | refine Dv.pos (by omega) (by omega) ?_ | refine Rm.pos (by omega) (by omega) ?_ | refine ADraw.quiet follows_ok (by kernel_rfl) rfl ?_ | refine BSpl.decY (by first | assumption | omega) ?_ | refine BSpl.decN (by first | assumption | omega) ?_ | refine BSpl.dec (fun _ => ?_) (fun _ => ?_) | refine BSpl.yes (by assumption) ?_ | refine BSpl.no (by assumption) ?_ | refine BSpl.mk (fun _ => ?_) (fun _ => ?_))
        all_goals (conv => whnf)
        all_goals first
          | exact AEqI.mk (AEq.refl _)
          | omega
          | exact absurd hM0 (by assumption)
theorem apart_true (l : List Ch0) (n : Int) (hr : ∀ c ∈ l, c.rng) (hn : 0 ≤ n ∧ n ≤ 255) :
    ASpec Try.prog 9 [.sl 7 l.length true (chF l), .v (.int .u8 n)] (.v (.bool true)) [] := by
  rcases (show n % 3 = 0 ∨ n % 3 = 1 ∨ n % 3 = 2 by omega) with h | h | h
  · exact apart_key l hr n hn 0 h _ rfl (by omega)
  · exact apart_key l hr n hn 1 h _ rfl (by omega)
  · exact apart_key l hr n hn 2 h _ rfl (by omega)
end Go.Proofs.Ytihjfndkgmjanaa
