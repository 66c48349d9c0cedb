/-
  Contracts of the walk: MkM, LvZ, LxA, LxP, LenA, L3.
-/
import Derived.Test.YtkkpfjifkjbndaaGreatLOrds5
import Derived.Test.YtkkpfjifkjbndaaGreatLOrds14
import Derived.Test.YtkkpfjifkjbndaaGreatLOrds6
import Derived.Test.YtkkpfjifkjbndaaGreatLOrds1
import Derived.Test.YtkkpfjifkjbndaaGreatLOrds4
/-
  What kithref08.Make makes may be.
-/
namespace Go.Proofs.YtkkpfjifkjbndaaGreat

theorem mk_key (n : Nat) : keyE (ks3 n) = 0 := by unfold ks3; split; decide; split <;> decide
theorem mk_val (n : Nat) : valueE (vs4 n) = 0 := by unfold vs4; split; decide; split; decide; split <;> decide
theorem mk_ed (e : Ed) : editE (fitEd e) = 0 := by
  have hm : 0 ≤ m5 e.k ∧ m5 e.k ≤ 4 := by unfold m5; omega
  have ha := andI_1 e.l
  unfold fitEd
  split
  · unfold editE
    simp only [mk_key, mk_val]
    rw [if_neg (by omega), if_neg (by simp), if_neg (by omega), if_neg (by unfold labelE; simp; omega)]
  · unfold editE
    simp only [mk_key]
    rw [if_neg (by omega), if_neg (by simp), if_pos (by omega)]
    rfl
theorem mkin_ok {c : Clk} {M : Int} (h : c.in M) (hM : M ≤ 1048576) : (okN c.c0 && okN c.c1 && okN c.c2 && okN c.c3 && okN c.c4) = true := by
  unfold Clk.in at h
  unfold okN withinB
  simp only [Bool.and_eq_true, decide_eq_true_eq]
  omega
theorem mkget_at (c : Clk) {r : Nat} (hr : r < 5) : c.get (r : Int) = c.at r := by
  rcases (show r = 0 ∨ r = 1 ∨ r = 2 ∨ r = 3 ∨ r = 4 by omega) with rfl | rfl | rfl | rfl | rfl <;> simp [Clk.get, Clk.at]
theorem mkin_at {c : Clk} {M : Int} (h : c.in M) (r : Nat) : 0 ≤ c.at r ∧ c.at r ≤ M := by
  unfold Clk.in at h
  unfold Clk.at
  split <;> omega
theorem mk_evt {s : Mk} {n : Nat} (h : MkB s n) (hn : n ≤ 1000) {r : Nat} (hr : r < 5) (x : Ed) : mayE (mkEvt s.1 s.2 r (fitEd x)) = 0 := by
  obtain ⟨h1, h2, h3⟩ := h
  have hi := mkin_at (h1 r) r
  have hh := hgt_bnd (c := s.2 r) (M := n) (by omega) h2
  have e1 : (withinB (r : Int) 0 4 && withinB ((s.2 r).at r + 1) 1 1048576 && withinB (hgt s.1 (s.2 r)) 1 16777216) = true := by
    unfold withinB
    simp only [Bool.and_eq_true, decide_eq_true_eq]
    omega
  have e2 := mkin_ok (h1 r) (by omega)
  unfold mayE mkEvt
  dsimp only
  rw [e1, e2, mkget_at _ hr]
  simp only [Bool.not_true, Bool.false_eq_true, if_false]
  rw [if_neg (by simp)]
  exact mk_ed x
theorem may_fold : ∀ (l : List Ch0) (s : Mk) (n : Nat), MkB s n → n + l.length ≤ 1000 → (∀ e ∈ s.1, mayE e = 0) → ∀ e ∈ (l.foldl mkStep s).1, mayE e = 0
  | [], _, _, _, _, h => h
  | c :: l, s, n, hb, hn, h => by
    rw [List.foldl_cons]
    rw [List.length_cons] at hn
    refine may_fold l (mkStep s c) (n + 1) (hb.step c) (by omega) fun e he => ?_
    unfold mkStep at he
    split at he
    · exact h e he
    · rcases List.mem_append.1 he with he | he
      · exact h e he
      · rw [List.mem_singleton.1 he]
        exact mk_evt hb (by omega) (by omega) _
theorem mk_may (l : List Ch0) (hl : l.length ≤ 1000) : ∀ e ∈ makeL l, mayE e = 0 :=
  may_fold l ([], fun _ => clk0) 0 ⟨fun q => by simp [Clk.in, clk0], fun e he => (by cases he), by simp⟩ (by omega) fun e he => by cases he
end Go.Proofs.YtkkpfjifkjbndaaGreat

/-
  live.State's methods, of the book of a past.
-/
namespace Go.Proofs.YtkkpfjifkjbndaaGreat
open Go.RowKit

theorem of_len (P : List Ev) : (ofB P).length ≤ P.length := by
  unfold ofB keysB
  rw [List.length_map]
  refine Nat.le_trans (compact_le _) ?_
  unfold sortL
  rw [List.length_mergeSort, List.length_map]
  exact List.length_filter_le ..
theorem size_len (P : List Ev) : sizeB P ≤ P.length := by
  rw [← size_kept]
  exact List.length_filter_le ..
theorem of_apart (P : List Ev) : (ofB P).Pairwise fun a b => a.key ≠ b.key := by
  have h := (uniq_props ((livingB P).map fun e : Ev => strL e.key)).1
  refine List.pairwise_map.2 (List.Pairwise.imp ?_ (show (keysB P).Pairwise _ from h))
  intro a b hab he
  have he : keyS a = keyS b := he
  have : a = b := by rw [← strL_keyS a, he, strL_keyS]
  rw [this] at hab
  exact List.lt_irrefl _ hab
theorem filter_one {l : List Cont} (h : l.Pairwise fun a b => a.key ≠ b.key) {i : Nat} (hi : i < l.length) : l.filter (fun c => decide (c.key = (l.getD i default).key)) = [l.getD i default] := by
  rw [show l.getD i default = l[i] by rw [List.getD, List.getElem?_eq_getElem hi]; rfl]
  induction l generalizing i with
  | nil => simp at hi
  | cons a l ih =>
    obtain ⟨h1, h2⟩ := List.pairwise_cons.1 h
    cases i with
    | zero =>
      simp only [List.getElem_cons_zero, List.filter_cons, decide_true, if_true]
      rw [List.filter_eq_nil_iff.2 fun c hc => by simpa using fun e => h1 c hc e.symm]
    | succ i =>
      have hi : i < l.length := by simpa using hi
      simp only [List.getElem_cons_succ, List.filter_cons]
      rw [if_neg (by simpa using h1 _ (List.getElem_mem hi)), ih h2 hi]
def bookO (P : List Ev) (m : Nat) : OB := liveO (keptK P) (sizeB P : Int) m
theorem new_b : MSpec Tryz.prog 12 [] [] (.box 0 0) [(0, .obs (bookO [] 0))] := new_m
theorem apply_b {P : List Ev} {e : Ev} (t : Nxt (onP (eqK e.key) P) e) (hm : mayE e = 0) (hl : P.length ≤ 1000000) (m : Nat) :
    MSpec Tryz.prog 13 [(0, .obs (bookO P m))] [.box 0 0, e.av] (.v (.int .i64 0)) [(0, .obs (bookO (P ++ [e]) (m + 1)))] := by
  have h1 := kept_le P e.key
  have h2 := size_len P
  have := apply_m (keptK P) (sizeB P) m e hm (by omega) (by omega) (by omega)
  rw [upd_kept t, size_step t] at this
  exact this
theorem refuse_b (P : List Ev) (m : Nat) {e : Ev} (hm : mayE e ≠ 0) :
    MSpec Tryz.prog 13 [(0, .obs (bookO P m))] [.box 0 0, e.av] (.v (.int .i64 (mayE e))) [(0, .obs (bookO P m))] := apply_no _ _ _ _ hm
theorem size_b (P : List Ev) (m : Nat) (hl : P.length ≤ 1000000) : MSpec Tryz.prog 16 [(0, .obs (bookO P m))] [.box 0 0] (.v (.int .i64 (sizeB P))) [(0, .obs (bookO P m))] := by
  have h2 := size_len P
  exact size_m _ _ _ (by omega) (by omega)
theorem list_b {P : List Ev} (hp : ∀ key, Pst (onP (eqK key) P) key) (m : Nat) (hl : P.length ≤ 1000000) (hm : m ≤ 1000000) :
    MSpec Tryz.prog 15 [(0, .obs (bookO P m))] [.box 0 0] (.own 3) [(0, .obs (bookO P m)), (3, .row 45 7 (ofB P).length false (coF (ofB P)))] := by
  have h1 := of_len P
  exact list_m (keptK P) (sizeB P) m (ofB P) (fun k => by have := kept_le P k; omega) (by omega) (by omega) fun ss hs h => list_any hp hs h
theorem get_b {P : List Ev} (hp : ∀ key, Pst (onP (eqK key) P) key) (m : Nat) (key : ByteArray) (hk : key.size ≤ 9223372036854775807) (hl : P.length ≤ 1000000) {c : Cont} {r : List Cont} (hc : (ofB P).filter (fun c => decide (c.key = key)) = c :: r) :
    MSpec Tryz.prog 21 [(0, .obs (bookO P m))] [.box 0 0, .v (.string key)] (.tup [.agg c.cs, .v (.int .i64 0)]) [(0, .obs (bookO P (m + 1)))] := by
  have h1 := kept_le P key
  have h2 := of_len P
  have h3 : ((ofB P).filter (fun c => decide (c.key = key))).length ≤ (ofB P).length := List.length_filter_le ..
  rw [hc, List.length_cons] at h3
  exact get_yes (keptK P) (sizeB P) m key hk (by omega) c r (by rw [get_kept hp, hc]) (by omega)
theorem get_b0 {P : List Ev} (hp : ∀ key, Pst (onP (eqK key) P) key) (m : Nat) (key : ByteArray) (hk : key.size ≤ 9223372036854775807) (hl : P.length ≤ 1000000) (hc : (ofB P).filter (fun c => decide (c.key = key)) = []) :
    MSpec Tryz.prog 21 [(0, .obs (bookO P m))] [.box 0 0, .v (.string key)] (.tup [.agg zeroC, .v (.int .i64 14)]) [(0, .obs (bookO P (m + 1)))] := by
  have h1 := kept_le P key
  exact get_no (keptK P) (sizeB P) m key hk (by omega) (by rw [get_kept hp, hc])
end Go.Proofs.YtkkpfjifkjbndaaGreat

/-
  The head of layer 10's statements: the document's example; the choices that are taken.
-/
namespace Go.Proofs.YtkkpfjifkjbndaaGreat
open Go.RowKit

theorem AEq.slG {s n : Nat} {sc : Bool} {f g : Nat → List AV} (h : ∀ i, i < n → f i = g i) : AEq (.sl s n sc f) (.sl s n sc g) := by
  intro X u hu
  have hu : PC X.w X.keep (.sl s n sc f) u := hu
  show PC X.w X.keep (.sl s n sc g) u
  cases hu with
  | sl _ _ _ _ A c us hs hn hc hl hf hsc hq hr => exact .sl s n sc g A c us hs hn hc hl (fun i hi => by rw [← h i hi]; exact hf i hi) (by rw [← flat_congr h]; exact hsc) (by rw [← flat_congr h]; exact hq) hr
theorem short_spec (l : List Ch0) : ASpec Tryz.prog 11 [.sl 7 l.length true (chF l)] (.sl 7 (l.take 40).length true (chF (l.take 40))) [] := by
  have hn : (if (40 : Int) < (l.length : Int) then (40 : Int) else (l.length : Int)).toNat = (l.take 40).length := by
    rw [List.length_take]
    split <;> omega
  refine aspec_of lay_ok 5 Tryz.func11 rfl rfl rfl ?_
  repeat' ((conv => whnf); first | refine Spl.yes (by first | assumption | omega) ?_ | refine Spl.no (by first | assumption | omega) ?_ | refine Wr.i64 (by omega) (by omega) ?_ | refine Still.mk rfl rfl ?_ | refine InB.mk (inB_mk (by omega) (by omega)) ?_ | refine Req.mk (by omega) ?_ | refine Req.mk ⟨by first | omega | (dsimp only; omega), by first | omega | (dsimp only; omega)⟩ ?_ | refine InB.mk (inB_mk (by split <;> omega) (by split <;> omega)) ?_ | refine ARet.hdI ?_ | refine Spl.mk (fun _ => ?_) (fun _ => ?_) | refine InA.mk (inB_mk (by omega) (by omega)) ?_ | refine Wr.b64 ?_ | refine Wr.bu64 ?_ | refine Wr.bu32 ?_ | refine Wr.bu8 ?_ | refine Wr.u8 (by omega) (by omega) ?_ | refine Wr.u64 (by omega) (by omega) ?_ | refine Wr.u32 (by omega) (by omega) ?_ | refine Dv.pos (by omega) (by omega) ?_ | refine Rm.pos (by omega) (by omega) ?_ | refine ADraw.quiet follows_ok (by kernel_rfl) rfl ?_ | refine BSpl.decY (by first | assumption | omega) ?_ | refine BSpl.decN (by first | assumption | omega) ?_ | refine BSpl.dec (fun _ => ?_) (fun _ => ?_) | refine BSpl.yes (by assumption) ?_ | refine BSpl.no (by assumption) ?_ | refine BSpl.mk (fun _ => ?_) (fun _ => ?_))
  conv => whnf
  refine AEqI.mk ?_
  rw [hn]
  refine AEq.slG fun i hi => ?_
  rw [List.length_take] at hi
  show Ch0.cs _ = Ch0.cs _
  rw [List.getD, List.getD, List.getElem?_take_of_lt (by omega)]

theorem Pst.mk' {P : List Ev} (one : OneStamp P) (hi : ∀ a ∈ P, ∀ b ∈ P, belowB a b = true → a.h < b.h) (tr : ∀ a ∈ P, ∀ b ∈ P, ∀ c ∈ P, belowB a b = true → belowB b c = true → belowB a c = true) (key : ByteArray) : Pst (onP (eqK key) P) key := by
  have hs : ∀ x ∈ onP (eqK key) P, x ∈ P := fun x hx => (List.mem_filter.1 hx).1
  exact ⟨on_key, fun a ha b hb => one a (hs a ha) b (hs b hb), fun a ha b hb => hi a (hs a ha) b (hs b hb), fun a ha b hb c hc => tr a (hs a ha) b (hs b hb) c (hs c hc)⟩
def ev1 : Ev := ⟨0, 1, ⟨0, 0, 0, 0, 0⟩, 1, 1, ⟨#[99, 121]⟩, 0, ⟨#[]⟩⟩
def ev2 : Ev := ⟨0, 2, ⟨1, 0, 0, 0, 0⟩, 2, 2, ⟨#[99, 121]⟩, 0, ⟨#[]⟩⟩
theorem nxt1 : Nxt (onP (eqK ev1.key) []) ev1 := ⟨fun x hx => (by cases hx), fun x hx => (by cases hx), by decide, fun x hx => (by cases hx), by decide, fun x hx => (by cases hx)⟩
theorem on1 {x : Ev} (h : x ∈ onP (eqK ev2.key) [ev1]) : x = ev1 := List.mem_singleton.1 (List.mem_filter.1 h).1
theorem nxt2 : Nxt (onP (eqK ev2.key) [ev1]) ev2 :=
  ⟨fun x hx => by rw [on1 hx]; rfl, fun x hx => by rw [on1 hx]; decide, by decide, fun a ha b hb => by rw [on1 ha, on1 hb]; decide, by decide, fun x hx => by rw [on1 hx]; decide⟩
theorem pst1 (key : ByteArray) : Pst (onP (eqK key) [ev1]) key :=
  Pst.mk' (fun a ha b hb _ => by rw [List.mem_singleton.1 ha, List.mem_singleton.1 hb]) (fun a ha b hb => by rw [List.mem_singleton.1 ha, List.mem_singleton.1 hb]; decide) (fun a ha b hb c hc => by rw [List.mem_singleton.1 ha, List.mem_singleton.1 hb, List.mem_singleton.1 hc]; decide) key
theorem two12 {x : Ev} (h : x ∈ [ev1, ev2]) : x = ev1 ∨ x = ev2 := by simpa using h
theorem pst2 (key : ByteArray) : Pst (onP (eqK key) [ev1, ev2]) key :=
  Pst.mk' (fun a ha b hb h => by
    rcases two12 ha with rfl | rfl <;> rcases two12 hb with rfl | rfl
    · rfl
    · exact absurd h (by simp [stampE, ev1, ev2])
    · exact absurd h (by simp [stampE, ev1, ev2])
    · rfl) (fun a ha b hb => by rcases two12 ha with rfl | rfl <;> rcases two12 hb with rfl | rfl <;> decide) (fun a ha b hb c hc => by rcases two12 ha with rfl | rfl <;> rcases two12 hb with rfl | rfl <;> rcases two12 hc with rfl | rfl <;> decide) key
theorem sz1 : sizeB [ev1] = 1 := by decide
theorem sz2 : sizeB [ev1, ev2] = 0 := by decide
theorem of1 : (ofB [ev1]).length = 1 := by
  rw [of_same (l := [ev1]) (key := ev1.key) (fun x hx => by rw [List.mem_singleton.1 hx])]
  rw [if_neg (fun h => by have : (livingB [ev1]).length = 0 := by rw [h]; rfl
                          revert this; decide)]
  rfl
theorem of2 : (ofB [ev1, ev2]).length = 0 := by
  rw [of_same (l := [ev1, ev2]) (key := ev1.key) (fun x hx => by rcases two12 hx with rfl | rfl <;> rfl)]
  rw [if_pos (List.eq_nil_of_length_eq_zero (by decide))]
  rfl
set_option maxHeartbeats 4000000 in
set_option maxRecDepth 100000 in
theorem shown_spec : ASpec Tryz.prog 8 [] (.v (.bool true)) [] := by
  have h1 := apply_b (P := []) nxt1 (by decide) (by decide) 0
  have h2 := apply_b (P := [ev1]) nxt2 (by decide) (by decide) 1
  have l1 := list_b (P := [ev1]) pst1 1 (by decide) (by decide)
  have l2 := list_b (P := [ev1, ev2]) pst2 2 (by decide) (by decide)
  have s1 := size_b [ev1] 1 (by decide)
  have s2 := size_b [ev1, ev2] 2 (by decide)
  rw [sz1] at s1
  rw [sz2] at s2
  have o1 := of1
  have o2 := of2
  dsimp only [List.nil_append, List.cons_append, Nat.zero_add, Nat.reduceAdd] at h1 h2
  have h0 := new_b
  generalize bookO [] 0 = b0 at *
  generalize bookO [ev1] 1 = b1 at *
  generalize bookO [ev1, ev2] 2 = b2 at *
  generalize ofB [ev1] = O1 at *
  generalize ofB [ev1, ev2] = O2 at *
  rw [o1] at l1
  rw [o2] at l2
  dsimp only [Ev.av, Ev.cs, ev1, ev2] at h1 h2
  refine aspec_of lay_ok 319 Tryz.func8 rfl rfl rfl ?_
  repeat' ((conv => whnf); first | refine Spl.yes (by first | assumption | omega) ?_ | refine Spl.no (by first | assumption | omega) ?_ | refine Wr.i64 (by omega) (by omega) ?_ | refine Still.mk rfl rfl ?_ | refine InB.mk (inB_mk (by omega) (by omega)) ?_ | refine Req.mk (by omega) ?_ | refine Req.mk ⟨by first | omega | (dsimp only; omega), by first | omega | (dsimp only; omega)⟩ ?_ | refine ACall.chgR 1 [(0, _)] (h1) rfl ⟨rfl, trivial⟩ rfl rfl ?_ | refine ACall.chgR 1 [(0, _)] (h2) rfl ⟨rfl, trivial⟩ rfl rfl ?_ | refine ACall.chgR 1 [(0, _)] (s1) rfl ⟨rfl, trivial⟩ rfl rfl ?_ | refine ACall.chgR 1 [(0, _)] (s2) rfl ⟨rfl, trivial⟩ rfl rfl ?_ | refine ACall.chgR 0 [] h0 rfl trivial rfl rfl ?_ | refine ACall.chgR 3 [(0, _)] l1 rfl ⟨rfl, trivial⟩ rfl rfl ?_ | refine ACall.chgR 3 [(0, _)] l2 rfl ⟨rfl, trivial⟩ rfl rfl ?_ | refine ARet.hdI ?_ | refine Spl.mk (fun _ => ?_) (fun _ => ?_) | refine InA.mk (inB_mk (by omega) (by omega)) ?_ | refine Wr.b64 ?_ | refine Wr.bu64 ?_ | refine Wr.bu32 ?_ | refine Wr.bu8 ?_ | refine Wr.u8 (by omega) (by omega) ?_ | refine Wr.u64 (by omega) (by omega) ?_ | refine Wr.u32 (by omega) (by omega) ?_ | refine Dv.pos (by omega) (by omega) ?_ | refine Rm.pos (by omega) (by omega) ?_ | refine ADraw.quiet follows_ok (by kernel_rfl) rfl ?_ | refine BSpl.decY (by first | assumption | omega) ?_ | refine BSpl.decN (by first | assumption | omega) ?_ | refine BSpl.dec (fun _ => ?_) (fun _ => ?_) | refine BSpl.yes (by assumption) ?_ | refine BSpl.no (by assumption) ?_ | refine BSpl.mk (fun _ => ?_) (fun _ => ?_))
  all_goals (conv => whnf)
  all_goals first
    | exact AEqI.mk (AEq.refl _)
    | exact absurd rfl (by assumption)
end Go.Proofs.YtkkpfjifkjbndaaGreat

/-
  Pasts, as layer 10's statements make them.
-/
namespace Go.Proofs.YtkkpfjifkjbndaaGreat
open Go.RowKit

/-- A row of events, each of which may be applied behind those ahead of it. -/
structure Row (X : List Ev) : Prop where
  nxt : ∀ i, i < X.length → Nxt (onP (eqK (X.getD i default).key) (X.take i)) (X.getD i default)
  may : ∀ i, i < X.length → mayE (X.getD i default) = 0
  pst : ∀ i key, Pst (onP (eqK key) (X.take i)) key
  len : X.length ≤ 40
theorem row_of {W X : List Ev} {H : Nat → Clk} (hI : Inv W H) (ht : TrOk W) (hm : ∀ e ∈ W, mayE e = 0) (hl : W.length ≤ 40) (hX : W.Perm X) (ho : X.Pairwise fun a b => belowB b a = false) : Row X := by
  have hs : ∀ x ∈ X, x ∈ W := fun x hx => hX.mem_iff.2 hx
  have hg : ∀ i, i < X.length → X.getD i default = X.getD i default ∧ X.getD i default ∈ X := fun i hi => ⟨rfl, by rw [List.getD, List.getElem?_eq_getElem hi]; exact List.getElem_mem hi⟩
  refine ⟨fun i hi => ?_, fun i hi => hm _ (hs _ (hg i hi).2), fun i key => hI.pst (fun x hx => hs x (List.mem_of_mem_take hx)) (below_tr hI ht) key, by rw [← hX.length_eq]; exact hl⟩
  refine nxt_of hI ht hs ho (Q := X.drop (i + 1)) ?_
  have h1 : X.getD i default = X[i] := by rw [List.getD, List.getElem?_eq_getElem hi]; rfl
  rw [h1, List.getElem_cons_drop hi, List.take_append_drop]
theorem rng_of {l : List Ch0} (h : ∀ c ∈ l, c.rng) (k : Nat) : ∀ c ∈ l.take k, c.rng := fun c hc => h c (List.mem_of_mem_take hc)
theorem mk_len (l : List Ch0) : (makeL (l.take 40)).length ≤ 40 := by
  have h := (mkB_of (l.take 40)).2.2
  rw [List.length_take] at h
  have h : (makeL (l.take 40)).length ≤ min 40 l.length := h
  omega
theorem row_make (l : List Ch0) : Row (makeL (l.take 40)) := by
  have hlt : (l.take 40).length ≤ 40 := by rw [List.length_take]; omega
  have hI := inv_of (l.take 40)
  have hW := mk_len l
  exact row_of hI (tr_of _) (mk_may _ (by omega)) hW (.refl _) hI.ord
theorem row_spread (l : List Ch0) (picks : List UInt8) : Row (sprL picks (makeL (l.take 40))) := by
  have hlt : (l.take 40).length ≤ 40 := by rw [List.length_take]; omega
  have hI := inv_of (l.take 40)
  have hW := mk_len l
  exact row_of hI (tr_of _) (mk_may _ (by omega)) hW (spr_perm hI picks) (spr_ord hI picks)
theorem Row.apply {X : List Ev} (h : Row X) {i : Nat} (hi : i < X.length) :
    MSpec Tryz.prog 13 [(0, .obs (bookO (X.take i) i))] [.box 0 0, (X.getD i default).av] (.v (.int .i64 0)) [(0, .obs (bookO (X.take (i + 1)) (i + 1)))] := by
  have := apply_b (h.nxt i hi) (h.may i hi) (by have := h.len; rw [List.length_take]; omega) i
  rwa [show X.take i ++ [X.getD i default] = X.take (i + 1) by rw [List.take_add_one, List.getD, List.getElem?_eq_getElem hi]; rfl] at this
theorem Row.all {X : List Ev} (h : Row X) (key : ByteArray) : Pst (onP (eqK key) X) key := by
  have := h.pst X.length key
  rwa [List.take_length] at this
end Go.Proofs.YtkkpfjifkjbndaaGreat

/-
  A row's length, one more.
-/
namespace Go.Proofs.YtkkpfjifkjbndaaGreat

theorem len_app {α : Type} {l : List α} {x : α} : l.length + 1 = (l ++ [x]).length := by rw [List.length_append, List.length_singleton]
end Go.Proofs.YtkkpfjifkjbndaaGreat

/-
  The reference's clocks: kithref03.LessEq.
-/
namespace Go.Proofs.YtkkpfjifkjbndaaGreat
open Go.RowKit

set_option maxRecDepth 100000 in
theorem lessEq_spec (a b : Clk) : ASpec Tryz.prog 25 [a.av, b.av] (.v (.bool (a.le b))) [] := by
  dsimp only [Clk.av]
  refine aspec_of lay_ok 65727 Tryz.func25 rfl rfl rfl ?_
  repeat' ((conv => whnf); first | refine Spl.yes (by first | assumption | omega) ?_ | refine Spl.no (by first | assumption | omega) ?_ | refine Wr.i64 (by omega) (by omega) ?_ | refine Still.mk rfl rfl ?_ | refine InB.mk (inB_mk (by omega) (by omega)) ?_ | refine Req.mk (by omega) ?_ | refine Req.mk ⟨by first | omega | (dsimp only; omega), by first | omega | (dsimp only; omega)⟩ ?_ | refine ALoop.unr 5 6 rfl ?_ | refine ARet.hdI ?_ | refine Spl.mk (fun _ => ?_) (fun _ => ?_) | refine InA.mk (inB_mk (by omega) (by omega)) ?_ | refine Wr.b64 ?_ | refine Wr.bu64 ?_ | refine Wr.bu32 ?_ | refine Wr.bu8 ?_ | refine Wr.u8 (by omega) (by omega) ?_ | refine Wr.u64 (by omega) (by omega) ?_ | refine Wr.u32 (by omega) (by omega) ?_ | refine Dv.pos (by omega) (by omega) ?_ | refine Rm.pos (by omega) (by omega) ?_ | refine ADraw.quiet follows_ok (by kernel_rfl) rfl ?_ | refine BSpl.decY (by first | assumption | omega) ?_ | refine BSpl.decN (by first | assumption | omega) ?_ | refine BSpl.dec (fun _ => ?_) (fun _ => ?_) | refine BSpl.yes (by assumption) ?_ | refine BSpl.no (by assumption) ?_ | refine BSpl.mk (fun _ => ?_) (fun _ => ?_))
  all_goals (conv => whnf)
  all_goals (refine AEqI.mk (AEq.of ?_))
  all_goals (unfold Clk.le; congr 2; simp; try omega)

end Go.Proofs.YtkkpfjifkjbndaaGreat
