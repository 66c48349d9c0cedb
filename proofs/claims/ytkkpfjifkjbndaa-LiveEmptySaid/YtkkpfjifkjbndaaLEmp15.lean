/-
  Contracts of the walk: LxA, LxP, LxEp, LxE.
-/
import Derived.Test.YtkkpfjifkjbndaaLEmp14
import Derived.Test.YtkkpfjifkjbndaaLEmp6
/-
  The head of layer 10's statements: the document's example.
-/
namespace Go.Proofs.Ytkkpfjifkjbndaa
open Go.RowKit

theorem Pst.mk' {P : List Ev} (one : OneStamp P) (hi : ∀ a ∈ P, ∀ b ∈ P, belowB a b = true → a.h < b.h) (tr : ∀ a ∈ P, ∀ b ∈ P, ∀ c ∈ P, belowB a b = true → belowB b c = true → belowB a c = true) (key : ByteArray) : Pst (onP (eqK key) P) key := by
  have hs : ∀ x ∈ onP (eqK key) P, x ∈ P := fun x hx => (List.mem_filter.1 hx).1
  exact ⟨on_key, fun a ha b hb => one a (hs a ha) b (hs b hb), fun a ha b hb => hi a (hs a ha) b (hs b hb), fun a ha b hb c hc => tr a (hs a ha) b (hs b hb) c (hs c hc)⟩
def ev1 : Ev := ⟨0, 1, ⟨0, 0, 0, 0, 0⟩, 1, 1, ⟨#[99, 121]⟩, 0, ⟨#[]⟩⟩
def ev2 : Ev := ⟨0, 2, ⟨1, 0, 0, 0, 0⟩, 2, 2, ⟨#[99, 121]⟩, 0, ⟨#[]⟩⟩
theorem nxt1 : Nxt (onP (eqK ev1.key) []) ev1 := ⟨fun x hx => (by cases hx), fun x hx => (by cases hx), by decide, fun x hx => (by cases hx), by decide, fun x hx => (by cases hx)⟩
theorem on1 {x : Ev} (h : x ∈ onP (eqK ev2.key) [ev1]) : x = ev1 := List.mem_singleton.1 (List.mem_filter.1 h).1
theorem nxt2 : Nxt (onP (eqK ev2.key) [ev1]) ev2 :=
  ⟨fun x hx => by rw [on1 hx]; rfl, fun x hx => by rw [on1 hx]; decide, by decide, fun a ha b hb => by rw [on1 ha, on1 hb]; decide, by decide, fun x hx => by rw [on1 hx]; decide⟩
theorem pst1 (key : ByteArray) : Pst (onP (eqK key) [ev1]) key :=
  Pst.mk' (fun a ha b hb _ => by rw [List.mem_singleton.1 ha, List.mem_singleton.1 hb]) (fun a ha b hb => by rw [List.mem_singleton.1 ha, List.mem_singleton.1 hb]; decide) (fun a ha b hb c hc => by rw [List.mem_singleton.1 ha, List.mem_singleton.1 hb, List.mem_singleton.1 hc]; decide) key
theorem two12 {x : Ev} (h : x ∈ [ev1, ev2]) : x = ev1 ∨ x = ev2 := by simpa using h
theorem pst2 (key : ByteArray) : Pst (onP (eqK key) [ev1, ev2]) key :=
  Pst.mk' (fun a ha b hb h => by
    rcases two12 ha with rfl | rfl <;> rcases two12 hb with rfl | rfl
    · rfl
    · exact absurd h (by simp [stampE, ev1, ev2])
    · exact absurd h (by simp [stampE, ev1, ev2])
    · rfl) (fun a ha b hb => by rcases two12 ha with rfl | rfl <;> rcases two12 hb with rfl | rfl <;> decide) (fun a ha b hb c hc => by rcases two12 ha with rfl | rfl <;> rcases two12 hb with rfl | rfl <;> rcases two12 hc with rfl | rfl <;> decide) key
theorem sz1 : sizeB [ev1] = 1 := by decide
theorem sz2 : sizeB [ev1, ev2] = 0 := by decide
theorem of1 : (ofB [ev1]).length = 1 := by
  rw [of_same (l := [ev1]) (key := ev1.key) (fun x hx => by rw [List.mem_singleton.1 hx])]
  rw [if_neg (fun h => by have : (livingB [ev1]).length = 0 := by rw [h]; rfl
                          revert this; decide)]
  rfl
theorem of2 : (ofB [ev1, ev2]).length = 0 := by
  rw [of_same (l := [ev1, ev2]) (key := ev1.key) (fun x hx => by rcases two12 hx with rfl | rfl <;> rfl)]
  rw [if_pos (List.eq_nil_of_length_eq_zero (by decide))]
  rfl
set_option maxHeartbeats 4000000 in
set_option maxRecDepth 100000 in
theorem shown_spec : ASpec Try.prog 4 [] (.v (.bool true)) [] := by
  have h1 := apply_b (P := []) nxt1 (by decide) (by decide) 0
  have h2 := apply_b (P := [ev1]) nxt2 (by decide) (by decide) 1
  have l1 := list_b (P := [ev1]) pst1 1 (by decide) (by decide)
  have l2 := list_b (P := [ev1, ev2]) pst2 2 (by decide) (by decide)
  have s1 := size_b [ev1] 1 (by decide)
  have s2 := size_b [ev1, ev2] 2 (by decide)
  rw [sz1] at s1
  rw [sz2] at s2
  have o1 := of1
  have o2 := of2
  dsimp only [List.nil_append, List.cons_append, Nat.zero_add, Nat.reduceAdd] at h1 h2
  have h0 := new_b
  generalize bookO [] 0 = b0 at *
  generalize bookO [ev1] 1 = b1 at *
  generalize bookO [ev1, ev2] 2 = b2 at *
  generalize ofB [ev1] = O1 at *
  generalize ofB [ev1, ev2] = O2 at *
  rw [o1] at l1
  rw [o2] at l2
  dsimp only [Ev.av, Ev.cs, ev1, ev2] at h1 h2
  refine aspec_of lay_ok 319 Try.func4 rfl rfl rfl ?_
  repeat' ((conv => whnf); first | refine Spl.yes (by first | assumption | omega) ?_ | refine Spl.no (by first | assumption | omega) ?_ | refine Wr.i64 (by omega) (by omega) ?_ | refine Still.mk rfl rfl ?_ | refine InB.mk (inB_mk (by omega) (by omega)) ?_ | refine Req.mk (by omega) ?_ | refine Req.mk ⟨by first | omega | (dsimp only; omega), by first | omega | (dsimp only; omega)⟩ ?_ | refine ACall.chgR 1 [(0, _)] (h1) rfl ⟨rfl, trivial⟩ rfl rfl ?_ | refine ACall.chgR 1 [(0, _)] (h2) rfl ⟨rfl, trivial⟩ rfl rfl ?_ | refine ACall.chgR 1 [(0, _)] (s1) rfl ⟨rfl, trivial⟩ rfl rfl ?_ | refine ACall.chgR 1 [(0, _)] (s2) rfl ⟨rfl, trivial⟩ rfl rfl ?_ | refine ACall.chgR 0 [] h0 rfl trivial rfl rfl ?_ | refine ACall.chgR 3 [(0, _)] l1 rfl ⟨rfl, trivial⟩ rfl rfl ?_ | refine ACall.chgR 3 [(0, _)] l2 rfl ⟨rfl, trivial⟩ rfl rfl ?_ | refine ARet.hdI ?_ | refine Spl.mk (fun _ => ?_) (fun _ => ?_) | refine InA.mk (inB_mk (by omega) (by omega)) ?_ | refine Wr.b64 ?_ | refine Wr.bu64 ?_ | refine Wr.bu32 ?_ | refine Wr.bu8 ?_ | refine Wr.u8 (by omega) (by omega) ?_ | refine Wr.u64 (by omega) (by omega) ?_ | refine Wr.u32 (by omega) (by omega) ?_ | refine Dv.pos (by omega) (by omega) ?_ | refine Rm.pos (by omega) (by omega) ?_ | refine ADraw.quiet follows_ok (by kernel_rfl) rfl ?_ | refine BSpl.decY (by first | assumption | omega) ?_ | refine BSpl.decN (by first | assumption | omega) ?_ | refine BSpl.dec (fun _ => ?_) (fun _ => ?_) | refine BSpl.yes (by assumption) ?_ | refine BSpl.no (by assumption) ?_ | refine BSpl.mk (fun _ => ?_) (fun _ => ?_))
  all_goals (conv => whnf)
  all_goals first
    | exact AEqI.mk (AEq.refl _)
    | exact absurd rfl (by assumption)
end Go.Proofs.Ytkkpfjifkjbndaa

/-
  Pasts, as layer 10's statements make them.
-/
namespace Go.Proofs.Ytkkpfjifkjbndaa
open Go.RowKit

/-- A row of events, each of which may be applied behind those ahead of it. -/
structure Row (X : List Ev) : Prop where
  nxt : ∀ i, i < X.length → Nxt (onP (eqK (X.getD i default).key) (X.take i)) (X.getD i default)
  may : ∀ i, i < X.length → mayE (X.getD i default) = 0
  pst : ∀ i key, Pst (onP (eqK key) (X.take i)) key
  len : X.length ≤ 50
theorem row_of {W X : List Ev} {H : Nat → Clk} (hI : Inv W H) (ht : TrOk W) (hm : ∀ e ∈ W, mayE e = 0) (hl : W.length ≤ 50) (hX : W.Perm X) (ho : X.Pairwise fun a b => belowB b a = false) : Row X := by
  have hs : ∀ x ∈ X, x ∈ W := fun x hx => hX.mem_iff.2 hx
  have hg : ∀ i, i < X.length → X.getD i default = X.getD i default ∧ X.getD i default ∈ X := fun i hi => ⟨rfl, by rw [List.getD, List.getElem?_eq_getElem hi]; exact List.getElem_mem hi⟩
  refine ⟨fun i hi => ?_, fun i hi => hm _ (hs _ (hg i hi).2), fun i key => hI.pst (fun x hx => hs x (List.mem_of_mem_take hx)) (below_tr hI ht) key, by rw [← hX.length_eq]; exact hl⟩
  refine nxt_of hI ht hs ho (Q := X.drop (i + 1)) ?_
  have h1 : X.getD i default = X[i] := by rw [List.getD, List.getElem?_eq_getElem hi]; rfl
  rw [h1, List.getElem_cons_drop hi, List.take_append_drop]
theorem rng_of {l : List Ch0} (h : ∀ c ∈ l, c.rng) (k : Nat) : ∀ c ∈ l.take k, c.rng := fun c hc => h c (List.mem_of_mem_take hc)
theorem mk_len (l : List Ch0) : (makeL (l.take 40)).length ≤ 40 := by
  have h := (mkB_of (l.take 40)).2.2
  rw [List.length_take] at h
  have h : (makeL (l.take 40)).length ≤ min 40 l.length := h
  omega
theorem row_make (l : List Ch0) : Row (makeL (l.take 40)) := by
  have hlt : (l.take 40).length ≤ 40 := by rw [List.length_take]; omega
  have hI := inv_of (l.take 40)
  have hW := mk_len l
  exact row_of hI (tr_of _) (mk_may _ (by omega)) (Nat.le_trans hW (by omega)) (.refl _) hI.ord
theorem row_any (l : List Ch0) (h : l.length ≤ 50) : Row (makeL l) := by
  have hI := inv_of l
  have h1 := (mkB_of l).2.2
  have h1 : (makeL l).length ≤ l.length := h1
  exact row_of hI (tr_of _) (mk_may _ (by omega)) (Nat.le_trans h1 h) (.refl _) hI.ord
theorem row_spread (l : List Ch0) (picks : List UInt8) : Row (sprL picks (makeL (l.take 40))) := by
  have hlt : (l.take 40).length ≤ 40 := by rw [List.length_take]; omega
  have hI := inv_of (l.take 40)
  have hW := mk_len l
  exact row_of hI (tr_of _) (mk_may _ (by omega)) (Nat.le_trans hW (by omega)) (spr_perm hI picks) (spr_ord hI picks)
theorem Row.apply {X : List Ev} (h : Row X) {i : Nat} (hi : i < X.length) :
    MSpec Try.prog 7 [(0, .obs (bookO (X.take i) i))] [.box 0 0, (X.getD i default).av] (.v (.int .i64 0)) [(0, .obs (bookO (X.take (i + 1)) (i + 1)))] := by
  have := apply_b (h.nxt i hi) (h.may i hi) (by have := h.len; rw [List.length_take]; omega) i
  rwa [show X.take i ++ [X.getD i default] = X.take (i + 1) by rw [List.take_add_one, List.getD, List.getElem?_eq_getElem hi]; rfl] at this
theorem Row.all {X : List Ev} (h : Row X) (key : ByteArray) : Pst (onP (eqK key) X) key := by
  have := h.pst X.length key
  rwa [List.take_length] at this
end Go.Proofs.Ytkkpfjifkjbndaa

/-
  LiveEmpty, in plain words: when someone who has seen everything deletes each contact, no Create lives.
-/
namespace Go.Proofs.Ytkkpfjifkjbndaa
open Go.RowKit

def kA : ByteArray := ⟨#[97, 110, 110]⟩
def kB : ByteArray := ⟨#[98, 111, 98]⟩
def kC : ByteArray := ⟨#[99, 121]⟩
theorem ks3_is (n : Nat) : ks3 n = kA ∨ ks3 n = kB ∨ ks3 n = kC := by
  unfold ks3
  split
  · exact .inl rfl
  · split
    · exact .inr (.inl rfl)
    · exact .inr (.inr rfl)
theorem fit_key (e : Ed) : (fitEd e).key = kA ∨ (fitEd e).key = kB ∨ (fitEd e).key = kC := by
  unfold fitEd
  split <;> exact ks3_is _
theorem keys_fold : ∀ (l : List Ch0) (s : Mk), (∀ e ∈ s.1, e.key = kA ∨ e.key = kB ∨ e.key = kC) → ∀ e ∈ (l.foldl mkStep s).1, e.key = kA ∨ e.key = kB ∨ e.key = kC
  | [], _, h => h
  | c :: l, s, h => by
    rw [List.foldl_cons]
    refine keys_fold l (mkStep s c) fun e he => ?_
    unfold mkStep at he
    split at he
    · exact h e he
    · rcases List.mem_append.1 he with he | he
      · exact h e he
      · rw [List.mem_singleton.1 he]
        exact fit_key _
def syC (i : Int) : Ch0 := ⟨0, i, true, 0, ⟨#[]⟩, 0, ⟨#[]⟩⟩
def deC (b : UInt8) : Ch0 := ⟨0, 0, false, 1, ⟨#[b]⟩, 0, ⟨#[]⟩⟩
def tailC : List Ch0 := [syC 1, syC 2, syC 3, syC 4, deC 99, deC 100, deC 101]
/-- Who has seen everything. -/
def seen (H : Nat → Clk) : Clk := ((((H 0).join (H 1)).join (H 2)).join (H 3)).join (H 4)
theorem seen_le (H : Nat → Clk) {r p : Nat} (hr : r < 5) : (H r).at p ≤ (seen H).at p := by
  unfold seen
  simp only [join_at]
  have a1 := mx_l ((H 0).at p) ((H 1).at p)
  have a2 := mx_r ((H 0).at p) ((H 1).at p)
  have b1 := mx_l (mxI ((H 0).at p) ((H 1).at p)) ((H 2).at p)
  have b2 := mx_r (mxI ((H 0).at p) ((H 1).at p)) ((H 2).at p)
  have c1 := mx_l (mxI (mxI ((H 0).at p) ((H 1).at p)) ((H 2).at p)) ((H 3).at p)
  have c2 := mx_r (mxI (mxI ((H 0).at p) ((H 1).at p)) ((H 2).at p)) ((H 3).at p)
  have d1 := mx_l (mxI (mxI (mxI ((H 0).at p) ((H 1).at p)) ((H 2).at p)) ((H 3).at p)) ((H 4).at p)
  have d2 := mx_r (mxI (mxI (mxI ((H 0).at p) ((H 1).at p)) ((H 2).at p)) ((H 3).at p)) ((H 4).at p)
  rcases (show r = 0 ∨ r = 1 ∨ r = 2 ∨ r = 3 ∨ r = 4 by omega) with rfl | rfl | rfl | rfl | rfl <;> omega
theorem inc_ge (c : Clk) {r p : Nat} (hr : r < 5) (hp : p < 5) : c.at p ≤ (c.inc r).at p := by
  rw [inc_at c hr hp]
  split <;> omega
theorem tail_is (T : List Ev) (H : Nat → Clk) : ∃ d0 d1 d2 : Ev, (tailC.foldl mkStep (T, H)).1 = T ++ [d0] ++ [d1] ++ [d2] ∧ (d0.c = seen H ∧ d0.k = 2 ∧ d0.key = kA) ∧ (d1.c = (seen H).inc 0 ∧ d1.k = 2 ∧ d1.key = kB) ∧ (d2.c = ((seen H).inc 0).inc 0 ∧ d2.k = 2 ∧ d2.key = kC) :=
  ⟨_, _, _, rfl, ⟨rfl, rfl, rfl⟩, ⟨rfl, rfl, rfl⟩, ⟨rfl, rfl, rfl⟩⟩
theorem not_lives {X : List Ev} {e d : Ev} (hd : d ∈ X) (hk : d.k = 2) (hs : d.key = e.key) (hb : belowB e d = true) : livesB X e = false := by
  have : aboveB 2 sameK X e = true := List.any_eq_true.2 ⟨d, hd, by simp [hk, sameK, hs, hb]⟩
  unfold livesB
  rw [this]
  simp
theorem empty_living (l1 : List Ch0) : livingB (makeL (l1 ++ tailC)) = [] := by
  have hI : Inv (mkS l1).1 (mkS l1).2 := inv_of l1
  have hk : ∀ e ∈ (mkS l1).1, e.key = kA ∨ e.key = kB ∨ e.key = kC := keys_fold l1 ([], fun _ => clk0) fun e he => by cases he
  have hm : makeL (l1 ++ tailC) = (tailC.foldl mkStep (mkS l1)).1 := by
    unfold makeL mkS
    rw [List.foldl_append]
  rw [hm]
  generalize mkS l1 = s at hI hk ⊢
  obtain ⟨T, H⟩ := s
  dsimp only at hI hk
  obtain ⟨d0, d1, d2, hX, ⟨c0, k0, y0⟩, ⟨c1, k1, y1⟩, ⟨c2, k2, y2⟩⟩ := tail_is T H
  rw [hX]
  unfold livingB
  rw [List.filter_eq_nil_iff]
  intro e he
  rw [Bool.not_eq_true]
  have off : e.k = 2 → livesB (T ++ [d0] ++ [d1] ++ [d2]) e = false := fun h => by
    unfold livesB
    rw [decide_eq_false (by omega)]
    rfl
  have he' : e ∈ T ∨ e = d0 ∨ e = d1 ∨ e = d2 := by simpa using he
  rcases he' with he | rfl | rfl | rfl
  · obtain ⟨r, hr, e1, e2, e3, _⟩ := hI.ev e he
    have h0 : e.n ≤ (seen H).at r := Int.le_trans e3 (seen_le H hr)
    have h1 : e.n ≤ ((seen H).inc 0).at r := Int.le_trans h0 (inc_ge _ (by omega) hr)
    have h2 : e.n ≤ (((seen H).inc 0).inc 0).at r := Int.le_trans h1 (inc_ge _ (by omega) hr)
    rcases hk e he with h | h | h
    · exact not_lives (d := d0) (by simp) k0 (by rw [y0, h]) (by unfold belowB; rw [e1, c0]; exact (has_at hr).2 ⟨e2, h0⟩)
    · exact not_lives (d := d1) (by simp) k1 (by rw [y1, h]) (by unfold belowB; rw [e1, c1]; exact (has_at hr).2 ⟨e2, h1⟩)
    · exact not_lives (d := d2) (by simp) k2 (by rw [y2, h]) (by unfold belowB; rw [e1, c2]; exact (has_at hr).2 ⟨e2, h2⟩)
  · exact off k0
  · exact off k1
  · exact off k2
theorem of_dead {P : List Ev} (h : livingB P = []) : (ofB P).length = 0 := by
  unfold ofB keysB
  rw [List.length_map, h]
  refine Nat.le_antisymm (Nat.le_trans (compact_le _) ?_) (Nat.zero_le _)
  unfold sortL
  rw [List.length_mergeSort]
  exact Nat.le_refl 0
end Go.Proofs.Ytkkpfjifkjbndaa

/-
  LiveEmpty: the walk.
-/
namespace Go.Proofs.Ytkkpfjifkjbndaa
open Go.RowKit

def IsC (F : Nat → List AV) (l : List Ch0) : Prop := ∀ i, i < l.length → F i = chF l i
theorem IsC.refl (l : List Ch0) : IsC (chF l) l := fun _ _ => rfl
theorem IsC.nil (F : Nat → List AV) : IsC F [] := fun i h => absurd h (by simp)
theorem IsC.one {F : Nat → List AV} {c : Ch0} (h : F 0 = c.cs) : IsC F [c] := fun i hi => by
  have : i = 0 := by simpa using hi
  rw [this, h]
  rfl
theorem IsC.take {F : Nat → List AV} {l : List Ch0} (h : IsC F l) (k : Nat) : IsC F (l.take k) := fun i hi => by
  rw [List.length_take] at hi
  rw [h i (by omega)]
  show Ch0.cs _ = Ch0.cs _
  rw [List.getD, List.getD, List.getElem?_take_of_lt (by omega)]
theorem IsC.app {F G : Nat → List AV} {l l' : List Ch0} {n : Nat} (h : IsC F l) (h' : IsC G l') (hn : n = l.length) : IsC (appF n F G) (l ++ l') := by
  intro i hi
  subst hn
  rw [List.length_append] at hi
  unfold appF
  cases hb : Nat.ble l.length i with
  | true =>
    have := Nat.le_of_ble_eq_true hb
    simp only [cond_true]
    rw [h' (i - l.length) (by omega)]
    unfold chF elsF
    rw [List.getD, List.getD, List.getElem?_append_right this]
  | false =>
    have : i < l.length := Nat.lt_of_not_le fun h => by rw [Nat.ble_eq_true_of_le h] at hb; cases hb
    simp only [cond_false]
    rw [h i this]
    unfold chF elsF
    rw [List.getD, List.getD, List.getElem?_append_left this]
theorem make_of {l : List Ch0} (hl : l.length ≤ 100000) (hr : ∀ c ∈ l, c.rng) {n : Nat} {F : Nat → List AV} (hF : IsC F l) (hn : n = l.length) :
    ASpec Try.prog 5 [.sl 7 n true F] (.sl 12 (makeL l).length true (evF (makeL l))) [] := by
  subst hn
  refine (make_spec l hl hr).args (.of (fun X u hu => ?_) .nil)
  have hu : PC X.w X.keep (.sl 7 l.length true F) u := hu
  show PC X.w X.keep (.sl 7 l.length true (chF l)) u
  cases hu with
  | sl _ _ _ _ A c us hs hn hc hl' hf hsc hq hr => exact .sl 7 l.length true (chF l) A c us hs hn hc hl' (fun i hi => by rw [← hF i hi]; exact hf i hi) (by rw [← flat_congr hF]; exact hsc) (by rw [← flat_congr hF]; exact hq) hr
theorem tail_rng {l : List Ch0} (h : ∀ c ∈ l, c.rng) : ∀ c ∈ [] ++ l.take 36 ++ [syC 1] ++ [syC 2] ++ [syC 3] ++ [syC 4] ++ [deC 99] ++ [deC 100] ++ [deC 101], c.rng := fun c hc => by
  simp only [List.nil_append, List.mem_append, List.mem_singleton] at hc
  rcases hc with (((((((hc | rfl) | rfl) | rfl) | rfl) | rfl) | rfl) | rfl)
  · exact h c (List.mem_of_mem_take hc)
  all_goals (unfold Ch0.rng; simp [syC, deC, ByteArray.size])

theorem isb1 {F : Nat → List AV} {b : UInt8} (h : F 0 = [.v (.int .u8 (b.toNat : Int))]) : IsB F [b] := fun i hi => by
  have : i = 0 := by simpa using hi
  rw [this, h]
  rfl
theorem Bs.of' {n : Nat} {F : Nat → List AV} {K : List UInt8 → Prop} (l : List UInt8) (hF : IsB F l) (hn : n = l.length) (h : K l) : Bs n F K := .mk l hn (fun i hi => hF i (by omega)) h
set_option maxHeartbeats 8000000 in
set_option maxRecDepth 100000 in
theorem empty_true (l : List Ch0) (hr : ∀ c ∈ l, c.rng) :
    ASpec Try.prog 3 [.sl 7 l.length true (chF l)] (.v (.bool true)) [] := by
  have hsh := shown_spec
  have hlt : (l.take 36).length ≤ 36 := by rw [List.length_take]; omega
  have hL : ([] ++ l.take 36 ++ [syC 1] ++ [syC 2] ++ [syC 3] ++ [syC 4] ++ [deC 99] ++ [deC 100] ++ [deC 101]).length = (l.take 36).length + 7 := by simp
  have hmk := fun n F => @make_of _ (by rw [hL]; omega) (tail_rng hr) n F
  have hX := row_any ([] ++ l.take 36 ++ [syC 1] ++ [syC 2] ++ [syC 3] ++ [syC 4] ++ [deC 99] ++ [deC 100] ++ [deC 101]) (by rw [hL]; omega)
  have hd := empty_living (l.take 36)
  rw [show l.take 36 ++ tailC = [] ++ l.take 36 ++ [syC 1] ++ [syC 2] ++ [syC 3] ++ [syC 4] ++ [deC 99] ++ [deC 100] ++ [deC 101] by simp [tailC]] at hd
  rw [hL] at hmk
  generalize makeL ([] ++ l.take 36 ++ [syC 1] ++ [syC 2] ++ [syC 3] ++ [syC 4] ++ [deC 99] ++ [deC 100] ++ [deC 101]) = X at hmk hX hd
  have hlen := hX.len
  have h0 := new_b
  have hap := fun i hi => hX.apply (i := i) hi
  have hli := list_b hX.all X.length (by omega) (by omega)
  have hsz := size_b X X.length (by omega)
  have hof := of_dead hd
  rw [size_nil_of hd] at hsz
  generalize ofB X = O at *
  rw [hof] at hli
  generalize bookO = B at *
  dsimp only [Ev.av] at hap
  refine aspec_of lay_ok 19140298953720829 Try.func3 rfl rfl rfl ?_
  repeat' ((conv => whnf); first | refine Spl.yes (by first | assumption | omega) ?_ | refine Spl.no (by first | assumption | omega) ?_ | refine Wr.i64 (by omega) (by omega) ?_ | refine Still.mk rfl rfl ?_ | refine InB.mk (inB_mk (by omega) (by omega)) ?_ | refine Req.mk (by omega) ?_ | refine Req.mk ⟨by first | omega | (dsimp only; omega), by first | omega | (dsimp only; omega)⟩ ?_ | refine ACall.plain _ _ (hsh) .nil rfl ?_ | refine InB.mk (inB_mk (by split <;> omega) (by split <;> omega)) ?_ | refine Req.mk ⟨by split <;> omega, by split <;> omega⟩ ?_ | refine Spl.mk (fun _ => ?_) (fun _ => ?_) | refine InA.mk (inB_mk (by omega) (by omega)) ?_ | refine Wr.b64 ?_ | refine Wr.bu64 ?_ | refine Wr.bu32 ?_ | refine Wr.bu8 ?_ | refine Wr.u8 (by omega) (by omega) ?_ | refine Wr.u64 (by omega) (by omega) ?_ | refine Wr.u32 (by omega) (by omega) ?_ | refine Dv.pos (by omega) (by omega) ?_ | refine Rm.pos (by omega) (by omega) ?_ | refine ADraw.quiet follows_ok (by kernel_rfl) rfl ?_ | refine BSpl.decY (by first | assumption | omega) ?_ | refine BSpl.decN (by first | assumption | omega) ?_ | refine BSpl.dec (fun _ => ?_) (fun _ => ?_) | refine BSpl.yes (by assumption) ?_ | refine BSpl.no (by assumption) ?_ | refine BSpl.mk (fun _ => ?_) (fun _ => ?_))
  conv => whnf
  refine ALoop.rounds 5 ?_
  repeat' ((conv => whnf); first | refine Spl.yes (by first | assumption | omega) ?_ | refine Spl.no (by first | assumption | omega) ?_ | refine Wr.i64 (by omega) (by omega) ?_ | refine Still.mk rfl rfl ?_ | refine InB.mk (inB_mk (by omega) (by omega)) ?_ | refine Req.mk (by omega) ?_ | refine Req.mk ⟨by first | omega | (dsimp only; omega), by first | omega | (dsimp only; omega)⟩ ?_ | refine Spl.mk (fun _ => ?_) (fun _ => ?_) | refine InA.mk (inB_mk (by omega) (by omega)) ?_ | refine Wr.b64 ?_ | refine Wr.bu64 ?_ | refine Wr.bu32 ?_ | refine Wr.bu8 ?_ | refine Wr.u8 (by omega) (by omega) ?_ | refine Wr.u64 (by omega) (by omega) ?_ | refine Wr.u32 (by omega) (by omega) ?_ | refine Dv.pos (by omega) (by omega) ?_ | refine Rm.pos (by omega) (by omega) ?_ | refine ADraw.quiet follows_ok (by kernel_rfl) rfl ?_ | refine BSpl.decY (by first | assumption | omega) ?_ | refine BSpl.decN (by first | assumption | omega) ?_ | refine BSpl.dec (fun _ => ?_) (fun _ => ?_) | refine BSpl.yes (by assumption) ?_ | refine BSpl.no (by assumption) ?_ | refine BSpl.mk (fun _ => ?_) (fun _ => ?_))
  conv => whnf
  refine ALoop.rounds 4 ?_
  repeat' ((conv => whnf); first | refine Spl.yes (by first | assumption | omega) ?_ | refine Spl.no (by first | assumption | omega) ?_ | refine Wr.i64 (by omega) (by omega) ?_ | refine Still.mk rfl rfl ?_ | refine InB.mk (inB_mk (by omega) (by omega)) ?_ | refine Req.mk (by omega) ?_ | refine Req.mk ⟨by first | omega | (dsimp only; omega), by first | omega | (dsimp only; omega)⟩ ?_ | refine Bs.of' [99] (isb1 rfl) rfl ?_ | refine Bs.of' [100] (isb1 rfl) rfl ?_ | refine Bs.of' [101] (isb1 rfl) rfl ?_ | refine Spl.mk (fun _ => ?_) (fun _ => ?_) | refine InA.mk (inB_mk (by omega) (by omega)) ?_ | refine Wr.b64 ?_ | refine Wr.bu64 ?_ | refine Wr.bu32 ?_ | refine Wr.bu8 ?_ | refine Wr.u8 (by omega) (by omega) ?_ | refine Wr.u64 (by omega) (by omega) ?_ | refine Wr.u32 (by omega) (by omega) ?_ | refine Dv.pos (by omega) (by omega) ?_ | refine Rm.pos (by omega) (by omega) ?_ | refine ADraw.quiet follows_ok (by kernel_rfl) rfl ?_ | refine BSpl.decY (by first | assumption | omega) ?_ | refine BSpl.decN (by first | assumption | omega) ?_ | refine BSpl.dec (fun _ => ?_) (fun _ => ?_) | refine BSpl.yes (by assumption) ?_ | refine BSpl.no (by assumption) ?_ | refine BSpl.mk (fun _ => ?_) (fun _ => ?_))
  conv => whnf
  refine ACall.plain _ _ (hmk _ _ ?hF ?hn) (.cons (.eq _) .nil) rfl ?_
  case hF =>
    refine IsC.app (IsC.app (IsC.app (IsC.app (IsC.app (IsC.app (IsC.app (IsC.app (IsC.nil _) ((IsC.refl l).take 36) ?_) (IsC.one rfl) ?_) (IsC.one rfl) ?_) (IsC.one rfl) ?_) (IsC.one rfl) ?_) (IsC.one rfl) ?_) (IsC.one rfl) ?_) (IsC.one rfl) ?_
    · rfl
    all_goals (first
      | show 0 + (if (36 : Int) < (l.length : Int) then (36 : Int) else (l.length : Int)).toNat = _
      | show 0 + (if (36 : Int) < (l.length : Int) then (36 : Int) else (l.length : Int)).toNat + 1 = _
      | show 0 + (if (36 : Int) < (l.length : Int) then (36 : Int) else (l.length : Int)).toNat + 1 + 1 = _
      | show 0 + (if (36 : Int) < (l.length : Int) then (36 : Int) else (l.length : Int)).toNat + 1 + 1 + 1 = _
      | show 0 + (if (36 : Int) < (l.length : Int) then (36 : Int) else (l.length : Int)).toNat + 1 + 1 + 1 + 1 = _
      | show 0 + (if (36 : Int) < (l.length : Int) then (36 : Int) else (l.length : Int)).toNat + 1 + 1 + 1 + 1 + 1 = _
      | show 0 + (if (36 : Int) < (l.length : Int) then (36 : Int) else (l.length : Int)).toNat + 1 + 1 + 1 + 1 + 1 + 1 = _)
    all_goals (simp only [List.length_append, List.length_cons, List.length_nil, List.length_take]; split <;> omega)
  case hn =>
    show 0 + (if (36 : Int) < (l.length : Int) then (36 : Int) else (l.length : Int)).toNat + 1 + 1 + 1 + 1 + 1 + 1 + 1 = _
    rw [List.length_take]
    split <;> omega
  repeat' ((conv => whnf); first | refine Spl.yes (by first | assumption | omega) ?_ | refine Spl.no (by first | assumption | omega) ?_ | refine Wr.i64 (by omega) (by omega) ?_ | refine Still.mk rfl rfl ?_ | refine InB.mk (inB_mk (by omega) (by omega)) ?_ | refine Req.mk (by omega) ?_ | refine Req.mk ⟨by first | omega | (dsimp only; omega), by first | omega | (dsimp only; omega)⟩ ?_ | refine ACall.chgR 0 [] h0 rfl trivial rfl rfl ?_ | refine Spl.mk (fun _ => ?_) (fun _ => ?_) | refine InA.mk (inB_mk (by omega) (by omega)) ?_ | refine Wr.b64 ?_ | refine Wr.bu64 ?_ | refine Wr.bu32 ?_ | refine Wr.bu8 ?_ | refine Wr.u8 (by omega) (by omega) ?_ | refine Wr.u64 (by omega) (by omega) ?_ | refine Wr.u32 (by omega) (by omega) ?_ | refine Dv.pos (by omega) (by omega) ?_ | refine Rm.pos (by omega) (by omega) ?_ | refine ADraw.quiet follows_ok (by kernel_rfl) rfl ?_ | refine BSpl.decY (by first | assumption | omega) ?_ | refine BSpl.decN (by first | assumption | omega) ?_ | refine BSpl.dec (fun _ => ?_) (fun _ => ?_) | refine BSpl.yes (by assumption) ?_ | refine BSpl.no (by assumption) ?_ | refine BSpl.mk (fun _ => ?_) (fun _ => ?_))
  conv => whnf
  refine ALoop.mk { j : Nat // j ≤ X.length } (fun j => ⟨[(7, .sl 12 X.length true (evF X)), (8, .box 0 0), (9, .v (.int .i64 (j.1 : Int)))], [(0, .obs (B (X.take j.1) j.1))], [], 1⟩) (fun j => X.length - j.1) ⟨0, Nat.zero_le _⟩ _
    (LeR.mk' [(19, 0)] _ _ _ rfl ⟨AEq.refl _, AEq.refl _, AEq.int rfl, trivial⟩ ⟨⟨_, rfl, OEq.refl _⟩, trivial⟩ rfl) ?_
  rintro ⟨j, hj⟩
  dsimp only
  by_cases hjl : j < X.length
  · have ha := hap j hjl
    repeat' ((conv => whnf); first | refine Spl.yes (by first | assumption | omega) ?_ | refine Spl.no (by first | assumption | omega) ?_ | refine Wr.i64 (by omega) (by omega) ?_ | refine Still.mk rfl rfl ?_ | refine InB.mk (inB_mk (by omega) (by omega)) ?_ | refine Req.mk (by omega) ?_ | refine Req.mk ⟨by first | omega | (dsimp only; omega), by first | omega | (dsimp only; omega)⟩ ?_ | refine ACall.chgR 1 [(0, _)] (ha) rfl ⟨rfl, trivial⟩ rfl rfl ?_ | refine Spl.mk (fun _ => ?_) (fun _ => ?_) | refine InA.mk (inB_mk (by omega) (by omega)) ?_ | refine Wr.b64 ?_ | refine Wr.bu64 ?_ | refine Wr.bu32 ?_ | refine Wr.bu8 ?_ | refine Wr.u8 (by omega) (by omega) ?_ | refine Wr.u64 (by omega) (by omega) ?_ | refine Wr.u32 (by omega) (by omega) ?_ | refine Dv.pos (by omega) (by omega) ?_ | refine Rm.pos (by omega) (by omega) ?_ | refine ADraw.quiet follows_ok (by kernel_rfl) rfl ?_ | refine BSpl.decY (by first | assumption | omega) ?_ | refine BSpl.decN (by first | assumption | omega) ?_ | refine BSpl.dec (fun _ => ?_) (fun _ => ?_) | refine BSpl.yes (by assumption) ?_ | refine BSpl.no (by assumption) ?_ | refine BSpl.mk (fun _ => ?_) (fun _ => ?_))
    conv => whnf
    exact ⟨⟨j + 1, hjl⟩, _, LeR.mk' [] _ _ _ rfl ⟨AEq.refl _, AEq.refl _, AEq.int rfl, trivial⟩ ⟨⟨_, rfl, OEq.refl _⟩, trivial⟩ rfl, by show X.length - (j + 1) < X.length - j; omega⟩
  · have hjn : j = X.length := by omega
    subst hjn
    rw [List.take_length]
    repeat' ((conv => whnf); first | refine Spl.yes (by first | assumption | omega) ?_ | refine Spl.no (by first | assumption | omega) ?_ | refine Wr.i64 (by omega) (by omega) ?_ | refine Still.mk rfl rfl ?_ | refine InB.mk (inB_mk (by omega) (by omega)) ?_ | refine Req.mk (by omega) ?_ | refine Req.mk ⟨by first | omega | (dsimp only; omega), by first | omega | (dsimp only; omega)⟩ ?_ | refine ACall.chgR 1 [(0, _)] (hsz) rfl ⟨rfl, trivial⟩ rfl rfl ?_ | refine ACall.chgR 3 [(0, _)] hli rfl ⟨rfl, trivial⟩ rfl rfl ?_ | refine ARet.hdI ?_ | refine Spl.mk (fun _ => ?_) (fun _ => ?_) | refine InA.mk (inB_mk (by omega) (by omega)) ?_ | refine Wr.b64 ?_ | refine Wr.bu64 ?_ | refine Wr.bu32 ?_ | refine Wr.bu8 ?_ | refine Wr.u8 (by omega) (by omega) ?_ | refine Wr.u64 (by omega) (by omega) ?_ | refine Wr.u32 (by omega) (by omega) ?_ | refine Dv.pos (by omega) (by omega) ?_ | refine Rm.pos (by omega) (by omega) ?_ | refine ADraw.quiet follows_ok (by kernel_rfl) rfl ?_ | refine BSpl.decY (by first | assumption | omega) ?_ | refine BSpl.decN (by first | assumption | omega) ?_ | refine BSpl.dec (fun _ => ?_) (fun _ => ?_) | refine BSpl.yes (by assumption) ?_ | refine BSpl.no (by assumption) ?_ | refine BSpl.mk (fun _ => ?_) (fun _ => ?_))
    all_goals (conv => whnf)
    all_goals first
      | exact AEqI.mk (AEq.refl _)
      | exact absurd rfl (by assumption)
end Go.Proofs.Ytkkpfjifkjbndaa
