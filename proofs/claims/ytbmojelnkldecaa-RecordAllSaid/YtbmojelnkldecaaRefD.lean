/-
  Whether two rows of records are the same; records one behind the other, made.
-/
import Derived.Test.YtbmojelnkldecaaRefC
import Derived.Test.YtbmojelnkldecaaRcW
import Derived.Test.YtbmojelnkldecaaOpenR
namespace Go.Proofs.Ytbmojelnkldecaa
open Go.RowKit

theorem all_sameR {a b : List Rc} (hl : a.length = b.length) (h : ∀ i, i < a.length → a.getD i default = b.getD i default) : a = b := by
  apply List.ext_getElem hl
  intro i h1 h2
  have := h i h1
  rw [List.getD, List.getElem?_eq_getElem h1, List.getD, List.getElem?_eq_getElem h2] at this
  exact this

set_option maxHeartbeats 8000000 in
set_option maxRecDepth 100000 in
theorem same18_spec (a b : List Rc) (q : Bool) (hq : q = true ↔ a = b) (ha : a.length ≤ 1000000000) (hb : b.length ≤ 1000000000) (hA : ∀ r ∈ a, r.ev.length ≤ 1000000000) (hB : ∀ r ∈ b, r.ev.length ≤ 1000000000) :
    ASpec Try.prog 40 [.sl 9 a.length false (rcF a), .sl 9 b.length false (rcF b)] (.v (.bool q)) [] := by
  have hno : ¬ a = b → q = false := fun h => by cases q with | false => rfl | true => exact absurd (hq.1 rfl) h
  refine aspec_of lay_ok 4835703278458516698859635 Try.func40 rfl rfl rfl ?_
  repeat' ((conv => whnf); first | refine Spl.yes (by first | assumption | omega) ?_ | refine Spl.no (by first | assumption | omega) ?_ | refine Wr.i64 (by omega) (by omega) ?_ | refine Still.mk rfl rfl ?_ | refine InB.mk (inB_mk (by omega) (by omega)) ?_ | refine Req.mk (by omega) ?_ | refine Req.mk ⟨by first | omega | (dsimp only; omega), by first | omega | (dsimp only; omega)⟩ ?_ | refine ARet.hdI ?_ | refine Spl.mk (fun _ => ?_) (fun _ => ?_) | refine Wr.b64 ?_ | refine Wr.bu64 ?_ | refine Wr.bu32 ?_ | refine Wr.bu8 ?_ | refine Wr.u8 (by omega) (by omega) ?_ | refine Wr.u64 (by omega) (by omega) ?_ | refine Wr.u32 (by omega) (by omega) ?_ | refine Dv.pos (by omega) (by omega) ?_ | refine Rm.pos (by omega) (by omega) ?_ | refine ADraw.quiet follows_ok (by kernel_rfl) rfl ?_ | refine ADraw.sched (id := 6) lay_ok (awp_snd lay_ok _) [(0, none), (1, none), (2, none), (3, none), (4, none), (5, none), (6, none), (7, none), (8, none), (9, none), (10, some [9, 4]), (11, none)] [(10, [9, 4]), (11, [9, 4])] follows_ok (by kernel_rfl) ?_ | refine BSpl.decY (by first | assumption | omega) ?_ | refine BSpl.decN (by first | assumption | omega) ?_ | refine BSpl.dec (fun _ => ?_) (fun _ => ?_) | refine BSpl.yes (by assumption) ?_ | refine BSpl.no (by assumption) ?_ | refine BSpl.mk (fun _ => ?_) (fun _ => ?_))
  all_goals (conv => whnf)
  · refine ALoop.mk { j : Nat // j ≤ a.length ∧ ∀ i, i < j → a.getD i default = b.getD i default } (fun j => ⟨[(0, .sl 9 a.length false (rcF a)), (1, .sl 9 b.length false (rcF b)), (5, .v (.int .i64 (j.1 : Int)))], [], [], 0⟩) (fun j => a.length - j.1) ⟨0, Nat.zero_le _, fun i h => absurd h (Nat.not_lt_zero i)⟩ _
      (LeR.mk' [] _ _ _ rfl ⟨AEq.refl _, AEq.refl _, AEq.int rfl, trivial⟩ trivial rfl) ?_
    rintro ⟨j, hj, hall⟩
    dsimp only
    by_cases hjl : j < a.length
    · have hab : a.length = b.length := by omega
      have mA : (a.getD (j : Int).toNat default).ev.length ≤ 1000000000 := by
        rw [show (j : Int).toNat = j by omega, List.getD, List.getElem?_eq_getElem hjl]
        exact hA _ (List.getElem_mem _)
      have mB : (b.getD (j : Int).toNat default).ev.length ≤ 1000000000 := by
        rw [show (j : Int).toNat = j by omega, List.getD, List.getElem?_eq_getElem (by omega)]
        exact hB _ (List.getElem_mem _)
      obtain ⟨q', hq'⟩ : ∃ q' : Bool, q' = true ↔ (a.getD (j : Int).toNat default).ev = (b.getD (j : Int).toNat default).ev := by
        by_cases h : (a.getD (j : Int).toNat default).ev = (b.getD (j : Int).toNat default).ev
        · exact ⟨true, by simp only [h]⟩
        · exact ⟨false, by simp only [h, Bool.false_eq_true]⟩
      have hs := same06_spec _ _ q' hq' mA mB
      have hne : ¬ a.getD (j : Int).toNat default = b.getD (j : Int).toNat default → q = false := fun h => hno fun e => h (by rw [e])
      have heq : q' = true → (a.getD (j : Int).toNat default).k = (b.getD (j : Int).toNat default).k → (a.getD (j : Int).toNat default).r = (b.getD (j : Int).toNat default).r → (a.getD (j : Int).toNat default).u = (b.getD (j : Int).toNat default).u → (a.getD (j : Int).toNat default).c = (b.getD (j : Int).toNat default).c → a.getD (j : Int).toNat default = b.getD (j : Int).toNat default := by
        intro e5 e1 e2 e3 e4
        have e5 := hq'.1 e5
        generalize a.getD (j : Int).toNat default = x at e1 e2 e3 e4 e5 ⊢
        generalize b.getD (j : Int).toNat default = y at e1 e2 e3 e4 e5 ⊢
        obtain ⟨_, _, _, _, _⟩ := x
        obtain ⟨_, _, _, _, _⟩ := y
        dsimp only at e1 e2 e3 e4 e5
        rw [e1, e2, e3, e4, e5]
      have hn5 : ¬ q' = true → ¬ a.getD (j : Int).toNat default = b.getD (j : Int).toNat default := fun h e => h (hq'.2 (by rw [e]))
      repeat' ((conv => whnf); first | refine Spl.yes (by first | assumption | omega) ?_ | refine Spl.no (by first | assumption | omega) ?_ | refine Wr.i64 (by omega) (by omega) ?_ | refine Still.mk rfl rfl ?_ | refine InB.mk (inB_mk (by omega) (by omega)) ?_ | refine Req.mk (by omega) ?_ | refine Req.mk ⟨by first | omega | (dsimp only; omega), by first | omega | (dsimp only; omega)⟩ ?_ | refine ACall.plain _ _ (hs) (SubL.cons (.eq _) (SubL.cons (.eq _) .nil)) rfl ?_ | refine EqA.mk (Clk.vs (a.getD (j : Int).toNat default).c) (Clk.vs (b.getD (j : Int).toNat default).c) ((a.getD (j : Int).toNat default).c = (b.getD (j : Int).toNat default).c) rfl rfl (clk_eq _ _) ?_ | refine ARet.hdI ?_ | refine Spl.mk (fun _ => ?_) (fun _ => ?_) | refine Wr.b64 ?_ | refine Wr.bu64 ?_ | refine Wr.bu32 ?_ | refine Wr.bu8 ?_ | refine Wr.u8 (by omega) (by omega) ?_ | refine Wr.u64 (by omega) (by omega) ?_ | refine Wr.u32 (by omega) (by omega) ?_ | refine Dv.pos (by omega) (by omega) ?_ | refine Rm.pos (by omega) (by omega) ?_ | refine ADraw.quiet follows_ok (by kernel_rfl) rfl ?_ | refine ADraw.sched (id := 6) lay_ok (awp_snd lay_ok _) [(0, none), (1, none), (2, none), (3, none), (4, none), (5, none), (6, none), (7, none), (8, none), (9, none), (10, some [9, 4]), (11, none)] [(10, [9, 4]), (11, [9, 4])] follows_ok (by kernel_rfl) ?_ | refine BSpl.decY (by first | assumption | omega) ?_ | refine BSpl.decN (by first | assumption | omega) ?_ | refine BSpl.dec (fun _ => ?_) (fun _ => ?_) | refine BSpl.yes (by assumption) ?_ | refine BSpl.no (by assumption) ?_ | refine BSpl.mk (fun _ => ?_) (fun _ => ?_))
      all_goals (conv => whnf)
      all_goals first
        | (refine ⟨⟨j + 1, by omega, fun i hi => ?_⟩, _, LeR.mk' [] _ _ _ rfl ⟨AEq.refl _, AEq.refl _, AEq.int rfl, trivial⟩ trivial rfl, by show a.length - (j + 1) < a.length - j; omega⟩
           rcases Nat.lt_or_ge i j with h | h
           · exact hall i h
           · obtain rfl : i = j := by omega
             exact heq (by assumption) (by assumption) (by assumption) (by assumption) (by assumption))
        | (rw [hne (fun e => absurd (by rw [e]) ‹¬ (a.getD (j : Int).toNat default).k = (b.getD (j : Int).toNat default).k›)]; exact AEqI.mk (AEq.refl _))
        | (rw [hne (fun e => absurd (by rw [e]) ‹¬ (a.getD (j : Int).toNat default).r = (b.getD (j : Int).toNat default).r›)]; exact AEqI.mk (AEq.refl _))
        | (rw [hne (fun e => absurd (by rw [e]) ‹¬ (a.getD (j : Int).toNat default).u = (b.getD (j : Int).toNat default).u›)]; exact AEqI.mk (AEq.refl _))
        | (rw [hne (fun e => absurd (by rw [e]) ‹¬ (a.getD (j : Int).toNat default).c = (b.getD (j : Int).toNat default).c›)]; exact AEqI.mk (AEq.refl _))
        | (rw [hne (hn5 (by simp [*]))]; exact AEqI.mk (AEq.refl _))
    · have hab : a.length = b.length := by omega
      have : q = true := hq.2 (all_sameR hab (fun i hi => hall i (by omega)))
      repeat' ((conv => whnf); first | refine Spl.yes (by first | assumption | omega) ?_ | refine Spl.no (by first | assumption | omega) ?_ | refine Wr.i64 (by omega) (by omega) ?_ | refine Still.mk rfl rfl ?_ | refine InB.mk (inB_mk (by omega) (by omega)) ?_ | refine Req.mk (by omega) ?_ | refine Req.mk ⟨by first | omega | (dsimp only; omega), by first | omega | (dsimp only; omega)⟩ ?_ | refine ARet.hdI ?_ | refine Spl.mk (fun _ => ?_) (fun _ => ?_) | refine Wr.b64 ?_ | refine Wr.bu64 ?_ | refine Wr.bu32 ?_ | refine Wr.bu8 ?_ | refine Wr.u8 (by omega) (by omega) ?_ | refine Wr.u64 (by omega) (by omega) ?_ | refine Wr.u32 (by omega) (by omega) ?_ | refine Dv.pos (by omega) (by omega) ?_ | refine Rm.pos (by omega) (by omega) ?_ | refine ADraw.quiet follows_ok (by kernel_rfl) rfl ?_ | refine ADraw.sched (id := 6) lay_ok (awp_snd lay_ok _) [(0, none), (1, none), (2, none), (3, none), (4, none), (5, none), (6, none), (7, none), (8, none), (9, none), (10, some [9, 4]), (11, none)] [(10, [9, 4]), (11, [9, 4])] follows_ok (by kernel_rfl) ?_ | refine BSpl.decY (by first | assumption | omega) ?_ | refine BSpl.decN (by first | assumption | omega) ?_ | refine BSpl.dec (fun _ => ?_) (fun _ => ?_) | refine BSpl.yes (by assumption) ?_ | refine BSpl.no (by assumption) ?_ | refine BSpl.mk (fun _ => ?_) (fun _ => ?_))
      all_goals (conv => whnf)
      rw [this]
      exact AEqI.mk (AEq.refl _)
  · have : q = false := hno fun e => by subst e; omega
    rw [this]
    exact AEqI.mk (AEq.refl _)

/-! ### Records, one behind the other -/
def iC (n : Int) : List AV := [.v (.int .i64 n)]
abbrev intF (l : List Int) : Nat → List AV := elsF iC l
def atsF (l : List Rc) : List Int := (List.range l.length).map fun i => ((rcsB (l.take i)).length : Int)
theorem ats_snoc (l : List Rc) (x : Rc) : atsF (l ++ [x]) = atsF l ++ [((rcsB l).length : Int)] := by
  unfold atsF
  rw [List.length_append, List.length_singleton, List.range_succ, List.map_append]
  congr 1
  · apply List.map_congr_left
    intro i hi
    have : i < l.length := List.mem_range.1 hi
    rw [List.take_append_of_le_length (by omega)]
  · simp
def madeF (l : List Rc) : List Rc := (l.take 10).map fitR
theorem made_succ {l : List Rc} {j : Nat} (hj : j < l.length) : (l.take (j + 1)).map fitR = (l.take j).map fitR ++ [fitR (l.getD j default)] := by
  rw [List.take_add_one, List.getElem?_eq_getElem hj, List.getD, List.getElem?_eq_getElem hj, List.map_append]
  rfl
theorem made_may {l : List Rc} {n : Nat} : ∀ r ∈ (l.take n).map fitR, mayR r = true := by
  intro r hr
  obtain ⟨x, _, rfl⟩ := List.mem_map.1 hr
  exact fitR_may x
theorem rcsB_max : ∀ {l : List Rc}, (∀ r ∈ l, mayR r = true) → (rcsB l).length ≤ 200100 * l.length
  | [], _ => Nat.zero_le _
  | x :: l, h => by
    have h1 := rcBytes_max x (h x List.mem_cons_self)
    have h2 := rcsB_max (l := l) fun r hr => h r (List.mem_cons_of_mem _ hr)
    show (rcBytes x ++ rcsB l).length ≤ _
    rw [List.length_append, List.length_cons]
    omega

theorem OEq.rowF {e : TypeId} {s n n' : Nat} {sc : Bool} {f f' : Nat → List AV} (hn : n = n') (hf : ∀ i, i < n → f i = f' i) : OEq (.row e s n sc f) (.row e s n' false f') := by
  subst hn
  rintro X id ⟨us, hown, hs, hfl, _, ha⟩
  rw [flat_congr hf] at ha
  exact ⟨us, hown, hs, fun i hi => by rw [← hf i hi]; exact hfl i hi, (fun h => by cases h), ha⟩

set_option maxHeartbeats 8000000 in
set_option maxRecDepth 100000 in
theorem made_spec (l : List Rc) (hr : ∀ r ∈ l, r.rng) (hl : l.length ≤ 140737488355328) :
    ASpec Try.prog 41 [.sl 9 l.length false (rcF l)] (.tup [.sl 9 (madeF l).length false (rcF (madeF l)), .sl 1 (rcsB (madeF l)).length true (bytesF (rcsB (madeF l))), .sl 1 (atsF (madeF l)).length true (intF (atsF (madeF l)))]) [] := by
  refine aspec_of lay_ok 4196349 Try.func41 rfl rfl rfl ?_
  repeat' ((conv => whnf); first | refine Spl.yes (by first | assumption | omega) ?_ | refine Spl.no (by first | assumption | omega) ?_ | refine Wr.i64 (by omega) (by omega) ?_ | refine Still.mk rfl rfl ?_ | refine InB.mk (inB_mk (by omega) (by omega)) ?_ | refine Req.mk (by omega) ?_ | refine Req.mk ⟨by first | omega | (dsimp only; omega), by first | omega | (dsimp only; omega)⟩ ?_ | refine ARet.hdI ?_ | refine Spl.mk (fun _ => ?_) (fun _ => ?_) | refine Wr.b64 ?_ | refine Wr.bu64 ?_ | refine Wr.bu32 ?_ | refine Wr.bu8 ?_ | refine Wr.u8 (by omega) (by omega) ?_ | refine Wr.u64 (by omega) (by omega) ?_ | refine Wr.u32 (by omega) (by omega) ?_ | refine Dv.pos (by omega) (by omega) ?_ | refine Rm.pos (by omega) (by omega) ?_ | refine ADraw.quiet follows_ok (by kernel_rfl) rfl ?_ | refine BSpl.decY (by first | assumption | omega) ?_ | refine BSpl.decN (by first | assumption | omega) ?_ | refine BSpl.dec (fun _ => ?_) (fun _ => ?_) | refine BSpl.yes (by assumption) ?_ | refine BSpl.no (by assumption) ?_ | refine BSpl.mk (fun _ => ?_) (fun _ => ?_))
  conv => whnf
  refine ALoop.mk { j : Nat // j ≤ l.length ∧ j ≤ 10 } (fun j => ⟨[(0, .sl 9 l.length false (rcF l)), (5, .own 90), (6, .own 91), (7, .own 92), (8, .v (.int .i64 (j.1 : Int)))],
      [(90, .row 39 9 ((l.take j.1).map fitR).length false (rcF ((l.take j.1).map fitR))), (91, .row 5 1 (rcsB ((l.take j.1).map fitR)).length true (bytesF (rcsB ((l.take j.1).map fitR)))), (92, .row 3 1 (atsF ((l.take j.1).map fitR)).length true (intF (atsF ((l.take j.1).map fitR))))], [], 93⟩) (fun j => 10 - j.1) ⟨0, by omega, by omega⟩ _
    (LeR.mk' [(0, 90), (1, 91), (2, 92)] _ _ _ rfl ⟨AEq.refl _, AEq.refl _, AEq.refl _, AEq.refl _, AEq.int rfl, trivial⟩ ⟨⟨_, rfl, OEq.rowF rfl (fun i hi => absurd hi (Nat.not_lt_zero i))⟩, ⟨_, rfl, OEq.row rfl (fun i hi => absurd hi (Nat.not_lt_zero i))⟩, ⟨_, rfl, OEq.row rfl (fun i hi => absurd hi (Nat.not_lt_zero i))⟩, trivial⟩ rfl) ?_
  rintro ⟨j, hj, hj10⟩
  dsimp only
  have hmx := rcsB_max (made_may (l := l) (n := j))
  have hlm : ((l.take j).map fitR).length = j := by rw [List.length_map, List.length_take]; omega
  have hla : (atsF ((l.take j).map fitR)).length = j := by unfold atsF; rw [List.length_map, List.length_range, hlm]
  by_cases hjl : j < l.length ∧ j < 10
  · have hrj : (l.getD (j : Int).toNat default).rng := by
      rw [show (j : Int).toNat = j by omega, List.getD, List.getElem?_eq_getElem hjl.1]
      exact hr _ (List.getElem_mem _)
    have hfit := fit18_spec (l.getD (j : Int).toNat default) hrj.1 hrj.2
    have hput := fun d => r18Put_yes d (fitR (l.getD (j : Int).toNat default)) (fitR_may _)
    have hmx2 := rcBytes_max _ (fitR_may (l.getD (j : Int).toNat default))
    have hsucc := made_succ hjl.1
    have hsn := ats_snoc ((l.take j).map fitR) (fitR (l.getD j default))
    have hsb := rcsB_snoc ((l.take j).map fitR) (fitR (l.getD j default))
    repeat' ((conv => whnf); first | refine Spl.yes (by first | assumption | omega) ?_ | refine Spl.no (by first | assumption | omega) ?_ | refine Wr.i64 (by omega) (by omega) ?_ | refine Still.mk rfl rfl ?_ | refine InB.mk (inB_mk (by omega) (by omega)) ?_ | refine Req.mk (by omega) ?_ | refine Req.mk ⟨by first | omega | (dsimp only; omega), by first | omega | (dsimp only; omega)⟩ ?_ | refine ACall.plain _ _ (hfit) (SubL.cons (.eq _) .nil) rfl ?_ | refine ACall.fresh _ _ _ _ _ _ _ (hput _) (SubL.cons (.eq _) .nil) rfl ?_ | refine ARet.hdI ?_ | refine Spl.mk (fun _ => ?_) (fun _ => ?_) | refine Wr.b64 ?_ | refine Wr.bu64 ?_ | refine Wr.bu32 ?_ | refine Wr.bu8 ?_ | refine Wr.u8 (by omega) (by omega) ?_ | refine Wr.u64 (by omega) (by omega) ?_ | refine Wr.u32 (by omega) (by omega) ?_ | refine Dv.pos (by omega) (by omega) ?_ | refine Rm.pos (by omega) (by omega) ?_ | refine ADraw.quiet follows_ok (by kernel_rfl) rfl ?_ | refine BSpl.decY (by first | assumption | omega) ?_ | refine BSpl.decN (by first | assumption | omega) ?_ | refine BSpl.dec (fun _ => ?_) (fun _ => ?_) | refine BSpl.yes (by assumption) ?_ | refine BSpl.no (by assumption) ?_ | refine BSpl.mk (fun _ => ?_) (fun _ => ?_))
    conv => whnf
    refine ⟨⟨j + 1, by omega, by omega⟩, _, LeR.mk' [(96, 90), (99, 91), (98, 92)] _ _ _ rfl ⟨AEq.refl _, AEq.refl _, AEq.refl _, AEq.refl _, AEq.int rfl, trivial⟩ ⟨⟨_, rfl, OEq.row ?_ (fun m hm => ?_)⟩, ⟨_, rfl, OEq.isB (IsB.app (IsB.bytes _) (IsB.bytes _) rfl) List.length_append.symm ?_⟩, ⟨_, rfl, OEq.row ?_ (fun m hm => ?_)⟩, trivial⟩ rfl, by show 10 - (j + 1) < 10 - j; omega⟩
    · show _ = ((l.take (j + 1)).map fitR).length
      rw [hsucc, List.length_append]
      rfl
    · show _ = rcF ((l.take (j + 1)).map fitR) m
      rw [hsucc]
      exact els_app1 (c := Rc.cs) rfl rfl m hm
    · show _ = rcsB ((l.take (j + 1)).map fitR)
      rw [hsucc]
      exact hsb.symm
    · show _ = (atsF ((l.take (j + 1)).map fitR)).length
      rw [hsucc, hsn, List.length_append]
      rfl
    · show _ = intF (atsF ((l.take (j + 1)).map fitR)) m
      rw [hsucc, hsn]
      exact els_app1 (c := iC) rfl rfl m hm
  · have hW : l.take j = l.take 10 := by
      rcases (show j = l.length ∨ j = 10 by omega) with h | h
      · rw [List.take_of_length_le (by omega), List.take_of_length_le (by omega)]
      · rw [h]
    rw [hW] at hmx hlm hla ⊢
    repeat' ((conv => whnf); first | refine Spl.yes (by first | assumption | omega) ?_ | refine Spl.no (by first | assumption | omega) ?_ | refine Wr.i64 (by omega) (by omega) ?_ | refine Still.mk rfl rfl ?_ | refine InB.mk (inB_mk (by omega) (by omega)) ?_ | refine Req.mk (by omega) ?_ | refine Req.mk ⟨by first | omega | (dsimp only; omega), by first | omega | (dsimp only; omega)⟩ ?_ | refine ARet.hdI ?_ | refine Spl.mk (fun _ => ?_) (fun _ => ?_) | refine Wr.b64 ?_ | refine Wr.bu64 ?_ | refine Wr.bu32 ?_ | refine Wr.bu8 ?_ | refine Wr.u8 (by omega) (by omega) ?_ | refine Wr.u64 (by omega) (by omega) ?_ | refine Wr.u32 (by omega) (by omega) ?_ | refine Dv.pos (by omega) (by omega) ?_ | refine Rm.pos (by omega) (by omega) ?_ | refine ADraw.quiet follows_ok (by kernel_rfl) rfl ?_ | refine BSpl.decY (by first | assumption | omega) ?_ | refine BSpl.decN (by first | assumption | omega) ?_ | refine BSpl.dec (fun _ => ?_) (fun _ => ?_) | refine BSpl.yes (by assumption) ?_ | refine BSpl.no (by assumption) ?_ | refine BSpl.mk (fun _ => ?_) (fun _ => ?_))
    all_goals (conv => whnf)
    all_goals exact AEqI.mk (AEq.refl _)
end Go.Proofs.Ytbmojelnkldecaa
