/-
  The frame of every law's proof: if the call returns true and leaves all that was there as it was, the given statement holds; how the arguments of a law are opened, for the abstract machine.
-/
import Derived.Test.YtihjfndkgmjanaaRows
import Derived.Test.YtihjfndkgmjanaaAmUse
import Derived.ProofKit
import Derived.OpenShut
import Derived.SizedLaws
import Derived.ChangeOld
namespace Go.Proofs.Ytihjfndkgmjanaa
open Go.ChangeShapes Go.WideShapes Go.ChangeAt Go.RowKit

theorem own : ownKnob Try.prog.godebug = none := by kernel_rfl
theorem laidOut : laidOutB Try.prog = true := by kernel_rfl

section
variable {H : Type} {enc : TypeId × Value → H}

theorem trodAll_below {W W' : World} (hb : Below W.heap.size W W') : ∀ (ts : List TypeId) (vs : List Value) (ds : List (DataW H)) (ps : List MemPlace),
    (∀ t ∈ ts, Try.prog.readableRec t = true ∧ t < Try.prog.types.size) → DataW.TrodAll enc Try.prog W 0 (fun _ => true) true ts vs ds ps → (∀ x ∈ ps, x.block < W.heap.size) →
    DataW.TrodAll enc Try.prog W' 0 (fun b => decide (b < W.heap.size)) true ts vs ds ps
  | [], vs, ds, ps, _, h, _ => by
    obtain ⟨rfl, rfl, rfl⟩ := trodAll_nil h
    exact trodAll_mk0
  | t :: ts, vs, ds, ps, ht, h, hlt => by
    obtain ⟨v, vs', d, ds', p, q, rfl, rfl, rfl, h0, h1⟩ := trodAll_cons h
    have hp := ht t (by simp)
    exact trodAll_cons_mk (Below.trod laidOut hp.1 hp.2 h0 hb (fun x hx => hlt x (by simp [hx]))) (trodAll_below hb ts vs' ds' q (fun u hu => ht u (by simp [hu])) h1 (fun x hx => hlt x (by simp [hx])))

set_option maxRecDepth 100000 in
/-- A law: whatever comes in, true comes out, and what came in reads as it did. -/
theorem law_lifted (os : Os) (started : os.Started) (f : FuncId) (fn : Func) (s : ChangeSpec) (hvars : s.vars = []) (noInit : Try.prog.inits.idxOf? f = none) (hfn : Try.prog.funcs[f]? = some fn)
    (hres : fn.resultTypes = #[4]) (hparams : ∀ t ∈ fn.params.toList, Try.prog.readableRec t = true ∧ t < Try.prog.types.size)
    (hspec : ∀ ds : List (DataW H), ds.length = fn.params.toList.length → s.fn H ds = { results := [.lit (.bool true)], args := ds })
    (witness : ∃ (w : World) (tape : Tape) (i : Input), w.os = os ∧ (w.forCall tape i).Shaped Try.checked.prog ∧ i.vars = [] ∧ Input.okWide Try.checked.prog (w.forCall tape i) .any w.heap.size f i ∧
      s.pre6 enc Try.checked.prog fn [] false (w.forCall tape i).memory i.args ∧ ({} : Assume).holds Try.checked.prog (lone (Frame.enter Try.checked.prog f i.args .normal) [] (w.forCall tape i)))
    (walk : ∀ (W : World) (base : Nat) (args : Array Value) (ds : List (DataW H)) (p : List MemPlace),
      (∀ (j : Nat) t v, fn.params[j]? = some t → args[j]? = some v → Value.okWide Try.prog W .any base t v) →
      DataW.TrodAll enc Try.prog W 0 (fun _ => true) true fn.params.toList args.toList ds p →
      (DataW.weightsEach Try.prog fn.params.toList ds).all (· ≤ reachBytes) = true →
      Calls Try.prog f args W fun e W' => e = .returned (.bool true) ∧ Below W.heap.size W W') :
    ReturnsInHanded {} Try.checked os f .any (s.pre6 enc Try.prog fn [] false) (s.post enc Try.prog fn false true false false) := by
  refine returnsInHanded_of_change_sized (C := Try.checked) own started noInit hfn witness ?_
  intro W base args ds gs before hval0 hW _ hsz0 _
  have hval : ∀ (j : Nat) t v, fn.params[j]? = some t → args[j]? = some v → Value.okWide Try.prog W .any base t v := hval0
  have hW' := hW
  have hlt : ∀ x ∈ before, x.block < W.heap.size := fun x hx => by simpa using hW'.lt x hx
  obtain ⟨p, q, hA0, hV, rfl, hfz, hnd⟩ := hW
  have hA : DataW.TrodAll enc Try.prog W 0 (fun _ => true) true fn.params.toList args.toList ds p := hA0
  rw [hvars] at hV
  obtain ⟨rfl, rfl⟩ := trodVars_none hV
  simp only [List.append_nil] at hW' hlt
  have hsz : (DataW.weightsEach Try.prog fn.params.toList ds).all (· ≤ reachBytes) = true := by
    have h : (DataW.weightsEach Try.prog (fn.params.toList ++ s.plain.varTypes Try.prog) (ds ++ [])).all (· ≤ reachBytes) = true := hsz0
    have hv : s.plain.varTypes Try.prog = [] := by
      show s.vars.filterMap _ = []
      rw [hvars]; rfl
    simpa [hv] using h
  refine (walk W base args ds p hval hA hsz).mono fun e W' ⟨he, bel⟩ => ?_
  subst he
  have hlen : ds.length = fn.params.toList.length := trodAll_len fn.params.toList args.toList ds p hA
  have hsp := hspec ds hlen
  refine ⟨_, rfl, ds, [], p, [], p, [], hW', ?_, ?_, ?_, bel.frame _, fun h => by cases h⟩
  · rw [List.append_nil, hsp, hres]
    exact trodAll_mk1 (shut_bool Try.underlying4 _)
  · rw [List.append_nil, hsp]
    exact trodAll_below bel _ _ _ _ hparams hA hlt
  · rw [hvars]
    rw [List.append_nil, hsp]
    rfl
where
  trodAll_len {W : World} : ∀ (ts : List TypeId) (vs : List Value) (ds : List (DataW H)) (ps : List MemPlace), DataW.TrodAll enc Try.prog W 0 (fun _ => true) true ts vs ds ps → ds.length = ts.length
    | [], vs, ds, ps, h => by
      obtain ⟨rfl, rfl, rfl⟩ := trodAll_nil h
      rfl
    | t :: ts, vs, ds, ps, h => by
      obtain ⟨v, vs', d, ds', p, q, rfl, rfl, rfl, h0, h1⟩ := trodAll_cons h
      simp [trodAll_len ts vs' ds' q h1]

end

/-! ### Arguments, opened -/
abbrev allOf (w : World) : Nat → Prop := fun b => b < w.heap.size

/-- What can be read as data of a type reads as cells of which S tells. -/
structure Sh (t : TypeId) (S : List AV → Prop) : Prop where
  mk ::
  h : ∀ (H : Type) (enc : TypeId × Value → H) (w : World) (spare : Nat → Bool) (held : Bool) (fuel : Nat) (cs : List Value) (x : DataW H × List MemPlace),
    DataW.trod enc Try.prog w 0 spare held fuel t cs = some x → (∀ n ∈ x.1.weights Try.prog t, n ≤ reachBytes) → ∃ avs, All2 (PC w (allOf w)) avs cs ∧ S avs

theorem Sh.imp {t : TypeId} {S T : List AV → Prop} (h : Sh t S) (hi : ∀ avs, S avs → T avs) : Sh t T := ⟨fun _ _ _ _ _ _ _ _ h1 h2 => by
  obtain ⟨avs, h3, h4⟩ := h.h _ _ _ _ _ _ _ _ h1 h2
  exact ⟨avs, h3, hi avs h4⟩⟩

theorem sh_int {t : TypeId} {k : IntKind} (ht : Try.prog.underlying t = some (.int k)) : Sh t (fun avs => ∃ n : Int, avs = [.v (.int k n)] ∧ (Lit.int k n).wf = true) := ⟨fun _ _ _ _ _ _ _ _ h _ => by
  obtain ⟨n, rfl, rfl, hw⟩ := DataW.trod_int ht h
  exact ⟨_, All2.cons (PC.v _ rfl) All2.nil, n, rfl, hw⟩⟩
theorem sh_bool {t : TypeId} (ht : Try.prog.underlying t = some .bool) : Sh t (fun avs => ∃ b : Bool, avs = [.v (.bool b)]) := ⟨fun _ _ _ _ _ _ _ _ h _ => by
  obtain ⟨n, rfl, rfl⟩ := DataW.trod_bool ht h
  exact ⟨_, All2.cons (PC.v _ rfl) All2.nil, n, rfl⟩⟩
theorem size_of_toList (s : ByteArray) : s.data.toList.length = s.size := by rw [Array.length_toList]; rfl
theorem sh_string {t : TypeId} (ht : Try.prog.underlying t = some .string) : Sh t (fun avs => ∃ s : ByteArray, avs = [.v (.string s)] ∧ s.size ≤ 140737488355328) := ⟨fun _ _ _ _ _ _ _ _ h hw => by
  obtain ⟨s, rfl, rfl, _⟩ := DataW.trod_string ht h
  refine ⟨_, All2.cons (PC.v _ rfl) All2.nil, s, rfl, ?_⟩
  have := hw s.size (by simp [DataW.weights])
  have hr : reachBytes ≤ 140737488355328 := by decide
  omega⟩

def Cat : List (List AV → Prop) → List AV → Prop
  | [], avs => avs = []
  | S :: Ss, avs => ∃ a b, avs = a ++ b ∧ S a ∧ Cat Ss b

/-- The fields' types, one behind the other, and how many cells they are. -/
def Contig : Nat → List Field → Nat → Prop
  | o, [], m => o = m
  | o, f :: fs, m => f.offset = o ∧ Contig (o + Try.prog.cellsOf f.type) fs m
def contigB (c : TypeId → Nat) : Nat → List Field → Nat → Bool
  | o, [], m => Nat.beq o m
  | o, f :: fs, m => Nat.beq f.offset o && contigB c (o + c f.type) fs m
theorem contig_of : ∀ {o : Nat} {fs : List Field} {m : Nat}, contigB Try.prog.cellsOf o fs m = true → Contig o fs m
  | _, [], _, h => Nat.eq_of_beq_eq_true h
  | _, _ :: _, _, h => by
    simp only [contigB, Bool.and_eq_true] at h
    exact ⟨Nat.eq_of_beq_eq_true h.1, contig_of h.2⟩
inductive ShL : List TypeId → List (List AV → Prop) → Prop where
  | nil : ShL [] []
  | cons {t : TypeId} {S : List AV → Prop} {ts : List TypeId} {Ss : List (List AV → Prop)} (h : Sh t S) (hs : ShL ts Ss) : ShL (t :: ts) (S :: Ss)

theorem sh_fields {H : Type} {enc : TypeId × Value → H} {w : World} {spare : Nat → Bool} {held : Bool} {fuel : Nat} {cs : List Value} : ∀ (fs : List Field) (xs : List (DataW H × List MemPlace)) (Ss : List (List AV → Prop)) (o : Nat), Contig o fs cs.length → xs.length = fs.length →
    (∀ (i : Nat) (f : Field), fs[i]? = some f → DataW.trod enc Try.prog w 0 spare held fuel f.type ((cs.drop f.offset).take (Try.prog.cellsOf f.type)) = xs[i]?) → ShL (fs.map (·.type)) Ss → (∀ n ∈ DataW.weightsEach Try.prog (fs.map (·.type)) (xs.map (·.1)), n ≤ reachBytes) →
    ∃ avs, All2 (PC w (allOf w)) avs (cs.drop o) ∧ Cat Ss avs
  | [], xs, Ss, o, hc, hl, _, hs, _ => by
    cases hs
    refine ⟨[], ?_, rfl⟩
    rw [List.drop_eq_nil_of_le (by simp only [Contig] at hc; omega)]
    exact All2.nil
  | f :: fs, xs, _, o, hc, hl, hg, hs, hw => by
    cases hs with
    | cons hS hs' =>
      cases xs with
      | nil => simp at hl
      | cons x xs =>
        obtain ⟨ho, hc'⟩ := hc
        have g0 := hg 0 f rfl
        rw [ho] at g0
        simp only [List.map_cons, DataW.weightsEach, List.mem_append] at hw
        obtain ⟨a, ha, hSa⟩ := hS.h _ _ _ _ _ _ _ _ g0 (fun n hn => hw n (.inl hn))
        obtain ⟨b, hb, hSb⟩ := sh_fields fs xs _ (o + Try.prog.cellsOf f.type) hc' (by simpa using hl) (fun i g hi => hg (i + 1) g (by simpa using hi)) hs' (fun n hn => hw n (.inr hn))
        refine ⟨a ++ b, ?_, a, b, rfl, hSa, hSb⟩
        have e : cs.drop o = (cs.drop o).take (Try.prog.cellsOf f.type) ++ cs.drop (o + Try.prog.cellsOf f.type) := by
          rw [← List.drop_drop, List.take_append_drop]
        rw [e]
        exact All2.app ha hb

theorem sh_struct {t : TypeId} {fs : Array Field} {Ss : List (List AV → Prop)} (ht : Try.prog.underlying t = some (.struct fs)) (hc0 : contigB Try.prog.cellsOf 0 fs.toList (Try.prog.cellsOf t) = true) {ts : List TypeId} (hts : fs.toList.map (·.type) = ts) (hs : ShL ts Ss) : Sh t (Cat Ss) := ⟨fun _ _ _ _ _ _ _ _ h hw => by
  subst hts
  have hc := contig_of hc0
  obtain ⟨xs, m, _, rfl, hlen, hxl, hg⟩ := DataW.trod_struct ht h
  rw [← hlen] at hc
  obtain ⟨avs, h1, h2⟩ := sh_fields fs.toList xs Ss 0 hc (by simpa using hxl) (fun i f hf => hg i f (by simpa using hf)) hs (by simpa [DataW.weights, ht] using hw)
  exact ⟨avs, by simpa using h1, h2⟩⟩

theorem sh_array {t e : TypeId} {n s : Nat} {S : List AV → Prop} (ht : Try.prog.underlying t = some (.array n e)) (hc : Try.prog.cellsOf t = n * s) (he : Try.prog.cellsOf e = s) (hs : Sh e S) : Sh t (Cat (List.replicate n S)) := by
  refine ⟨fun H enc w spare held fuel cs x h hw => ?_⟩
  obtain ⟨xs, m, _, rfl, hlen, hxl, hg⟩ := DataW.trod_array ht h
  rw [he] at hg
  simp only [DataW.weights, ht] at hw
  have main : ∀ (k o : Nat) (xs : List (DataW H × List MemPlace)), xs.length = k → cs.length = (o + k) * s → (∀ i, i < k → DataW.trod enc Try.prog w 0 spare held m e ((cs.drop ((o + i) * s)).take s) = xs[i]?) → (∀ n ∈ DataW.weightsAll Try.prog e (xs.map (·.1)), n ≤ reachBytes) →
      ∃ avs, All2 (PC w (allOf w)) avs (cs.drop (o * s)) ∧ Cat (List.replicate k S) avs := by
    intro k
    induction k with
    | zero =>
      intro o xs _ hl _ _
      refine ⟨[], ?_, rfl⟩
      rw [List.drop_eq_nil_of_le (by rw [hl]; simp)]
      exact All2.nil
    | succ k ih =>
      intro o xs hx hl hg hw
      cases xs with
      | nil => simp at hx
      | cons x xs =>
        simp only [List.map_cons, DataW.weightsAll, List.mem_append] at hw
        obtain ⟨a, ha, hSa⟩ := hs.h _ _ _ _ _ _ _ _ (hg 0 (by omega)) (fun n hn => hw n (.inl hn))
        obtain ⟨b, hb, hSb⟩ := ih (o + 1) xs (by simpa using hx) (by rw [hl, show o + (k + 1) = o + 1 + k by omega]) (fun i hi => by have := hg (i + 1) (by omega); rw [show o + 1 + i = o + (i + 1) by omega]; simpa using this) (fun n hn => hw n (.inr hn))
        refine ⟨a ++ b, ?_, a, b, rfl, hSa, hSb⟩
        have e1 : cs.drop (o * s) = (cs.drop (o * s)).take s ++ cs.drop ((o + 1) * s) := by
          rw [show (o + 1) * s = o * s + s by rw [Nat.add_mul, Nat.one_mul], ← List.drop_drop, List.take_append_drop]
        rw [e1]
        exact All2.app (by simpa using ha) hb
  obtain ⟨avs, h1, h2⟩ := main n 0 xs hxl (by rw [hlen, hc, Nat.zero_add]) (fun i hi => by simpa using hg i hi) hw
  exact ⟨avs, by simpa using h1, h2⟩

theorem cells_of {w : World} {a : Addr} {s : Nat} {cs : List Value} (h : w.cells? 0 a s = some cs) : cs.length = s ∧ ∀ i, i < s → w.cell? (a.add i) = cs[i]? := by
  unfold World.cells? at h
  rw [if_pos (Nat.zero_le _)] at h
  refine ⟨by simpa using mapM_some_length h, fun i hi => mapM_some_get h i i (by simp [hi])⟩

theorem add_add (a : Addr) (i j : Nat) : (a.add i).add j = a.add (i + j) := by
  unfold Addr.add
  by_cases hi : i = 0
  · subst hi; simp
  · by_cases hj : j = 0
    · subst hj; simp [hi]
    · simp [hi, hj, Nat.add_assoc]
theorem add_lit {b o j : Nat} : (⟨b, o, none⟩ : Addr).add j = ⟨b, o + j, none⟩ := by
  unfold Addr.add
  split
  · rename_i h; subst h; rfl
  · rfl
theorem flat_els {α : Type} [Inhabited α] (c : α → List AV) : ∀ l : List α, flat l.length (elsF c l) = l.flatMap c
  | [] => rfl
  | a :: l => by
    show elsF c (a :: l) 0 ++ flat l.length (fun i => elsF c (a :: l) (i + 1)) = _
    rw [List.flatMap_cons, ← flat_els c l]
    rfl
theorem sh_slice {t e : TypeId} {s : Nat} {α : Type} [Inhabited α] {c : α → List AV} {good : α → Prop} (sc : Bool) (ht : Try.prog.underlying t = some (.slice e)) (he : Try.prog.cellsOf e = s) (hs0 : 0 < s) (hb : 0 < Try.prog.bytesOf e) (hlen : ∀ a, (c a).length = s) (hsc : sc = true → ∀ a, ∀ x ∈ c a, ∃ y, x = .v y)
    (hs : Sh e (fun avs => ∃ a, avs = c a ∧ good a)) : Sh t (fun avs => ∃ l : List α, avs = [.sl s l.length sc (elsF c l)] ∧ (∀ a ∈ l, good a) ∧ l.length ≤ 140737488355328) := by
  refine ⟨fun H enc w spare held fuel cs x h hw => ?_⟩
  rcases DataW.trod_slice ht h with ⟨rfl, rfl⟩ | ⟨a, len, cap, elems, rest, n, _, rfl, rfl, _, hlc, hcm, hel, hg, _, _⟩
  · refine ⟨[.sl s 0 sc (elsF c [])], All2.cons (.sl s 0 sc _ none 0 [] hs0 (Nat.le_refl _) (Nat.zero_le _) (by simp) (fun i hi => absurd hi (Nat.not_lt_zero _)) (fun _ x hx => by simp [flat] at hx) (fun i x u hx => by simp [flat] at hx) (.inl rfl)) All2.nil, [], rfl, (fun a ha => by cases ha), Nat.zero_le _⟩
  · rw [he] at hg
    simp only [DataW.weights, ht] at hw
    have hwb := hw ((elems.length + rest.length) * Try.prog.bytesOf e) (by simp)
    have hr : reachBytes ≤ 140737488355328 := by decide
    have hlm : elems.length ≤ 140737488355328 := by
      have : elems.length * 1 ≤ (elems.length + rest.length) * Try.prog.bytesOf e := Nat.mul_le_mul (Nat.le_add_right _ _) hb
      omega
    have hwe : ∀ n ∈ DataW.weightsAll Try.prog e (elems.map (·.1)), n ≤ reachBytes := fun n hn => hw n (by simp only [List.mem_cons, List.mem_append] at hn ⊢; simp [hn])
    have main : ∀ (k o : Nat) (elems : List (DataW H × List MemPlace)), elems.length = k → (∀ i, i < k → (w.cells? 0 (a.add ((o + i) * s)) s).bind (DataW.trod enc Try.prog w 0 spare held n e) = elems[i]?) → (∀ n ∈ DataW.weightsAll Try.prog e (elems.map (·.1)), n ≤ reachBytes) →
        ∃ (l : List α) (us : List Value), l.length = k ∧ us.length = k * s ∧ (∀ a ∈ l, good a) ∧ All2 (PC w (allOf w)) (l.flatMap c) us ∧ ∀ (j : Nat) (u : Value), us[j]? = some u → w.cell? (a.add (o * s + j)) = some u := by
      intro k
      induction k with
      | zero => intro o elems _ _ _; exact ⟨[], [], rfl, by simp, (fun a ha => by cases ha), All2.nil, fun j u hj => by simp at hj⟩
      | succ k ih =>
        intro o elems hl hg hw
        cases elems with
        | nil => simp at hl
        | cons x xs =>
          simp only [List.map_cons, DataW.weightsAll, List.mem_append] at hw
          obtain ⟨l, us, h1, h2, h3, h4, h5⟩ := ih (o + 1) xs (by simpa using hl) (fun i hi => by have := hg (i + 1) (by omega); rw [show o + 1 + i = o + (i + 1) by omega]; simpa using this) (fun n hn => hw n (.inr hn))
          have g0 := hg 0 (by omega)
          simp only [Nat.add_zero, List.getElem?_cons_zero, Option.bind_eq_some_iff] at g0
          obtain ⟨ds, hd1, hd2⟩ := g0
          obtain ⟨avs, ha, a0, rfl, hg0⟩ := hs.h _ _ _ _ _ _ _ _ hd2 (fun n hn => hw n (.inl hn))
          obtain ⟨hdl, hdc⟩ := cells_of hd1
          refine ⟨a0 :: l, ds ++ us, by simp [h1], by simp [hdl, h2, Nat.add_mul, Nat.add_comm], ?_, by simpa using All2.app ha h4, fun j u hj => ?_⟩
          · intro a ha
            rcases List.mem_cons.1 ha with rfl | ha
            · exact hg0
            · exact h3 a ha
          · by_cases hjs : j < s
            · rw [List.getElem?_append_left (by omega)] at hj
              have := hdc j hjs
              rw [hj] at this
              rw [← this, ← add_add a]
            · rw [List.getElem?_append_right (by omega), hdl] at hj
              have := h5 _ _ hj
              rw [← this, show (o + 1) * s + (j - s) = o * s + j by rw [Nat.add_mul]; omega]
    obtain ⟨l, us, h1, h2, h3, h4, h5⟩ := main elems.length 0 elems rfl (fun i hi => by simpa using hg i (by omega)) hwe
    have hfl : flat len (elsF c l) = l.flatMap c := by
      rw [← hel, ← h1]
      exact flat_els c l
    refine ⟨[.sl s len sc (elsF c l)], All2.cons (.sl s len sc _ (some a) cap us hs0 hlc hcm (by rw [h2, hel]) (fun i _ => hlen _) (fun hsct x hx => ?_) (fun i x u hx hu => ?_) ?_) All2.nil, l, by rw [h1, hel], h3, by omega⟩
    · rw [hfl] at hx
      obtain ⟨a0, _, hx⟩ := List.mem_flatMap.1 hx
      exact hsc hsct a0 x hx
    · rw [hfl] at hx
      exact h4.2 i x u hx hu
    · by_cases h0 : len = 0
      · exact .inl h0
      · obtain ⟨b, o, sp⟩ := a
        have hpos : 0 < us.length := by rw [h2, hel]; exact Nat.mul_pos (by omega) hs0
        have c0 := h5 0 _ (List.getElem?_eq_getElem hpos)
        have hsp : sp = none := by simpa [Addr.add] using World.cell?_spot c0
        subst hsp
        refine .inr ⟨b, o, rfl, ?_, fun j u hj => ?_⟩
        · rcases Nat.lt_or_ge b w.heap.size with h | h
          · exact h
          · exfalso
            unfold World.cell? at c0
            rw [Array.getElem?_eq_none (by simpa [Addr.add] using h)] at c0
            cases c0
        · have := h5 j u hj
          rw [Nat.zero_mul, Nat.zero_add] at this
          rw [← this, add_lit]
section
variable {H : Type} {enc : TypeId × Value → H} {w : World} {spare : Nat → Bool} {held : Bool} {v : Value} {d : DataW H} {p : List MemPlace} {r : Reach} {b0 : Nat}
/-- An argument of one cell; one that is a struct or an array. -/
theorem arg_one {t : TypeId} {S : List AV → Prop} (hs : Sh t S) (h1 : ∀ avs, S avs → avs.length = 1) (h : DataW.Trod enc Try.prog w 0 spare held t v d p) (hw : ∀ n ∈ d.weights Try.prog t, n ≤ reachBytes) (hv : v.cells.toList = [v]) : ∃ x, S [x] ∧ C1 ⟨w, allOf w, fun _ => undef⟩ x v := by
  obtain ⟨fuel, hf⟩ := h
  obtain ⟨avs, ha, hS⟩ := hs.h _ _ _ _ _ _ _ _ hf hw
  match avs, h1 avs hS with
  | [x], _ =>
    rw [hv] at ha
    exact ⟨x, hS, C1.of0 (C0.ofPC (X := ⟨w, allOf w, fun _ => undef⟩) (ha.2 0 x v rfl rfl))⟩
theorem arg_agg {t : TypeId} {S : List AV → Prop} (hs : Sh t S) (h : DataW.Trod enc Try.prog w 0 spare held t v d p) (hw : ∀ n ∈ d.weights Try.prog t, n ≤ reachBytes) (hv : ∃ cs, v = .agg cs) : ∃ xs, S xs ∧ C1 ⟨w, allOf w, fun _ => undef⟩ (.agg xs) v := by
  obtain ⟨cs, rfl⟩ := hv
  obtain ⟨fuel, hf⟩ := h
  obtain ⟨avs, ha, hS⟩ := hs.h _ _ _ _ _ _ _ _ hf hw
  exact ⟨avs, hS, cs.toList, rfl, (show All2 (PC w (allOf w)) avs cs.toList from ha).imp fun _ _ h => C0.ofPC (X := ⟨w, allOf w, fun _ => undef⟩) h⟩

end

theorem weights_at {H : Type} {ts : List TypeId} {ds : List (DataW H)} (h : (DataW.weightsEach Try.prog ts ds).all (· ≤ reachBytes) = true) {j : Nat} {t : TypeId} {d : DataW H} (ht : ts[j]? = some t) (hd : ds[j]? = some d) :
    ∀ n ∈ d.weights Try.prog t, n ≤ reachBytes := fun n hn => by
  simpa using List.all_eq_true.1 h _ (DataW.weights_mem_each ht hd n hn)

/-- A contract of a law gives the walk that its frame asks. -/
theorem walk_of {f : FuncId} {avs : List AV} (h : ASpec Try.prog f avs (.v (.bool true)) []) {W : World} {args : List Value} (ha : All2 (C1 ⟨W, allOf W, fun _ => undef⟩) avs args) :
    Calls Try.prog f args.toArray W fun e W' => e = .returned (.bool true) ∧ Below W.heap.size W W' :=
  (h.2 W (allOf W) args (fun _ hb => hb) ha).mono fun e W' ⟨u, ρ, h1, h2, h3, _⟩ => ⟨by rw [h1, show u = .bool true from h3], h2⟩
end Go.Proofs.Ytihjfndkgmjanaa
