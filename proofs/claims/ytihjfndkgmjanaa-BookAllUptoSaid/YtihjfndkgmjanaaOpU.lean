/-
  Arguments whose bulk is bounded, opened; and the frame of a law of which the second form is proved: where what comes in is of bulk 1048576 at most, true comes out, and what came in reads as it did.
-/
import Derived.Test.YtihjfndkgmjanaaOpG
import Derived.Deep.CondSized
import Derived.JoinedCond
namespace Go.Proofs.Ytihjfndkgmjanaa
open Go.ChangeShapes Go.WideShapes Go.ChangeAt Go.RowKit

theorem bulk_one {H : Type} (d : DataW H) : 1 ≤ Rows.uptoBulk d := by
  cases d with
  | lit l => cases l <;> simp [Rows.uptoBulk]
  | _ => simp [Rows.uptoBulk]

set_option maxRecDepth 100000 in
/-- A law's second form. -/
theorem law_upto {H : Type} {enc : TypeId × Value → H} (os : Os) (started : os.Started) (f : FuncId) (fn : Func) (s : ChangeSpec) (F : Stop.Interp) (hvars : s.vars = []) (noInit : Try.prog.inits.idxOf? f = none) (hfn : Try.prog.funcs[f]? = some fn)
    (hres : fn.resultTypes = #[4]) (hparams : ∀ t ∈ fn.params.toList, Try.prog.readableRec t = true ∧ t < Try.prog.types.size)
    (hspec : ∀ ds : List (DataW H), ds.length = fn.params.toList.length → s.fn H ds = { results := [.lit (.bool true)], args := ds })
    (witness : ∃ (w : World) (tape : Tape) (i : Input), w.os = os ∧ (w.forCall tape i).Shaped Try.checked.prog ∧ i.vars = [] ∧ Input.okWide Try.checked.prog (w.forCall tape i) .any w.heap.size f i ∧
      (Rows.OpenSpec.upto s).pre6 enc Try.checked.prog fn [] false (w.forCall tape i).memory i.args ∧ ({} : Assume).holds Try.checked.prog (lone (Frame.enter Try.checked.prog f i.args .normal) [] (w.forCall tape i)))
    (walk : ∀ (W : World) (base : Nat) (args : Array Value) (ds : List (DataW H)) (p : List MemPlace),
      (∀ (j : Nat) t v, fn.params[j]? = some t → args[j]? = some v → Value.okWide Try.prog W .any base t v) →
      DataW.TrodAll enc Try.prog W 0 (fun _ => true) true fn.params.toList args.toList ds p → Rows.uptoBulkAll ds ≤ 1048576 →
      Calls Try.prog f args W fun e W' => e = .returned (.bool true) ∧ Below W.heap.size W W') :
    ReturnsInHanded {} Try.checked os f .any ((Rows.OpenSpec.upto s).pre6 enc Try.prog fn [] false) (((Rows.OpenSpec.upto s).at F).post enc Try.prog fn false true false false) := by
  refine returnsInHanded_of_cond (C := Try.checked) (s := Rows.OpenSpec.upto s) (k := Rows.uptoSmall) rfl own started noInit hfn witness ?_
  intro W base args ds gs before hval0 hW _ hk0 _
  have hval : ∀ (j : Nat) t v, fn.params[j]? = some t → args[j]? = some v → Value.okWide Try.prog W .any base t v := hval0
  have hW' := hW
  have hlt : ∀ x ∈ before, x.block < W.heap.size := fun x hx => by simpa using hW'.lt x hx
  obtain ⟨p, q, hA0, hV, rfl, hfz, hnd⟩ := hW
  have hA : DataW.TrodAll enc Try.prog W 0 (fun _ => true) true fn.params.toList args.toList ds p := hA0
  have hvars' : (Rows.OpenSpec.upto s).vars = [] := hvars
  rw [hvars'] at hV
  obtain ⟨rfl, rfl⟩ := trodVars_none hV
  simp only [List.append_nil] at hW' hlt hk0
  have hk : Rows.uptoBulkAll ds ≤ 1048576 := of_decide_eq_true hk0
  refine (walk W base args ds p hval hA hk).mono fun e W' ⟨he, bel⟩ => ?_
  subst he
  have hlen : ds.length = fn.params.toList.length := law_lifted.trodAll_len fn.params.toList args.toList ds p hA
  have hsp := hspec ds hlen
  refine ⟨_, rfl, ds, [], p, [], p, [], hW', ?_, ?_, ?_, bel.frame _, fun h => by cases h⟩
  · show DataW.TrodAll _ _ _ _ _ _ fn.resultTypes.toList _ (s.fn H (ds ++ [])).results _
    rw [List.append_nil, hsp, hres]
    exact trodAll_mk1 (shut_bool Try.underlying4 _)
  · show DataW.TrodAll _ _ _ _ _ _ fn.params.toList _ (s.fn H (ds ++ [])).args _
    rw [List.append_nil, hsp]
    exact trodAll_below bel _ _ _ _ hparams hA hlt
  · show DataW.TrodVars enc Try.prog W' _ s.vars (s.fn H (ds ++ [])).vars []
    rw [hvars, List.append_nil, hsp]
    rfl

/-- What can be read as data of a type, of some bulk, reads as cells of which S tells. -/
structure ShN (t : TypeId) (S : List AV → Nat → Prop) : Prop where
  mk ::
  h : ∀ (H : Type) (enc : TypeId × Value → H) (w : World) (spare : Nat → Bool) (held : Bool) (fuel : Nat) (cs : List Value) (x : DataW H × List MemPlace),
    DataW.trod enc Try.prog w 0 spare held fuel t cs = some x → ∃ avs, All2 (PC w (allOf w)) avs cs ∧ S avs (Rows.uptoBulk x.1)
theorem ShN.imp {t : TypeId} {S T : List AV → Nat → Prop} (h : ShN t S) (hi : ∀ avs k, S avs k → T avs k) : ShN t T := ⟨fun _ _ _ _ _ _ _ _ h1 => by
  obtain ⟨avs, h3, h4⟩ := h.h _ _ _ _ _ _ _ _ h1
  exact ⟨avs, h3, hi avs _ h4⟩⟩
theorem shn_int {t : TypeId} {k : IntKind} (ht : Try.prog.underlying t = some (.int k)) : ShN t (fun avs _ => ∃ n : Int, avs = [.v (.int k n)] ∧ (Lit.int k n).wf = true) := ⟨fun _ _ _ _ _ _ _ _ h => by
  obtain ⟨n, rfl, rfl, hw⟩ := DataW.trod_int ht h
  exact ⟨_, All2.cons (PC.v _ rfl) All2.nil, n, rfl, hw⟩⟩
theorem shn_bool {t : TypeId} (ht : Try.prog.underlying t = some .bool) : ShN t (fun avs _ => ∃ b : Bool, avs = [.v (.bool b)]) := ⟨fun _ _ _ _ _ _ _ _ h => by
  obtain ⟨n, rfl, rfl⟩ := DataW.trod_bool ht h
  exact ⟨_, All2.cons (PC.v _ rfl) All2.nil, n, rfl⟩⟩
theorem shn_string {t : TypeId} (ht : Try.prog.underlying t = some .string) : ShN t (fun avs k => ∃ s : ByteArray, avs = [.v (.string s)] ∧ s.size + 1 ≤ k) := ⟨fun _ _ _ _ _ _ _ _ h => by
  obtain ⟨s, rfl, rfl, _⟩ := DataW.trod_string ht h
  exact ⟨_, All2.cons (PC.v _ rfl) All2.nil, s, rfl, by simp [Rows.uptoBulk]⟩⟩

def CatN : List (List AV → Nat → Prop) → List AV → Nat → Prop
  | [], avs, _ => avs = []
  | S :: Ss, avs, k => ∃ a b i j, avs = a ++ b ∧ i + j ≤ k ∧ S a i ∧ CatN Ss b j
theorem CatN.le : ∀ {Ss : List (List AV → Nat → Prop)} {avs : List AV} {k k' : Nat}, CatN Ss avs k → k ≤ k' → CatN Ss avs k'
  | [], _, _, _, h, _ => h
  | _ :: _, _, _, _, ⟨a, b, i, j, e, hk, h1, h2⟩, hle => ⟨a, b, i, j, e, by omega, h1, h2⟩
inductive ShLN : List TypeId → List (List AV → Nat → Prop) → Prop where
  | nil : ShLN [] []
  | cons {t : TypeId} {S : List AV → Nat → Prop} {ts : List TypeId} {Ss : List (List AV → Nat → Prop)} (h : ShN t S) (hs : ShLN ts Ss) : ShLN (t :: ts) (S :: Ss)
theorem shn_fields {H : Type} {enc : TypeId × Value → H} {w : World} {spare : Nat → Bool} {held : Bool} {fuel : Nat} {cs : List Value} : ∀ (fs : List Field) (xs : List (DataW H × List MemPlace)) (Ss : List (List AV → Nat → Prop)) (o : Nat), Contig o fs cs.length → xs.length = fs.length →
    (∀ (i : Nat) (f : Field), fs[i]? = some f → DataW.trod enc Try.prog w 0 spare held fuel f.type ((cs.drop f.offset).take (Try.prog.cellsOf f.type)) = xs[i]?) → ShLN (fs.map (·.type)) Ss →
    ∃ avs, All2 (PC w (allOf w)) avs (cs.drop o) ∧ CatN Ss avs (Rows.uptoBulkAll (xs.map (·.1)))
  | [], xs, Ss, o, hc, hl, _, hs => by
    cases hs
    refine ⟨[], ?_, rfl⟩
    rw [List.drop_eq_nil_of_le (by simp only [Contig] at hc; omega)]
    exact All2.nil
  | f :: fs, xs, _, o, hc, hl, hg, hs => by
    cases hs with
    | cons hS hs' =>
      cases xs with
      | nil => simp at hl
      | cons x xs =>
        obtain ⟨ho, hc'⟩ := hc
        have g0 := hg 0 f rfl
        rw [ho] at g0
        obtain ⟨a, ha, hSa⟩ := hS.h _ _ _ _ _ _ _ _ g0
        obtain ⟨b, hb, hSb⟩ := shn_fields fs xs _ (o + Try.prog.cellsOf f.type) hc' (by simpa using hl) (fun i g hi => hg (i + 1) g (by simpa using hi)) hs'
        refine ⟨a ++ b, ?_, a, b, _, _, rfl, by simp only [List.map_cons, Rows.uptoBulkAll]; omega, hSa, hSb⟩
        have e : cs.drop o = (cs.drop o).take (Try.prog.cellsOf f.type) ++ cs.drop (o + Try.prog.cellsOf f.type) := by
          rw [← List.drop_drop, List.take_append_drop]
        rw [e]
        exact All2.app ha hb
theorem shn_struct {t : TypeId} {fs : Array Field} {Ss : List (List AV → Nat → Prop)} (ht : Try.prog.underlying t = some (.struct fs)) (hc0 : contigB Try.prog.cellsOf 0 fs.toList (Try.prog.cellsOf t) = true) {ts : List TypeId} (hts : fs.toList.map (·.type) = ts) (hs : ShLN ts Ss) : ShN t (CatN Ss) := ⟨fun _ _ _ _ _ _ _ _ h => by
  subst hts
  have hc := contig_of hc0
  obtain ⟨xs, m, _, rfl, hlen, hxl, hg⟩ := DataW.trod_struct ht h
  rw [← hlen] at hc
  obtain ⟨avs, h1, h2⟩ := shn_fields fs.toList xs Ss 0 hc (by simpa using hxl) (fun i f hf => hg i f (by simpa using hf)) hs
  exact ⟨avs, by simpa using h1, h2.le (by simp [Rows.uptoBulk])⟩⟩
theorem shn_array {t e : TypeId} {n s : Nat} {S : List AV → Nat → Prop} (ht : Try.prog.underlying t = some (.array n e)) (hc : Try.prog.cellsOf t = n * s) (he : Try.prog.cellsOf e = s) (hs : ShN e S) : ShN t (CatN (List.replicate n S)) := by
  refine ⟨fun H enc w spare held fuel cs x h => ?_⟩
  obtain ⟨xs, m, _, rfl, hlen, hxl, hg⟩ := DataW.trod_array ht h
  rw [he] at hg
  have main : ∀ (k o : Nat) (xs : List (DataW H × List MemPlace)), xs.length = k → cs.length = (o + k) * s → (∀ i, i < k → DataW.trod enc Try.prog w 0 spare held m e ((cs.drop ((o + i) * s)).take s) = xs[i]?) →
      ∃ avs, All2 (PC w (allOf w)) avs (cs.drop (o * s)) ∧ CatN (List.replicate k S) avs (Rows.uptoBulkAll (xs.map (·.1))) := by
    intro k
    induction k with
    | zero =>
      intro o xs _ hl _
      refine ⟨[], ?_, rfl⟩
      rw [List.drop_eq_nil_of_le (by rw [hl]; simp)]
      exact All2.nil
    | succ k ih =>
      intro o xs hx hl hg
      cases xs with
      | nil => simp at hx
      | cons x xs =>
        obtain ⟨a, ha, hSa⟩ := hs.h _ _ _ _ _ _ _ _ (hg 0 (by omega))
        obtain ⟨b, hb, hSb⟩ := ih (o + 1) xs (by simpa using hx) (by rw [hl, show o + (k + 1) = o + 1 + k by omega]) (fun i hi => by have := hg (i + 1) (by omega); rw [show o + 1 + i = o + (i + 1) by omega]; simpa using this)
        refine ⟨a ++ b, ?_, a, b, _, _, rfl, by simp only [List.map_cons, Rows.uptoBulkAll]; omega, hSa, hSb⟩
        have e1 : cs.drop (o * s) = (cs.drop (o * s)).take s ++ cs.drop ((o + 1) * s) := by
          rw [show (o + 1) * s = o * s + s by rw [Nat.add_mul, Nat.one_mul], ← List.drop_drop, List.take_append_drop]
        rw [e1]
        exact All2.app (by simpa using ha) hb
  obtain ⟨avs, h1, h2⟩ := main n 0 xs hxl (by rw [hlen, hc, Nat.zero_add]) (fun i hi => by simpa using hg i hi)
  exact ⟨avs, by simpa using h1, h2.le (by simp [Rows.uptoBulk])⟩

theorem shn_slice {t e : TypeId} {s : Nat} {α : Type} [Inhabited α] {c : α → List AV} {m : α → Nat} (sc : Bool) (ht : Try.prog.underlying t = some (.slice e)) (he : Try.prog.cellsOf e = s) (hs0 : 0 < s) (hlen : ∀ a, (c a).length = s) (hsc : sc = true → ∀ a, ∀ x ∈ c a, ∃ y, x = .v y)
    (_hm : ∀ a, 1 ≤ m a) (hs : ShN e (fun avs k => ∃ a, avs = c a ∧ m a ≤ k)) : ShN t (fun avs k => ∃ l : List α, avs = [.sl s l.length sc (elsF c l)] ∧ (l.map m).sum + 1 ≤ k) := by
  refine ⟨fun H enc w spare held fuel cs x h => ?_⟩
  rcases DataW.trod_slice ht h with ⟨rfl, rfl⟩ | ⟨a, len, cap, elems, rest, n, _, rfl, rfl, _, hlc, hcm, hel, hg, _, _⟩
  · refine ⟨[.sl s 0 sc (elsF c [])], All2.cons (.sl s 0 sc _ none 0 [] hs0 (Nat.le_refl _) (Nat.zero_le _) (by simp) (fun i hi => absurd hi (Nat.not_lt_zero _)) (fun _ x hx => by simp [flat] at hx) (fun i x u hx => by simp [flat] at hx) (.inl rfl)) All2.nil, [], rfl, by simp [Rows.uptoBulk]⟩
  · rw [he] at hg
    have main : ∀ (k o : Nat) (elems : List (DataW H × List MemPlace)), elems.length = k → (∀ i, i < k → (w.cells? 0 (a.add ((o + i) * s)) s).bind (DataW.trod enc Try.prog w 0 spare held n e) = elems[i]?) →
        ∃ (l : List α) (us : List Value), l.length = k ∧ us.length = k * s ∧ (l.map m).sum ≤ Rows.uptoBulkAll (elems.map (·.1)) ∧ All2 (PC w (allOf w)) (l.flatMap c) us ∧ ∀ (j : Nat) (u : Value), us[j]? = some u → w.cell? (a.add (o * s + j)) = some u := by
      intro k
      induction k with
      | zero => intro o elems _ _; exact ⟨[], [], rfl, by simp, by simp, All2.nil, fun j u hj => by simp at hj⟩
      | succ k ih =>
        intro o elems hl hg
        cases elems with
        | nil => simp at hl
        | cons x xs =>
          obtain ⟨l, us, h1, h2, h3, h4, h5⟩ := ih (o + 1) xs (by simpa using hl) (fun i hi => by have := hg (i + 1) (by omega); rw [show o + 1 + i = o + (i + 1) by omega]; simpa using this)
          have g0 := hg 0 (by omega)
          simp only [Nat.add_zero, List.getElem?_cons_zero, Option.bind_eq_some_iff] at g0
          obtain ⟨ds, hd1, hd2⟩ := g0
          obtain ⟨avs, ha, a0, rfl, hg0⟩ := hs.h _ _ _ _ _ _ _ _ hd2
          obtain ⟨hdl, hdc⟩ := cells_of hd1
          refine ⟨a0 :: l, ds ++ us, by simp [h1], by simp [hdl, h2, Nat.add_mul, Nat.add_comm], by simp only [List.map_cons, List.sum_cons, Rows.uptoBulkAll]; omega, by simpa using All2.app ha h4, fun j u hj => ?_⟩
          · by_cases hjs : j < s
            · rw [List.getElem?_append_left (by omega)] at hj
              have := hdc j hjs
              rw [hj] at this
              rw [← this, ← add_add a]
            · rw [List.getElem?_append_right (by omega), hdl] at hj
              have := h5 _ _ hj
              rw [← this, show (o + 1) * s + (j - s) = o * s + j by rw [Nat.add_mul]; omega]
    obtain ⟨l, us, h1, h2, h3, h4, h5⟩ := main elems.length 0 elems rfl (fun i hi => by simpa using hg i (by omega))
    have hfl : flat len (elsF c l) = l.flatMap c := by
      rw [← hel, ← h1]
      exact flat_els c l
    refine ⟨[.sl s len sc (elsF c l)], All2.cons (.sl s len sc _ (some a) cap us hs0 hlc hcm (by rw [h2, hel]) (fun i _ => hlen _) (fun hsct x hx => ?_) (fun i x u hx hu => ?_) ?_) All2.nil, l, by rw [h1, hel], by simp only [Rows.uptoBulk]; omega⟩
    · rw [hfl] at hx
      obtain ⟨a0, _, hx⟩ := List.mem_flatMap.1 hx
      exact hsc hsct a0 x hx
    · rw [hfl] at hx
      exact h4.2 i x u hx hu
    · by_cases h0 : len = 0
      · exact .inl h0
      · obtain ⟨b, o, sp⟩ := a
        have hpos : 0 < us.length := by rw [h2, hel]; exact Nat.mul_pos (by omega) hs0
        have c0 := h5 0 _ (List.getElem?_eq_getElem hpos)
        have hsp : sp = none := by simpa [Addr.add] using World.cell?_spot c0
        subst hsp
        refine .inr ⟨b, o, rfl, ?_, fun j u hj => ?_⟩
        · rcases Nat.lt_or_ge b w.heap.size with h | h
          · exact h
          · exfalso
            unfold World.cell? at c0
            rw [Array.getElem?_eq_none (by simpa [Addr.add] using h)] at c0
            cases c0
        · have := h5 j u hj
          rw [Nat.zero_mul, Nat.zero_add] at this
          rw [← this, add_lit]

section
variable {H : Type} {enc : TypeId × Value → H} {w : World} {spare : Nat → Bool} {held : Bool} {v : Value} {d : DataW H} {p : List MemPlace} {r : Reach} {b0 : Nat}
theorem argn_one {t : TypeId} {S : List AV → Nat → Prop} (hs : ShN t S) (h1 : ∀ avs k, S avs k → avs.length = 1) (h : DataW.Trod enc Try.prog w 0 spare held t v d p) (hv : v.cells.toList = [v]) : ∃ x, S [x] (Rows.uptoBulk d) ∧ C1 ⟨w, allOf w, fun _ => undef⟩ x v := by
  obtain ⟨fuel, hf⟩ := h
  obtain ⟨avs, ha, hS⟩ := hs.h _ _ _ _ _ _ _ _ hf
  match avs, h1 avs _ hS with
  | [x], _ =>
    rw [hv] at ha
    exact ⟨x, hS, C1.of0 (C0.ofPC (X := ⟨w, allOf w, fun _ => undef⟩) (ha.2 0 x v rfl rfl))⟩
end
end Go.Proofs.Ytihjfndkgmjanaa
