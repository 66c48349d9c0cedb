/-
  The abstract machine is right: fields, elements, numbers, texts, conversions.
-/
import Derived.Test.YtbmojelnkldecaaAmSnd
import Derived.WalkLawsBesides
namespace Go.Proofs.Ytbmojelnkldecaa
open Go.RowKit

section
variable {P : Program} {L : Lay} {g : Base} {N : Nat} {bs : List (Array Value)} {ρ : Nat → Value} {a : Act} {w : World} {st : AS}

theorem struct_fields {P : Program} {L : Lay} (hL : LayOk P L) {t : TypeId} {i : TI} {fs : List (Nat × TypeId)} (h : layGet L t = some i) (hk : i.kind = .struct fs) :
    ∃ fields : Array Field, P.underlying t = some (.struct fields) ∧ fields.toList.map (fun f => (f.offset, f.type)) = fs := by
  obtain ⟨info, z, d, h1, h2, h3, h4, h5, h6, h7⟩ := fact_of hL h
  rw [hk] at h7
  cases d <;> simp only [kindOf] at h7 <;> first | (cases h7; done) | skip
  rename_i fields
  exact ⟨fields, h2, by injection h7⟩
theorem array_of {P : Program} {L : Lay} (hL : LayOk P L) {t : TypeId} {i : TI} {n : Nat} {e : TypeId} (h : layGet L t = some i) (hk : i.kind = .array n e) : P.underlying t = some (.array n e) := by
  obtain ⟨info, z, d, h1, h2, h3, h4, h5, h6, h7⟩ := fact_of hL h
  rw [hk] at h7
  cases d <;> simp only [kindOf] at h7 <;> cases h7
  exact h2
theorem slice_of {P : Program} {L : Lay} (hL : LayOk P L) {t : TypeId} {i : TI} {e : TypeId} (h : layGet L t = some i) (hk : i.kind = .slice e) : P.underlying t = some (.slice e) := by
  obtain ⟨info, z, d, h1, h2, h3, h4, h5, h6, h7⟩ := fact_of hL h
  rw [hk] at h7
  cases d <;> simp only [kindOf] at h7 <;> cases h7
  exact h2
theorem str_of {P : Program} {L : Lay} (hL : LayOk P L) {t : TypeId} {i : TI} (h : layGet L t = some i) (hk : i.kind = .str) : P.underlying t = some .string := by
  obtain ⟨info, z, d, h1, h2, h3, h4, h5, h6, h7⟩ := fact_of hL h
  rw [hk] at h7
  cases d <;> simp only [kindOf] at h7 <;> cases h7
  exact h2
theorem int_of {P : Program} {L : Lay} (hL : LayOk P L) {t : TypeId} {i : TI} {k : IntKind} (h : layGet L t = some i) (hk : i.kind = .int k) : P.underlying t = some (.int k) := by
  obtain ⟨info, z, d, h1, h2, h3, h4, h5, h6, h7⟩ := fact_of hL h
  rw [hk] at h7
  cases d <;> simp only [kindOf] at h7 <;> cases h7
  exact h2

theorem field_at {fields : Array Field} {fs : List (Nat × TypeId)} (hf : fields.toList.map (fun f => (f.offset, f.type)) = fs) {i o : Nat} {ft : TypeId} (h : fs[i]? = some (o, ft)) : ∃ f, fields[i]? = some f ∧ f.offset = o ∧ f.type = ft := by
  rw [← hf, List.getElem?_map] at h
  cases hx : fields.toList[i]? with
  | none => rw [hx] at h; cases h
  | some f =>
    rw [hx] at h
    simp only [Option.map_some, Option.some.injEq, Prod.mk.injEq] at h
    exact ⟨f, by simpa using hx, h.1, h.2⟩

theorem afieldAddr_run (hL : LayOk P L) {X : CX} {t : TypeId} {p : AV} {pv : Value} {i : Nat} (hp : C2 X p pv) {K : AV → Prop} (h : afieldAddr L t p i K) (w : World) :
    ∃ x u, K x ∧ C2 X x u ∧ (Instr.fieldAt t pv i).run P w = .ok u w := by
  unfold afieldAddr at h
  split at h
  · rename_i ti hti
    split at h
    · rename_i fs hk
      split at h
      · rename_i o ft hfs
        split at h
        · rename_i fi hfi
          obtain ⟨fields, hu, hmap⟩ := struct_fields hL hti hk
          obtain ⟨f, hf, ho, hft⟩ := field_at hmap hfs
          cases hs : Nat.ble 1 fi.size with
          | false => rw [hs] at h; exact h.elim
          | true =>
            rw [hs] at h
            have h1 := Nat.le_of_ble_eq_true hs
            have hplace : ∀ a : Addr, (fieldPlace a f).run P w = .ok (a.add f.offset) w := by
              intro a
              have := run_size hL hfi w
              rw [← hft] at this
              simp only [fieldPlace, Sem.run_bind, this, Result.andThen_ok]
              rw [if_neg (by omega)]
              rfl
            cases p with
            | box id k =>
              obtain ⟨b, hb, rfl⟩ := C2.inv_box hp
              refine ⟨_, .pointer (some ⟨b, k + o, none⟩), h, ⟨b, hb, rfl⟩, ?_⟩
              simp [Instr.fieldAt, run_underlying hu, hf, Instr.sureAddr, hplace, ho, Addr.add_lit]
            | el cs k =>
              obtain ⟨b, oo, us, rfl, kb, ha, hc⟩ := C2.inv_el hp
              refine ⟨_, .pointer (some ⟨b, oo + (k + o), none⟩), h, ⟨b, oo, us, rfl, kb, ha, hc⟩, ?_⟩
              simp [Instr.fieldAt, run_underlying hu, hf, Instr.sureAddr, hplace, ho, Addr.add_lit, Nat.add_assoc]
            | eown id s j k =>
              obtain ⟨b, n, c, hb, rfl⟩ := C2.inv_eown hp
              refine ⟨_, .pointer (some ⟨b, j * s + (k + o), none⟩), h, ⟨b, n, c, hb, rfl⟩, ?_⟩
              simp [Instr.fieldAt, run_underlying hu, hf, Instr.sureAddr, hplace, ho, Addr.add_lit, Nat.add_assoc]
            | _ => exact h.elim
        · exact h.elim
      · exact h.elim
    · exact h.elim
  · exact h.elim

/-- A part of a struct's or an array's cells. -/
theorem part_run (hL : LayOk P L) {t : TypeId} {i : TI} (hi : layGet L t = some i) {X : CX} {cs : List AV} {k : Nat} {K : AV → Prop} (h : ld i cs k K) {us : List Value} (ha : All2 (C0 X) cs us) (w : World) :
    ∃ x u, K x ∧ C2 X x u ∧ (part t us.toArray k).run P w = .ok u w := by
  unfold ld at h
  cases hg : i.isAgg with
  | true =>
    rw [hg] at h
    simp only [cond_true] at h
    cases hb : Nat.ble (k + i.size) cs.length with
    | false => rw [hb] at h; exact h.elim
    | true =>
      rw [hb] at h
      refine ⟨_, .agg ((us.drop k).take i.size).toArray, h, ⟨_, rfl, (ha.drop k).take i.size⟩, ?_⟩
      simp only [part, Sem.run_bind, run_isAgg' hL hi, hg, Result.andThen_ok, if_true, run_size hL hi, Sem.run_pure]
      congr 2
      apply Array.ext'
      simp
  | false =>
    rw [hg] at h
    simp only [cond_false] at h
    cases hb : Nat.ble (k + 1) cs.length with
    | false => rw [hb] at h; exact h.elim
    | true =>
      rw [hb] at h
      have hle := Nat.le_of_ble_eq_true hb
      have hx : cs[k]? = some (cs.getD k .junk) := by simp [List.getD, List.getElem?_eq_getElem (show k < cs.length by omega)]
      obtain ⟨u, hu, hr⟩ := ha.get hx
      refine ⟨_, u, h, C2.of0 hr, ?_⟩
      simp [part, Sem.run_bind, run_isAgg' hL hi, hg, hu]

theorem afield_run (hL : LayOk P L) {X : CX} {t : TypeId} {p : AV} {pv : Value} {i : Nat} (hp : C2 X p pv) {K : AV → Prop} (h : afield L t p i K) (w : World) :
    ∃ x u, K x ∧ C2 X x u ∧ (Instr.field t pv i).run P w = .ok u w := by
  unfold afield at h
  split at h
  · rename_i ti cs hti
    split at h
    · rename_i fs hk
      split at h
      · rename_i o ft hfs
        split at h
        · rename_i fi hfi
          obtain ⟨fields, hu, hmap⟩ := struct_fields hL hti hk
          obtain ⟨f, hf, ho, hft⟩ := field_at hmap hfs
          obtain ⟨us, rfl, ha⟩ := C2.inv_agg hp
          obtain ⟨x, u, hk', hc, hr⟩ := part_run hL hfi h ha w
          refine ⟨x, u, hk', hc, ?_⟩
          rw [← ho, ← hft] at hr
          simp [Instr.field, run_underlying hu, hf, asAgg, hr]
        · exact h.elim
      · exact h.elim
    · exact h.elim
  · exact h.elim

theorem inB_iff {n : Int} {m : Nat} (h : inB n m = true) : 0 ≤ n ∧ n < (m : Int) := by simpa [inB] using h

theorem PC.at {R : AV → Value → Prop} {s n : Nat} {f : Nat → List AV} {us : List Value} {j : Nat} (h : All2 R (flat n f) us) (hl : ∀ i, i < n → (f i).length = s) (hj : j < n) : All2 R (f j) ((us.drop (j * s)).take s) := aload_run.seg h hl hj

theorem aindexAddr_run (hL : LayOk P L) (R : Rel g N bs ρ a w st) {t : TypeId} {x ix : AV} {xv iv : Value} (hx : C2 (cxOf g w ρ st.heap) x xv) (hix : C2 (cxOf g w ρ st.heap) ix iv) {K : AV → Prop} (h : aindexAddr L st t x ix K) :
    ∃ y u, K y ∧ C2 (cxOf g w ρ st.heap) y u ∧ (Instr.indexAt t xv iv).run P w = .ok u w := by
  unfold aindexAddr at h; simp only [InB_eq] at h
  split at h
  · rename_i ti kk n hti
    obtain rfl := C2.inv_v hix
    split at h
    · rename_i e hk
      have hu := slice_of hL hti hk
      split at h
      · rename_i ei hei
        have hsz := run_size hL hei w
        split at h
        · rename_i s m sc f
          cases hs : Nat.beq s ei.size with
          | false => rw [hs] at h; exact h.elim
          | true =>
            rw [hs] at h
            obtain rfl := Nat.eq_of_beq_eq_true hs
            simp only [cond_true] at h
            cases hb : inB n m with
            | false => rw [hb] at h; exact h.elim
            | true =>
              rw [hb] at h
              obtain ⟨h0, h1⟩ := inB_iff hb
              have hpc := C2.inv_sl hx
              cases hpc with
              | sl _ _ _ _ A c us hs0 hn hc hl hf hsc hu' hr =>
                rcases hr with hz | ⟨b, o, rfl, kb, hcell⟩
                · omega
                · have hj : n.toNat < m := by omega
                  have hseg := PC.at (j := n.toNat) (R := PC w (keepOf g w ρ st.heap)) ⟨by rw [hl]; exact flat_length hf, hu'⟩ hf hj
                  refine ⟨_, .pointer (some ⟨b, o + n.toNat * ei.size, none⟩), h, ⟨b, o + n.toNat * ei.size, _, by rw [Nat.add_zero], kb, hseg, ?_⟩, ?_⟩
                  · intro j y hy
                    rw [List.getElem?_take] at hy
                    split at hy
                    · rw [List.getElem?_drop] at hy
                      rw [Nat.add_assoc]
                      exact hcell _ _ hy
                    · cases hy
                  · simp [Instr.indexAt, asIntOf, run_underlying hu, h0, h1, hsz, Addr.add_lit]
        · rename_i id
          split at h
          · rename_i e' s m sc f hfo
            cases hs : Nat.beq s ei.size with
            | false => rw [hs] at h; exact h.elim
            | true =>
              rw [hs] at h
              obtain rfl := Nat.eq_of_beq_eq_true hs
              simp only [cond_true] at h
              cases hb : inB n m with
              | false => rw [hb] at h; exact h.elim
              | true =>
                rw [hb] at h
                obtain ⟨h0, h1⟩ := inB_iff hb
                obtain ⟨us, hown, hs0, hfl, hsc, ha⟩ := R.objs _ (findObj_mem hfo)
                have hown : w.ownsRow 0 e' ei.size (ρ id) m us := hown
                have hxv : xv = ρ id := C2.inv_own hx
                rcases hown.2 with ⟨_, hz⟩ | ⟨b, cap, cur, hv, hB, hh, _⟩
                · omega
                · rw [hxv, hv]
                  refine ⟨_, .pointer (some ⟨b, n.toNat * ei.size, none⟩), h, ⟨b, m, cap, hv, rfl⟩, ?_⟩
                  simp [Instr.indexAt, asIntOf, run_underlying hu, h0, h1, hsz, Addr.add_lit]
          · exact h.elim
        · exact h.elim
      · exact h.elim
    · rename_i m e hk
      have hu := array_of hL hti hk
      split at h
      · rename_i ei hei
        have hsz := run_size hL hei w
        cases hb : inB n m with
        | false => rw [hb] at h; exact h.elim
        | true =>
          rw [hb] at h
          obtain ⟨h0, h1⟩ := inB_iff hb
          simp only [cond_true] at h
          split at h
          · rename_i id k
            obtain ⟨b, hbb, rfl⟩ := C2.inv_box hx
            refine ⟨_, .pointer (some ⟨b, k + n.toNat * ei.size, none⟩), h, ⟨b, hbb, rfl⟩, ?_⟩
            simp [Instr.indexAt, asIntOf, run_underlying hu, h0, h1, hsz, Addr.add_lit, Instr.sureAddr]
          · rename_i cs k
            obtain ⟨b, o, us, rfl, kb, ha, hc⟩ := C2.inv_el hx
            refine ⟨_, .pointer (some ⟨b, o + (k + n.toNat * ei.size), none⟩), h, ⟨b, o, us, rfl, kb, ha, hc⟩, ?_⟩
            simp [Instr.indexAt, asIntOf, run_underlying hu, h0, h1, hsz, Addr.add_lit, Instr.sureAddr, Nat.add_assoc]
          · rename_i id s j k
            obtain ⟨b, nn, c, hbb, rfl⟩ := C2.inv_eown hx
            refine ⟨_, .pointer (some ⟨b, j * s + (k + n.toNat * ei.size), none⟩), h, ⟨b, nn, c, hbb, rfl⟩, ?_⟩
            simp [Instr.indexAt, asIntOf, run_underlying hu, h0, h1, hsz, Addr.add_lit, Instr.sureAddr, Nat.add_assoc]
          · exact h.elim
      · exact h.elim
    · exact h.elim
  · exact h.elim
where
  flat_length {s : Nat} : ∀ {n : Nat} {f : Nat → List AV}, (∀ i, i < n → (f i).length = s) → (flat n f).length = n * s
    | 0, _, _ => by simp [flat]
    | n + 1, f, h => by
      show (f 0 ++ _).length = _
      rw [List.length_append, h 0 (by omega), flat_length (fun i hi => h (i + 1) (by omega)), Nat.succ_mul, Nat.add_comm]

theorem aindex_run (hL : LayOk P L) {X : CX} {t : TypeId} {x ix : AV} {xv iv : Value} (hx : C2 X x xv) (hix : C2 X ix iv) {K : AV → Prop} (h : aindex L t x ix K) (w : World) :
    ∃ y u, K y ∧ C2 X y u ∧ (Instr.index t xv iv).run P w = .ok u w := by
  unfold aindex at h; simp only [InB_eq] at h
  split at h
  · rename_i ti kk n hti
    obtain rfl := C2.inv_v hix
    split at h
    · rename_i m e cs hk
      have hu := array_of hL hti hk
      obtain ⟨us, rfl, ha⟩ := C2.inv_agg hx
      split at h
      · rename_i ei hei
        cases hb : inB n m with
        | false => rw [hb] at h; exact h.elim
        | true =>
          rw [hb] at h
          obtain ⟨h0, h1⟩ := inB_iff hb
          obtain ⟨y, u, hk', hc, hr⟩ := part_run hL hei h ha w
          refine ⟨y, u, hk', hc, ?_⟩
          simp [Instr.index, asIntOf, run_underlying hu, h0, h1, run_size hL hei, hr]
      · exact h.elim
    · rename_i s hk
      have hu := str_of hL hti hk
      obtain rfl := C2.inv_v hx
      cases hb : inB n s.size with
      | false => rw [hb] at h; exact h.elim
      | true =>
        rw [hb] at h
        obtain ⟨h0, h1⟩ := inB_iff hb
        have hlt : n.toNat < s.size := by omega
        refine ⟨_, _, h, rfl, ?_⟩
        have e1 : s[n.toNat]? = some s[n.toNat] := by simp [hlt]
        have e2 : s.data.toList.getD n.toNat 0 = s[n.toNat] := by
          have hlt' : n.toNat < s.data.toList.length := by rw [Array.length_toList]; exact hlt
          rw [List.getD, List.getElem?_eq_getElem hlt']
          rfl
        rw [e2]
        simp [Instr.index, asIntOf, run_underlying hu, h0, e1]
    · exact h.elim
  · exact h.elim

theorem aextract_run {X : CX} {x : AV} {xv : Value} (hx : C2 X x xv) {i : Nat} {K : AV → Prop} (h : aextract x i K) (w : World) : ∃ y u, K y ∧ C2 X y u ∧ (Instr.extract xv i).run P w = .ok u w := by
  unfold aextract at h
  split at h
  · rename_i vs
    obtain ⟨us, rfl, ha⟩ := C2.inv_tup hx
    split at h
    · rename_i y hy
      obtain ⟨u, hu, hc⟩ := ha.get hy
      exact ⟨y, u, h, C2.of1 hc, by simp [Instr.extract, hu]⟩
    · exact h.elim
  · exact h.elim
end
end Go.Proofs.Ytbmojelnkldecaa
