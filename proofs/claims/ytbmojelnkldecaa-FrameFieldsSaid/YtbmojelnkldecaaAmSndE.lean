/-
  The abstract machine is right: literals, appends, pieces of slices.
-/
import Derived.Test.YtbmojelnkldecaaAmSndD
import Derived.Laws.OwnMore
namespace Go.Proofs.Ytbmojelnkldecaa
open Go.RowKit

section
variable {P : Program} {L : Lay} {g : Base} {N : Nat} {bs : List (Array Value)} {ρ : Nat → Value} {a : Act} {w : World} {st : AS}

/-- The parts of a literal, read out of the frame. -/
theorem parts_ev (R : Rel g N bs ρ a w st) (parts : Array (Nat × Operand)) :
    (parts.toList.map fun p => (p.1, st.ev p.2)).length = ((parts.map fun (i, x) => (i, a.eval x)).toList).length ∧
    ∀ (i : Nat) (p : Nat × AV) (q : Nat × Value), (parts.toList.map fun p => (p.1, st.ev p.2))[i]? = some p → ((parts.map fun (i, x) => (i, a.eval x)).toList)[i]? = some q → p.1 = q.1 ∧ C2 (cxOf g w ρ st.heap) p.2 q.2 := by
  refine ⟨by simp, fun i p q hp hq => ?_⟩
  rw [List.getElem?_map] at hp
  rw [Array.toList_map, List.getElem?_map] at hq
  cases hx : parts.toList[i]? with
  | none => rw [hx] at hp; cases hp
  | some y =>
    rw [hx] at hp hq
    cases hp
    cases hq
    exact ⟨rfl, R.ev y.2⟩

theorem mapM_places (hL : LayOk P L) (w : World) : ∀ {fields : List Field} {pl : List (Nat × Nat)}, placesOf L (fields.map fun f => (f.offset, f.type)) = some pl →
    (fields.mapM fun f => (do pure (f.offset, ← sizeOf f.type) : Sem (Nat × Nat))).run P w = .ok pl w
  | [], pl, h => by
    simp only [List.map_nil, placesOf, Option.some.injEq] at h
    subst h
    simp
  | f :: r, pl, h => by
    simp only [List.map_cons, placesOf] at h
    cases hi : layGet L f.type with
    | none => rw [hi] at h; cases h
    | some i =>
      cases hr : placesOf L (r.map fun f => (f.offset, f.type)) with
      | none => rw [hi, hr] at h; cases h
      | some l =>
        rw [hi, hr] at h
        simp only [Option.some.injEq] at h
        subst h
        have ih := mapM_places hL w hr
        simp only [List.mapM_cons, Sem.run_bind, run_size hL hi, Result.andThen_ok, Sem.run_pure, ih]

theorem zero_all {X : CX} (l : List Value) : All2 (C0 X) (l.map .v) l := All2.vs l

theorem abuild_run (hL : LayOk P L) (R : Rel g N bs ρ a w st) {t : TypeId} {parts : Array (Nat × Operand)} {K : AV → Prop} (h : abuild L st.heap t (parts.toList.map fun p => (p.1, st.ev p.2)) K) :
    ∃ y u, K y ∧ C2 (cxOf g w ρ st.heap) y u ∧ (Instr.build t (parts.map fun (i, x) => (i, a.eval x))).run P w = .ok u w := by
  obtain ⟨hpl, hpp⟩ := parts_ev R parts
  unfold abuild at h
  split at h
  · rename_i ti hti
    obtain ⟨z, hz, hzc⟩ := run_zero hL hti w
    have h0 : All2 (C0 (cxOf g w ρ st.heap)) (ti.zero.map .v) z.cells.toList := by rw [hzc]; exact zero_all _
    split at h
    · rename_i fs hk
      obtain ⟨fields, hu, hmap⟩ := struct_fields hL hti hk
      split at h
      · rename_i pl hplc
        split at h
        · rename_i cs hfill
          obtain ⟨cells', hf, ha⟩ := fill_ok R h0 hpl hpp hfill
          refine ⟨_, .agg cells', h, ⟨cells'.toList, by simp, ha⟩, ?_⟩
          rw [← hmap] at hplc
          have hm := mapM_places hL w hplc
          have hm' : (fields.mapM fun f => (do pure (f.offset, ← sizeOf f.type) : Sem (Nat × Nat))).run P w = .ok pl.toArray w := by
            rw [Array.mapM_eq_mapM_toList]
            simp only [Sem.run_map, hm, Result.andThen_ok]
          have hg : (fun (x : Nat) => pl.toArray[x]?) = (fun (x : Nat) => pl[x]?) := by funext x; simp
          simp only [Instr.build, Sem.run_bind, hz, Result.andThen_ok, run_underlying hu, hm']
          rw [hg, hf]
          rfl
        · exact h.elim
      · exact h.elim
    · rename_i n e hk
      have hu := array_of hL hti hk
      split at h
      · rename_i ei hei
        split at h
        · rename_i cs hfill
          obtain ⟨cells', hf, ha⟩ := fill_ok R h0 hpl hpp hfill
          refine ⟨_, .agg cells', h, ⟨cells'.toList, by simp, ha⟩, ?_⟩
          simp only [Instr.build, Sem.run_bind, hz, Result.andThen_ok, run_underlying hu, run_size hL hei, hf]
          rfl
        · exact h.elim
      · exact h.elim
    · exact h.elim
  · exact h.elim

theorem repL_map (z : List Value) : ∀ n, ∃ us : List Value, repL (z.map .v) n = us.map .v ∧ us = (List.replicate n z).flatten
  | 0 => ⟨[], rfl, rfl⟩
  | n + 1 => by
    obtain ⟨us, h1, h2⟩ := repL_map z n
    exact ⟨z ++ us, by simp [repL, h1], by rw [h2, List.replicate_succ, List.flatten_cons]⟩

/-- The zero cells of a literal's row. -/
theorem zeros_eq (z : Array Value) (s : Nat) (hz : z.size = s) : ∀ n, ((Array.range (n * s)).map (z[· % z.size]!)).toList = (List.replicate n z.toList).flatten := by
  intro n
  induction n with
  | zero => simp
  | succ n ih =>
    rw [List.replicate_succ', List.flatten_append, ← ih]
    have e : (Array.range ((n + 1) * s)).toList = (Array.range (n * s)).toList ++ (List.range s).map (n * s + ·) := by
      rw [Array.toList_range, Array.toList_range, Nat.succ_mul, List.range_add]
    rw [Array.toList_map, e, List.map_append, Array.toList_map]
    congr 1
    simp only [List.map_map, List.flatten_cons, List.flatten_nil, List.append_nil]
    apply List.ext_getElem
    · simp [hz]
    · intro i h1 h2
      simp only [List.length_map, List.length_range] at h1
      simp [hz, Nat.add_comm (n * s) i, getElem!_pos, h1, Nat.add_mul_mod_self_right, Nat.mod_eq_of_lt h1]

theorem abuildSlice_run (hL : LayOk P L) (R : Rel g N bs ρ a w st) {d : Nat} {t : TypeId} {n : Nat} {parts : Array (Nat × Operand)} {K : AV → AS → Prop} (h : abuildSlice L d st t n (parts.toList.map fun p => (p.1, st.ev p.2)) K) :
    ∃ y u st' ρ' w', K y st' ∧ Rel g N bs ρ' a w' st' ∧ C2 (cxOf g w' ρ' st'.heap) y u ∧ (Instr.buildSlice t n (parts.map fun (i, x) => (i, a.eval x))).run P w = .ok u w' := by
  obtain ⟨hpl, hpp⟩ := parts_ev R parts
  unfold abuildSlice at h
  split at h
  · rename_i ti hti
    split at h
    · rename_i e hk
      have hu := slice_of hL hti hk
      split at h
      · rename_i ei hei
        cases hb : (Nat.ble 1 ei.size && Nat.beq ei.zero.length ei.size && Nat.ble (n * ei.size) 65536) with
        | false => rw [hb] at h; exact h.elim
        | true =>
          rw [hb] at h
          simp only [cond_true] at h
          simp only [Bool.and_eq_true] at hb
          obtain ⟨⟨hb1, hb2⟩, hb3⟩ := hb
          have hs := Nat.le_of_ble_eq_true hb1
          have hzl := Nat.eq_of_beq_eq_true hb2
          have hbig := Nat.le_of_ble_eq_true hb3
          obtain ⟨z, hz, hzc⟩ := run_zero hL hei w
          have hzs : z.cells.size = ei.size := by rw [← Array.length_toList, hzc]; exact hzl
          split at h
          · rename_i cs hfill
            have hcells : All2 (C0 (cxOf g w ρ st.heap)) (repL (ei.zero.map .v) n) ((Array.range (n * ei.size)).map (z.cells[· % z.cells.size]!)).toList := by
              obtain ⟨us, h1, h2⟩ := repL_map ei.zero n
              rw [h1, zeros_eq z.cells ei.size hzs n, hzc, ← h2]
              exact zero_all us
            obtain ⟨cells', hf, ha⟩ := fill_ok R hcells hpl hpp hfill
            cases hp : cs.all pureB with
            | false => rw [hp] at h; exact h.elim
            | true =>
              rw [hp] at h
              simp only [cond_true] at h
              have hlen : cs.length = n * ei.size := by
                have := fill_len hfill
                rw [this]
                have := hcells.1
                simpa using this
              have hfl := flat_chunk (s := ei.size) hlen
              have hpc : All2 (PC w (keepOf g w ρ st.heap)) (flat n (chunk ei.size cs)) cells'.toList := by
                rw [hfl]
                exact ⟨ha.1, fun i x u hx hu => pure_of (ha.2 i x u hx hu) (List.all_eq_true.1 hp x (List.mem_of_getElem? hx))⟩
              have hn : n ≤ n * ei.size := Nat.le_mul_of_pos_right n hs
              have hR := R.newRow d e (sc := cs.all isV) hs (by simp only [maxLen]; omega) (chunk_len hlen) (fun hv x hx => by
                rw [hfl] at hx
                have := List.all_eq_true.1 hv x hx
                cases x <;> first | exact ⟨_, rfl⟩ | (simp [isV] at this)) hpc
              refine ⟨_, .slice (some ⟨w.heap.size, 0, none⟩) n n, _, _, _, h, hR, by simp [C2, C1, C0, cxOf, reρ], ?_⟩
              have hbig' : ¬ n * ei.size > 2 ^ 24 := by omega
              by_cases h00 : n * ei.size = 0
              · have : n = 0 := by
                  rcases Nat.mul_eq_zero.1 h00 with h | h
                  · exact h
                  · omega
                subst this
                have hf0 : Instr.fill (fun i => some (i * ei.size, ei.size)) ((Array.range (0 * ei.size)).map ((#[] : Array Value)[· % (#[] : Array Value).size]!)) (parts.map fun (i, x) => (i, a.eval x)).toList = some cells' := by
                  have hz0 : ∀ F : Nat → Value, (Array.range (0 * ei.size)).map F = #[] := by intro F; simp
                  rw [hz0] at hf ⊢
                  exact hf
                simp only [Instr.buildSlice, Sem.run_bind, run_underlying hu, Result.andThen_ok, run_size hL hei, if_neg hbig', Sem.run_pure, if_pos h00, hf0]
                simp [newRow]
              · simp only [Instr.buildSlice, Sem.run_bind, run_underlying hu, Result.andThen_ok, run_size hL hei, if_neg hbig', Sem.run_pure, if_neg h00, hz, hf]
                simp [newRow]
          · exact h.elim
      · exact h.elim
    · exact h.elim
  · exact h.elim
where
  fill_len {h : List (Nat × AO)} {place : Nat → Option (Nat × Nat)} : ∀ {parts : List (Nat × AV)} {cs cs' : List AV}, fillA h place cs parts = some cs' → cs'.length = cs.length
    | [], cs, cs', e => by simp only [fillA, Option.some.injEq] at e; rw [e]
    | (i, x) :: r, cs, cs', e => by
      simp only [fillA] at e
      split at e
      · rename_i o s xs _ _
        cases hb : (Nat.beq xs.length s && Nat.ble (o + xs.length) cs.length && xs.all (oneB h)) with
        | false => rw [hb] at e; cases e
        | true =>
          rw [hb] at e
          simp only [cond_true] at e
          simp only [Bool.and_eq_true] at hb
          have := Nat.le_of_ble_eq_true hb.1.2
          rw [fill_len e, splice]
          simp only [List.length_append, List.length_take, List.length_drop]
          omega
      · cases e

theorem PC.cell_one {w : World} {k : Nat → Prop} {x : AV} {u : Value} (h : PC w k x u) : u.oneCell' = true := by
  cases h with
  | v x h => exact h
  | sl => rfl
theorem PC.all_one {w : World} {k : Nat → Prop} {xs : List AV} {us : List Value} (h : All2 (PC w k) xs us) : ∀ u ∈ us, u.oneCell' = true := by
  intro u hu
  obtain ⟨i, hi, rfl⟩ := List.getElem_of_mem hu
  exact PC.cell_one (h.2 i _ _ (List.getElem?_eq_getElem (by rw [h.1]; exact hi)) (List.getElem?_eq_getElem hi))

theorem srcOf_src (hL : LayOk P L) (R : Rel g N bs ρ a w st) {s : Nat} (hs0 : 0 < s) {t : TypeId} {y : AV} {yv : Value} (hy : C2 (cxOf g w ρ st.heap) y yv) {m : Nat} {sc : Bool} {f : Nat → List AV} (h : srcOf L st s t y = some (m, sc, f)) :
    ∃ us, Src P s t yv m us w ∧ All2 (PC w (keepOf g w ρ st.heap)) (flat m f) us ∧ (∀ i, i < m → (f i).length = s) ∧ (sc = true → ∀ x ∈ flat m f, ∃ z, x = .v z) := by
  unfold srcOf at h
  split at h
  · rename_i ti hti
    split at h
    · rename_i e s' n sc' f' hk
      cases hb : Nat.beq s s' with
      | false => rw [hb] at h; cases h
      | true =>
        rw [hb] at h
        obtain rfl := Nat.eq_of_beq_eq_true hb
        simp only [cond_true, Option.some.injEq, Prod.mk.injEq] at h
        obtain ⟨rfl, rfl, rfl⟩ := h
        cases C2.inv_sl hy with
        | sl _ _ _ _ A c us _ hnc hcc hl hfl hsc hu' hr =>
          have hall : All2 (PC w (keepOf g w ρ st.heap)) (flat n f') us := ⟨by rw [hl]; exact flat_len hfl, hu'⟩
          refine ⟨us, ?_, hall, hfl, hsc⟩
          rcases hr with hz | ⟨b, o, rfl, kb, hcell⟩
          · subst hz
            have : us = [] := List.eq_nil_of_length_eq_zero (by simpa using hl)
            subst this
            cases A with
            | none => exact Src.ofNil w (slice_of hL hti hk) c
            | some aa => exact Src.ofSlice w (slice_of hL hti hk) aa 0 c [] (by simp) (by simp) (by simp)
          · exact Src.ofSlice w (slice_of hL hti hk) ⟨b, o, none⟩ n c us hl (fun j u hj => by rw [Addr.add_lit]; exact hcell j u hj) (PC.all_one hall)
    · rename_i e id hk
      split at h
      · rename_i e' s' n sc' f' hfo
        cases hb : Nat.beq s s' with
        | false => rw [hb] at h; cases h
        | true =>
          rw [hb] at h
          obtain rfl := Nat.eq_of_beq_eq_true hb
          simp only [cond_true, Option.some.injEq, Prod.mk.injEq] at h
          obtain ⟨rfl, rfl, rfl⟩ := h
          obtain ⟨us, hown, _, hfl, hsc, ha⟩ := R.objs _ (findObj_mem hfo)
          have hown : w.ownsRow 0 e' s (ρ id) n us := hown
          have ha : All2 (PC w (keepOf g w ρ st.heap)) (flat n f') us := ha
          have hyv : yv = ρ id := C2.inv_own hy
          refine ⟨us, ?_, ha, hfl, hsc⟩
          rcases hown.2 with ⟨hv, hz⟩ | ⟨b, cap, cur, hv, _⟩
          · subst hz
            have : us = [] := List.eq_nil_of_length_eq_zero (by simpa using hown.1)
            subst this
            rw [hyv, hv]
            exact Src.ofNil w (slice_of hL hti hk) 0
          · rw [hyv, hv]
            exact Src.ofSlice w (slice_of hL hti hk) ⟨b, 0, none⟩ n cap us hown.1 (hown.cells (g := b) (by rw [hv]; rfl)) (PC.all_one ha)
      · cases h
    · rename_i e c1 hk
      simp only [Option.some.injEq, Prod.mk.injEq] at h
      obtain ⟨rfl, rfl, rfl⟩ := h
      obtain rfl := C2.inv_v hy
      exact ⟨[], Src.ofNil w (slice_of hL hti hk) c1, All2.nil, fun i hi => absurd hi (by omega), fun _ x hx => by cases hx⟩
    · rename_i b hk
      cases hb : Nat.beq s 1 with
      | false => rw [hb] at h; cases h
      | true =>
        rw [hb] at h
        have := Nat.eq_of_beq_eq_true hb
        subst this
        simp only [cond_true, Option.some.injEq, Prod.mk.injEq] at h
        obtain ⟨rfl, rfl, rfl⟩ := h
        obtain rfl := C2.inv_v hy
        refine ⟨byteCells b, Src.ofString w (str_of hL hti hk) b, ?_, fun _ _ => rfl, fun _ x hx => ?_⟩
        · have := str_all (R := PC w (keepOf g w ρ st.heap)) (fun c => .v _ rfl) b.data.toList
          rw [Array.length_toList] at this
          exact this
        · obtain ⟨i, _, hx⟩ := astore_run.mem_flat.1 hx
          simp only [List.mem_singleton] at hx
          exact ⟨_, hx⟩
    · cases h
  · cases h
where
  str_all {R : AV → Value → Prop} (hR : ∀ c : UInt8, R (.v (.int .u8 (c.toNat : Int))) (.int .u8 (c.toNat : Int))) : ∀ l : List UInt8, All2 R (flat l.length (fun i => [.v (.int .u8 ((l.getD i 0).toNat : Int))])) (l.map fun b => Value.int .u8 b.toNat)
    | [] => All2.nil
    | c :: l => by
      have ih := str_all hR l
      have e : flat (c :: l).length (fun i => [AV.v (.int .u8 (((c :: l).getD i 0).toNat : Int))]) = .v (.int .u8 (c.toNat : Int)) :: flat l.length (fun i => [.v (.int .u8 ((l.getD i 0).toNat : Int))]) := by
        show _ ++ _ = _
        simp
      rw [e]
      exact All2.cons (hR c) ih
end

theorem madeCells_eq (z : Array Value) (s n : Nat) (hz : z.size = s) : (madeCells z (n * s)).toList = (List.replicate n z.toList).flatten := zeros_eq z s hz n
theorem rep_flat (cs : List AV) : ∀ n, flat n (fun _ => cs) = (List.replicate n cs).flatten
  | 0 => rfl
  | n + 1 => by
    show cs ++ flat n (fun _ => cs) = _
    rw [rep_flat cs n, List.replicate_succ, List.flatten_cons]
section
variable {P : Program} {L : Lay} {g : Base} {N : Nat} {bs : List (Array Value)} {ρ : Nat → Value} {a : Act} {w : World} {st : AS}
theorem amake_run (hL : LayOk P L) (R : Rel g N bs ρ a w st) {d : Nat} {t : TypeId} {l c : AV} {lv cv : Value} (hl : C2 (cxOf g w ρ st.heap) l lv) (hc : C2 (cxOf g w ρ st.heap) c cv) {K : AV → AS → Prop} (h : amake L d st t l c K) :
    ∃ y u st' ρ' w', K y st' ∧ Rel g N bs ρ' a w' st' ∧ C2 (cxOf g w' ρ' st'.heap) y u ∧ (Instr.makeSlice t lv cv).run P w = .ok u w' := by
  unfold amake at h
  split at h
  · rename_i ti kl ln kc cn hti
    obtain rfl := C2.inv_v hl
    obtain rfl := C2.inv_v hc
    split at h
    · rename_i e hk
      have hu := slice_of hL hti hk
      split at h
      · rename_i ei hei
        obtain ⟨info, z0, dd, hi1, hi2, hi3, hi4, hi5, hi6, hi7⟩ := fact_of hL hei
        cases hb : ((Nat.ble 1 ei.size && Nat.beq ei.zero.length ei.size) && ei.zero.all (fun x => x.oneCell')) with
        | false => rw [hb] at h; exact h.elim
        | true =>
          rw [hb] at h
          simp only [cond_true] at h
          simp only [Bool.and_eq_true] at hb
          obtain ⟨hb, hone⟩ := hb
          have hs := Nat.le_of_ble_eq_true hb.1
          have hzl := Nat.eq_of_beq_eq_true hb.2
          have hzs : z0.cells.size = ei.size := by rw [← Array.length_toList, hi6]; exact hzl
          have hfl : ∀ (n i : Nat), i < n → ((fun _ => ei.zero.map AV.v : Nat → List AV) i).length = ei.size := fun n i _ => by simp [hzl]
          rcases h with ⟨h0, hc0, hcb, hcm, h⟩ | ⟨h0, hlc, hcb, hcm, h⟩
          · subst h0
            obtain ⟨c, rfl⟩ := Int.eq_ofNat_of_zero_le hc0
            have hcb' : info.bytes * c ≤ 281474976710656 := by rw [hi5, Nat.mul_comm]; have : ((c * ei.bytes : Nat) : Int) ≤ 140737488355328 := (by simpa using hcb); omega
            obtain ⟨w', hrun, hown', hgrow⟩ := run_make_own (P := P) w 0 t e info z0 ei.size hu hi1 hi3 hi4 kl kc c hcb' (by simp only [maxLen]; omega) (Nat.zero_le _)
            refine ⟨_, .slice (some ⟨w.heap.size, 0, none⟩) 0 c, _, reρ ρ d (.slice (some ⟨w.heap.size, 0, none⟩) 0 c), w', h, ?_, by simp [C2, C1, C0, cxOf, reρ], hrun⟩
            refine R.obj d d (R.below.grown hgrow R.below.size (fun k hk => by cases hk)) hgrow.size (fun b hb _ => hgrow.block b hb (by simp)) (fun b hb => ?_) (fun hE => ?_)
            · cases hb; exact .inl (Nat.le_refl _)
            · exact ⟨[], by simpa [cxOf, reρ] using hown', hs, hfl 0, fun _ x hx => by simp [flat] at hx, All2.nil⟩
          · subst hlc
            obtain ⟨c, rfl⟩ := Int.eq_ofNat_of_zero_le h0
            have hcb' : info.bytes * c ≤ 281474976710656 := by rw [hi5, Nat.mul_comm]; have : ((c * ei.bytes : Nat) : Int) ≤ 140737488355328 := (by simpa using hcb); omega
            obtain ⟨w', hrun, hown', hgrow⟩ := run_make_full (P := P) w 0 t e info z0 ei.size hu hi1 hi3 hi4 kl kc c hcb' (by simp only [maxLen]; omega) (Nat.zero_le _)
            rw [Int.toNat_natCast] at h
            refine ⟨_, .slice (some ⟨w.heap.size, 0, none⟩) c c, _, reρ ρ d (.slice (some ⟨w.heap.size, 0, none⟩) c c), w', h, ?_, by simp [C2, C1, C0, cxOf, reρ], hrun⟩
            refine R.obj d d (R.below.grown hgrow R.below.size (fun k hk => by cases hk)) hgrow.size (fun b hb _ => hgrow.block b hb (by simp)) (fun b hb => ?_) (fun hE => ?_)
            · cases hb; exact .inl (Nat.le_refl _)
            · refine ⟨_, by simpa [cxOf, reρ] using hown', hs, hfl c, fun _ x hx => ?_, ?_⟩
              · rw [rep_flat] at hx
                obtain ⟨l, hl, hx⟩ := List.mem_flatten.1 hx
                rw [List.eq_of_mem_replicate hl] at hx
                obtain ⟨y, _, rfl⟩ := List.mem_map.1 hx
                exact ⟨y, rfl⟩
              · rw [rep_flat, madeCells_eq z0.cells ei.size c hzs, hi6]
                obtain ⟨us, h1, h2⟩ := repL_map ei.zero c
                have : (List.replicate c (ei.zero.map AV.v)).flatten = us.map .v := by
                  rw [h2, List.map_flatten, List.map_replicate]
                rw [this, ← h2]
                exact ⟨by simp, fun i x u hx hu => by
                  rw [List.getElem?_map] at hx
                  rw [hu] at hx
                  cases hx
                  refine .v u ?_
                  obtain ⟨l, hl, hm⟩ := List.mem_flatten.1 (show u ∈ (List.replicate c ei.zero).flatten by rw [← h2]; exact List.mem_of_getElem? hu)
                  rw [List.eq_of_mem_replicate hl] at hm
                  exact List.all_eq_true.1 hone u hm⟩
      · exact h.elim
    · exact h.elim
  · exact h.elim
end
end Go.Proofs.Ytbmojelnkldecaa
