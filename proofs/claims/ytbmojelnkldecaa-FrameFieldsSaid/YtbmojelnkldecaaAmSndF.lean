/-
  The abstract machine is right: append; a row that is from now on only read; pieces of slices.
-/
import Derived.Test.YtbmojelnkldecaaAmSndE
namespace Go.Proofs.Ytbmojelnkldecaa
open Go.RowKit

section
variable {P : Program} {L : Lay} {g : Base} {N : Nat} {bs : List (Array Value)} {ρ : Nat → Value} {a : Act} {w : World} {st : AS}

theorem blk_own {w : World} {B : Nat} {e : TypeId} {s n : Nat} {v : Value} {us : List Value} (h : w.ownsRow B e s v n us) : blk v = v.ownBlock := by
  rcases h.2 with ⟨rfl, _⟩ | ⟨b, cap, cur, rfl, _⟩ <;> rfl

theorem flat_app : ∀ {n m : Nat} {f f' : Nat → List AV}, flat (n + m) (appF n f f') = flat n f ++ flat m f'
  | 0, m, f, f' => by
    rw [Nat.zero_add]
    exact flat_congr fun i _ => by cases i <;> rfl
  | n + 1, m, f, f' => by
    rw [show n + 1 + m = (n + m) + 1 by omega]
    show appF (n + 1) f f' 0 ++ flat (n + m) (fun i => appF (n + 1) f f' (i + 1)) = f 0 ++ flat n (fun i => f (i + 1)) ++ flat m f'
    have e : (fun i => appF (n + 1) f f' (i + 1)) = appF n (fun i => f (i + 1)) f' := by
      funext i
      unfold appF
      have e1 : Nat.ble (n + 1) (i + 1) = Nat.ble n i := rfl
      rw [e1, show i + 1 - (n + 1) = i - n by omega]
    rw [e, flat_app, List.append_assoc]
    rfl

theorem app_len {s n m : Nat} {f f' : Nat → List AV} (h : ∀ i, i < n → (f i).length = s) (h' : ∀ i, i < m → (f' i).length = s) : ∀ i, i < n + m → (appF n f f' i).length = s := by
  intro i hi
  unfold appF
  cases hb : Nat.ble n i with
  | true => exact h' _ (by have := Nat.le_of_ble_eq_true hb; omega)
  | false =>
    have : ¬ n ≤ i := fun h => by rw [Nat.ble_eq_true_of_le h] at hb; cases hb
    exact h i (by omega)

theorem aappend_run (hL : LayOk P L) (R : Rel g N bs ρ a w st) {d : Nat} {t tx ty : TypeId} {x y : AV} {xv yv : Value} (hx : C2 (cxOf g w ρ st.heap) x xv) (hy : C2 (cxOf g w ρ st.heap) y yv) {K : AV → AS → Prop} (h : aappend L d st t tx x y K) :
    ∃ z u st' ρ' w', K z st' ∧ Rel g N bs ρ' a w' st' ∧ C2 (cxOf g w' ρ' st'.heap) z u ∧ (Builtin.append_ #[t, tx] ty #[xv, yv]).run P w = .ok u w' := by
  unfold aappend at h
  split at h
  · rename_i ti hti
    split at h
    · rename_i e hk
      have hu := slice_of hL hti hk
      split at h
      · rename_i ei hei
        obtain ⟨info, z0, dd, hi1, hi2, hi3, hi4, hi5, hi6, hi7⟩ := fact_of hL hei
        cases hb : (Nat.ble 1 ei.size && Nat.beq ei.zero.length ei.size) with
        | false => rw [hb] at h; exact h.elim
        | true =>
          rw [hb] at h
          simp only [cond_true] at h
          simp only [Bool.and_eq_true] at hb
          have hs := Nat.le_of_ble_eq_true hb.1
          have hzl := Nat.eq_of_beq_eq_true hb.2
          split at h
          · rename_i m sc' f' hsrc
            obtain ⟨news, hSrc, han, hfn, hscn⟩ := srcOf_src hL R hs hy hsrc
            have hzs : z0.cells.size = ei.size := by rw [← Array.length_toList, hi6]; exact hzl
            split at h
            · obtain ⟨⟨hq1, hq2⟩, h⟩ := h
              obtain rfl := C2.inv_v hx
              obtain ⟨v', w', hrun, hown', hgrow, hat⟩ := run_append_any (P := P) w 0 t tx ty e info z0 ei.size ei.bytes hu hi1 hi3 hi4 hi5 hzs _ 0 [] (World.ownsRow_nil w _ _ _) yv m news hSrc (by simp only [maxLen]; omega) (by simpa using hq1) (Nat.zero_le _)
              simp only [Nat.zero_add, List.nil_append] at hown'
              refine ⟨_, v', _, reρ ρ d v', w', h, ?_, by simp [C2, C1, C0, cxOf, reρ], hrun⟩
              refine R.obj d d (R.below.grown hgrow R.below.size (fun k hk => by simp [Value.ownBlock] at hk)) hgrow.size (fun b hb _ => hgrow.block b hb (by simp [Value.ownBlock])) (fun b hb => ?_) (fun hE => ?_)
              · rw [blk_own hown'] at hb
                rcases hat with h1 | h1
                · rw [h1] at hb; simp [Value.ownBlock] at hb
                · rw [h1] at hb; cases hb; exact .inl (Nat.le_refl _)
              · exact ⟨news, by simpa [cxOf, reρ] using hown', hs, hfn, hscn, han.imp fun _ _ => PC.mono hE.keep hE.mem⟩
            · rename_i id
              split at h
              · rename_i e' s n sc f hfo
                cases hb : (Nat.beq e e' && Nat.beq s ei.size) with
                | false => rw [hb] at h; exact h.elim
                | true =>
                  rw [hb] at h
                  simp only [cond_true] at h
                  simp only [Bool.and_eq_true] at hb
                  obtain rfl := Nat.eq_of_beq_eq_true hb.1
                  have hse := Nat.eq_of_beq_eq_true hb.2
                  subst hse
                  obtain ⟨⟨hq1, hq2⟩, h⟩ := h
                  obtain ⟨us, hown, hs0, hfl, hsc, ha⟩ := R.objs _ (findObj_mem hfo)
                  have hown : w.ownsRow 0 e ei.size (ρ id) n us := hown
                  have ha : All2 (PC w (keepOf g w ρ st.heap)) (flat n f) us := ha
                  have hxv : xv = ρ id := C2.inv_own hx
                  subst hxv
                  obtain ⟨v', w', hrun, hown', hgrow, hat⟩ := run_append_any (P := P) w 0 t tx ty e info z0 ei.size ei.bytes hu hi1 hi3 hi4 hi5 hzs (ρ id) n us hown yv m news hSrc (by simp only [maxLen]; omega) hq1 (Nat.zero_le _)
                  refine ⟨_, v', _, reρ ρ d v', w', h, ?_, by simp [C2, C1, C0, cxOf, reρ], hrun⟩
                  refine R.obj d id (R.below.grown hgrow R.below.size (fun k hk => R.own k (mem_blocks.2 ⟨_, findObj_mem hfo, (blk_own hown).trans hk⟩))) hgrow.size (fun b hb hne => hgrow.block b hb (fun e => hne _ (findObj_mem hfo) rfl ((blk_own hown).trans e.symm))) (fun b hb => ?_) (fun hE => ?_)
                  · rw [blk_own hown'] at hb
                    rcases hat with h1 | h1
                    · exact .inr ⟨_, findObj_mem hfo, rfl, by rw [blk_own hown, ← h1]; exact hb⟩
                    · rw [h1] at hb; cases hb; exact .inl (Nat.le_refl _)
                  · refine ⟨us ++ news, by simpa [cxOf, reρ] using hown', hs, app_len hfl hfn, fun hv x hx => ?_, ?_⟩
                    · simp only [Bool.and_eq_true] at hv
                      rw [flat_app] at hx
                      rcases List.mem_append.1 hx with h1 | h1
                      · exact hsc hv.1 x h1
                      · exact hscn hv.2 x h1
                    · rw [flat_app]
                      exact (ha.imp fun _ _ => PC.mono hE.keep hE.mem).app (han.imp fun _ _ => PC.mono hE.keep hE.mem)
              · exact h.elim
            · exact h.elim
          · exact h.elim
      · exact h.elim
    · exact h.elim
  · exact h.elim

/-- The row id, from now on only read. -/
theorem C0.thaw {X Y : CX} (hk : ∀ b, X.keep b → Y.keep b) (hm : ∀ b, X.keep b → Y.w.heap[b]? = X.w.heap[b]?) (hρ : Y.ρ = X.ρ) {id s n : Nat} {sc : Bool} {f : Nat → List AV} (hrow : PC Y.w Y.keep (.sl s n sc f) (X.ρ id)) {av : AV} {u : Value} (h : C0 X av u) :
    C0 Y (thaw0 id (.sl s n sc f) av) u := by
  cases av with
  | own i =>
    simp only [thaw0]
    cases hb : Nat.beq i id with
    | true =>
      obtain rfl := Nat.eq_of_beq_eq_true hb
      have hu : u = X.ρ i := h
      rw [hu]
      exact hrow
    | false => exact C0.same hk hm hρ h
  | _ => exact C0.same hk hm hρ h

theorem C1.thaw {X Y : CX} (hk : ∀ b, X.keep b → Y.keep b) (hm : ∀ b, X.keep b → Y.w.heap[b]? = X.w.heap[b]?) (hρ : Y.ρ = X.ρ) {id s n : Nat} {sc : Bool} {f : Nat → List AV} (hrow : PC Y.w Y.keep (.sl s n sc f) (X.ρ id)) {av : AV} {u : Value} (h : C1 X av u) :
    C1 Y (thaw1 id (.sl s n sc f) av) u := by
  cases av with
  | agg cs => obtain ⟨us, e, ha⟩ := h; exact ⟨us, e, ha.mapl fun _ _ => C0.thaw hk hm hρ hrow⟩
  | fn gg cs => obtain ⟨us, e, ha⟩ := h; exact ⟨us, e, ha.mapl fun _ _ => C0.thaw hk hm hρ hrow⟩
  | own i =>
    have h0 := C0.thaw hk hm hρ hrow (av := .own i) h
    simp only [thaw0] at h0
    simp only [thaw1]
    revert h0
    cases Nat.beq i id <;> exact fun h => h
  | v x => exact C1.same hk hm hρ (av := .v x) h
  | sl s n sc f => exact C1.same hk hm hρ (av := .sl s n sc f) h
  | eown i s j k => exact C1.same hk hm hρ (av := .eown i s j k) h
  | box i k => exact C1.same hk hm hρ (av := .box i k) h
  | el cs k => exact C1.same hk hm hρ (av := .el cs k) h
  | junk => trivial
  | tup vs => exact h

theorem C2.thaw {X Y : CX} (hk : ∀ b, X.keep b → Y.keep b) (hm : ∀ b, X.keep b → Y.w.heap[b]? = X.w.heap[b]?) (hρ : Y.ρ = X.ρ) {id s n : Nat} {sc : Bool} {f : Nat → List AV} (hrow : PC Y.w Y.keep (.sl s n sc f) (X.ρ id)) {av : AV} {u : Value} (h : C2 X av u) :
    C2 Y (thaw2 id (.sl s n sc f) av) u := by
  cases av with
  | tup vs => obtain ⟨us, e, ha⟩ := h; exact ⟨us, e, ha.mapl fun _ _ => C1.thaw hk hm hρ hrow⟩
  | agg cs => exact C2.of1 (C1.thaw hk hm hρ hrow (av := .agg cs) h)
  | fn gg cs => exact C2.of1 (C1.thaw hk hm hρ hrow (av := .fn gg cs) h)
  | own i => exact C2.of1 (C1.thaw hk hm hρ hrow (av := .own i) h)
  | v x => exact C2.of1 (C1.thaw hk hm hρ hrow (av := .v x) h)
  | sl s n sc f => exact C2.of1 (C1.thaw hk hm hρ hrow (av := .sl s n sc f) h)
  | eown i s j k => exact C2.of1 (C1.thaw hk hm hρ hrow (av := .eown i s j k) h)
  | box i k => exact C2.of1 (C1.thaw hk hm hρ hrow (av := .box i k) h)
  | el cs k => exact C2.of1 (C1.thaw hk hm hρ hrow (av := .el cs k) h)
  | junk => trivial

theorem Rel.freeze (R : Rel g N bs ρ a w st) {id : Nat} {e : TypeId} {s n : Nat} {sc : Bool} {f : Nat → List AV} (hf : findObj id st.heap = some (.row e s n sc f)) :
    Rel g N bs ρ a w (st.freeze id s n sc f) ∧ PC w (keepOf g w ρ (st.freeze id s n sc f).heap) (.sl s n sc f) (ρ id) := by
  have hblocks : blocksOf ρ (st.freeze id s n sc f).heap = blocksOf ρ (st.heap.filter fun p => !Nat.beq p.1 id) := by
    simp [AS.freeze, blocksOf, List.filterMap_map, Function.comp_def]
  have hsub : ∀ b, b ∈ blocksOf ρ (st.freeze id s n sc f).heap → b ∈ blocksOf ρ st.heap := fun b h => by rw [hblocks] at h; exact blocks_filter_sub h
  have hk : ∀ b, keepOf g w ρ st.heap b → keepOf g w ρ (st.freeze id s n sc f).heap b := fun b h => ⟨h.1, h.2.1, fun h' => h.2.2 (hsub b h')⟩
  have hm : ∀ b, keepOf g w ρ st.heap b → w.heap[b]? = w.heap[b]? := fun _ _ => rfl
  obtain ⟨us, hown, hs0, hfl, hsc, ha⟩ := R.objs _ (findObj_mem hf)
  have hown : w.ownsRow 0 e s (ρ id) n us := hown
  have ha : All2 (PC w (keepOf g w ρ st.heap)) (flat n f) us := ha
  have hrow : PC w (keepOf g w ρ (st.freeze id s n sc f).heap) (.sl s n sc f) (ρ id) := by
    have ha' := ha.imp fun _ _ => PC.mono hk hm
    rcases hown.2 with ⟨hv, hz⟩ | ⟨b, cap, cur, hv, hB, hh, hnc, hcm, _⟩
    · rw [hv]
      subst hz
      exact .sl s 0 sc f none 0 us hs0 (Nat.le_refl _) (by simp [maxLen]) hown.1 hfl hsc ha'.2 (.inl rfl)
    · rw [hv]
      refine .sl s n sc f _ cap us hs0 hnc hcm hown.1 hfl hsc ha'.2 (.inr ⟨b, 0, rfl, ⟨(Array.getElem?_eq_some_iff.1 hh).1, fun hlt => (R.own b (mem_blocks.2 ⟨_, findObj_mem hf, by rw [hv]; rfl⟩)).elim (fun h => absurd hlt (by omega)) .inr, ?_⟩, fun j u hj => ?_⟩)
      · intro hin
        rw [hblocks] at hin
        obtain ⟨p, hp, hpe⟩ := mem_blocks.1 hin
        obtain ⟨hp1, hp2⟩ := List.mem_filter.1 hp
        have := blocks_apart R.apart p hp1 _ (findObj_mem hf) hpe (by rw [hv]; rfl)
        simp [this] at hp2
      · have := hown.cells (g := b) (by rw [hv]; rfl) j u hj
        rwa [Addr.add_lit] at this
  refine ⟨⟨R.size, R.defers, R.below, fun t => by rw [show (st.freeze id s n sc f).tmps t = thaw2 id (.sl s n sc f) (st.tmps t) from ofL_mapS rfl st.sl t]; exact C2.thaw (X := cxOf g w ρ st.heap) (Y := cxOf g w ρ (st.freeze id s n sc f).heap) hk hm rfl hrow (R.tmps t), ?_, ?_, fun b hb => R.own b (hsub b hb), R.back.map rfl fun _ _ => C2.thaw (X := cxOf g w ρ st.heap) (Y := cxOf g w ρ (st.freeze id s n sc f).heap) hk hm rfl hrow⟩, hrow⟩
  · intro p hp
    simp only [AS.freeze, List.mem_map] at hp
    obtain ⟨q, hq, rfl⟩ := hp
    have ho := R.objs q (List.mem_filter.1 hq).1
    cases hqo : q.2 with
    | box t cs =>
      rw [hqo] at ho
      obtain ⟨b, us, e', hh, ha⟩ := ho
      exact ⟨b, us, e', hh, ha.mapl fun _ _ => C0.thaw (X := cxOf g w ρ st.heap) (Y := cxOf g w ρ (st.freeze id s n sc f).heap) hk hm rfl hrow⟩
    | row e' s' n' sc' f' =>
      rw [hqo] at ho
      obtain ⟨us, hown, hs, hfl, hsc, ha⟩ := ho
      exact ⟨us, hown, hs, hfl, hsc, ha.imp fun _ _ => PC.mono hk hm⟩
  · rw [hblocks]
    exact nodup_filter R.apart

theorem Rel.freezeBox (R : Rel g N bs ρ a w st) {id : Nat} {t : TypeId} {cs : List AV} (hf : findObj id st.heap = some (.box t cs)) :
    Rel g N bs ρ a w (st.freezeBox id) ∧ ∃ b us, ρ id = .pointer (some ⟨b, 0, none⟩) ∧ w.heap[b]? = some (.cells us.toArray t (0, 0)) ∧ All2 (C0 (cxOf g w ρ st.heap)) cs us ∧ keepOf g w ρ (st.freezeBox id).heap b ∧
      (∀ b, keepOf g w ρ st.heap b → keepOf g w ρ (st.freezeBox id).heap b) := by
  have hblocks : blocksOf ρ (st.freezeBox id).heap = blocksOf ρ (st.heap.filter fun p => !Nat.beq p.1 id) := blocks_scrub ρ id _
  have hsub : ∀ b, b ∈ blocksOf ρ (st.freezeBox id).heap → b ∈ blocksOf ρ st.heap := fun b h => by rw [hblocks] at h; exact blocks_filter_sub h
  have hk : ∀ b, keepOf g w ρ st.heap b → keepOf g w ρ (st.freezeBox id).heap b := fun b h => ⟨h.1, h.2.1, fun h' => h.2.2 (hsub b h')⟩
  have hE : Ext id (cxOf g w ρ st.heap) (cxOf g w ρ (st.freezeBox id).heap) := ⟨hk, fun _ _ => rfl, fun _ _ => rfl⟩
  obtain ⟨b, us, hv, hh, ha⟩ := R.objs _ (findObj_mem hf)
  have hv : ρ id = .pointer (some ⟨b, 0, none⟩) := hv
  refine ⟨⟨R.size, R.defers, R.below, fun t => by rw [show (st.freezeBox id).tmps t = scrub2 id (st.tmps t) from ofL_mapS rfl st.sl t]; exact C2.ext hE (R.tmps t), ?_, ?_, fun b hb => R.own b (hsub b hb), R.back.map rfl fun _ _ => C2.ext hE⟩,
    b, us, hv, hh, ha, ⟨(Array.getElem?_eq_some_iff.1 hh).1, fun hlt => (R.own b (mem_blocks.2 ⟨_, findObj_mem hf, by rw [hv]; rfl⟩)).elim (fun h => absurd hlt (by omega)) .inr, ?_⟩, hk⟩
  · intro p hp
    simp only [AS.freezeBox, scrubH, List.mem_map] at hp
    obtain ⟨q, hq, rfl⟩ := hp
    obtain ⟨hq1, hq2⟩ := List.mem_filter.1 hq
    exact ObjOk.ext hE (fun e => by rw [e] at hq2; simp at hq2) (fun _ _ => rfl) (R.objs q hq1)
  · rw [hblocks]
    exact nodup_filter R.apart
  · intro hin
    rw [hblocks] at hin
    obtain ⟨p, hp, hpe⟩ := mem_blocks.1 hin
    obtain ⟨hp1, hp2⟩ := List.mem_filter.1 hp
    have := blocks_apart R.apart p hp1 _ (findObj_mem hf) hpe (by rw [hv]; rfl)
    simp [this] at hp2

/-- A piece of a slice. -/
theorem PC.cut {w : World} {k : Nat → Prop} {s n : Nat} {sc : Bool} {f : Nat → List AV} {A : Option Addr} {c : Nat} (h : PC w k (.sl s n sc f) (.slice A n c)) {lo hi : Nat} (h1 : lo ≤ hi) (h2 : hi ≤ n) :
    PC w k (.sl s (hi - lo) sc (fun i => f (lo + i))) (.slice (if c = lo then A else A.map (·.add (lo * s))) (hi - lo) (c - lo)) := by
  cases h with
  | sl _ _ _ _ _ _ us hs0 hnc hcc hl hfl hsc hu' hr =>
    have hlh : (hi - lo) * s = hi * s - lo * s := Nat.sub_mul hi lo s
    have h1s : lo * s ≤ hi * s := Nat.mul_le_mul_right _ h1
    have h2s : hi * s ≤ n * s := Nat.mul_le_mul_right _ h2
    have hflat : ∀ {n : Nat} {f : Nat → List AV}, (∀ i, i < n → (f i).length = s) → ∀ lo hi, lo ≤ hi → hi ≤ n → flat (hi - lo) (fun i => f (lo + i)) = ((flat n f).drop (lo * s)).take ((hi - lo) * s) := fun h lo hi => flat_cut h lo hi
    have hfc := hflat hfl lo hi h1 h2
    have hall : All2 (PC w k) (flat n f) us := ⟨by rw [hl]; exact flat_len hfl, hu'⟩
    have hall' := (hall.drop (lo * s)).take ((hi - lo) * s)
    rw [← hfc] at hall'
    refine .sl s (hi - lo) sc _ _ _ ((us.drop (lo * s)).take ((hi - lo) * s)) hs0 (by omega) (by omega) ?_ (fun i hi' => hfl (lo + i) (by omega)) ?_ hall'.2 ?_
    · rw [List.length_take, List.length_drop, hl]; omega
    · intro hv x hx
      rw [hfc] at hx
      exact hsc hv x (List.mem_of_mem_drop (List.mem_of_mem_take hx))
    · rcases hr with hz | ⟨b, o, rfl, kb, hcell⟩
      · left; omega
      · by_cases hcl : c = lo
        · left; omega
        · right
          rw [if_neg hcl]
          refine ⟨b, o + lo * s, by simp [Addr.add_lit], kb, fun j u hj => ?_⟩
          rw [List.getElem?_take] at hj
          split at hj
          · rw [List.getElem?_drop] at hj
            rw [Nat.add_assoc]
            exact hcell _ u hj
          · cases hj
where
  flat_cut {s : Nat} : ∀ {n : Nat} {f : Nat → List AV}, (∀ i, i < n → (f i).length = s) → ∀ lo hi, lo ≤ hi → hi ≤ n → flat (hi - lo) (fun i => f (lo + i)) = ((flat n f).drop (lo * s)).take ((hi - lo) * s)
    | 0, f, _, lo, hi, h1, h2 => by
      have : hi = 0 := by omega
      subst this
      simp [flat]
    | n + 1, f, h, 0, 0, _, _ => by simp [flat]
    | n + 1, f, h, 0, hi + 1, _, h2 => by
      have ih := flat_cut (n := n) (f := fun i => f (i + 1)) (fun i hi => h (i + 1) (by omega)) 0 hi (by omega) (by omega)
      have e : flat (hi + 1 - 0) (fun i => f (0 + i)) = f 0 ++ flat hi (fun i => f (i + 1)) := by simp [flat]
      have e2 : flat (n + 1) f = f 0 ++ flat n (fun i => f (i + 1)) := rfl
      have h0 := h 0 (by omega)
      rw [e, e2]
      simp only [Nat.sub_zero, Nat.zero_mul, List.drop_zero, Nat.zero_add] at ih ⊢
      rw [ih, Nat.succ_mul, List.take_append, List.take_of_length_le (l := f 0) (by omega), h0, show hi * s + s - s = hi * s by omega]
    | n + 1, f, h, lo + 1, hi, h1, h2 => by
      obtain ⟨hi', rfl⟩ : ∃ k, hi = k + 1 := ⟨hi - 1, by omega⟩
      have ih := flat_cut (n := n) (f := fun i => f (i + 1)) (fun i hi => h (i + 1) (by omega)) lo hi' (by omega) (by omega)
      have e2 : flat (n + 1) f = f 0 ++ flat n (fun i => f (i + 1)) := rfl
      have h0 := h 0 (by omega)
      rw [show hi' + 1 - (lo + 1) = hi' - lo by omega, e2, Nat.succ_mul, List.drop_append, List.drop_of_length_le (l := f 0) (by omega), List.nil_append, h0, show lo * s + s - s = lo * s by omega, ← ih]
      apply flat_congr
      intro i _
      congr 1
      omega

theorem bound_run (k : IntKind) (i : Int) (y : Nat) (code : BoundsCode) (h0 : 0 ≤ i) (h1 : i ≤ (y : Int)) (w : World) : (Instr.sliceBound (.int k i) y code).run P w = .ok i.toNat w := by
  simp [Instr.sliceBound, asIntOf, h0, h1]

theorem slice_run {t e : TypeId} {ei : TI} (hL : LayOk P L) (hu : P.underlying t = some (.slice e)) (hei : layGet L e = some ei) {A : Option Addr} {n c l h : Nat} {lo hi : Option Value} (w : World)
    (hb : (Instr.sliceBounds true n c lo hi none).run P w = .ok (l, h, c) w) : (Instr.sliceAt t (.slice A n c) lo hi none).run P w = .ok (.slice (if c = l then A else A.map (·.add (l * ei.size))) (h - l) (c - l)) w := by
  simp only [Instr.sliceAt, Instr.slice, Sem.run_bind, run_underlying hu, Result.andThen_ok, hb, run_size hL hei, Sem.run_pure]

theorem acut_run (hL : LayOk P L) {X : CX} {t : TypeId} {ti : TI} {e : TypeId} (hti : layGet L t = some ti) (hk : ti.kind = .slice e) {ei : TI} (hei : layGet L e = some ei) {n : Nat} {sc : Bool} {f : Nat → List AV} {xv : Value} (hx : PC X.w X.keep (.sl ei.size n sc f) xv)
    {lo hi : Option AV} {lov hiv : Option Value} (hlo : ∀ y, lo = some y → ∃ v, lov = some v ∧ C2 X y v) (hlo' : lo = none → lov = none) (hhi : ∀ y, hi = some y → ∃ v, hiv = some v ∧ C2 X y v) (hhi' : hi = none → hiv = none) {K : AV → Prop} (h : acut ei.size n sc f lo hi K) (w : World) :
    ∃ z u, K z ∧ PC X.w X.keep z u ∧ (Instr.sliceAt t xv lov hiv none).run P w = .ok u w := by
  have hu := slice_of hL hti hk
  cases hx with
  | sl _ _ _ _ A c us hs0 hnc hcc hl hfl hsc hu' hr =>
    have hx : PC X.w X.keep (.sl ei.size n sc f) (.slice A n c) := .sl ei.size n sc f A c us hs0 hnc hcc hl hfl hsc hu' hr
    have fin : ∀ {l hh : Nat}, l ≤ hh → hh ≤ n → K (.sl ei.size (hh - l) sc (fun i => f (l + i))) → (Instr.sliceBounds true n c lov hiv none).run P w = .ok (l, hh, c) w → ∃ z u, K z ∧ PC X.w X.keep z u ∧ (Instr.sliceAt t (.slice A n c) lov hiv none).run P w = .ok u w :=
      fun h1 h2 hk hb => ⟨_, _, hk, PC.cut hx h1 h2, slice_run hL hu hei w hb⟩
    unfold acut at h; simp only [InB_eq] at h
    split at h
    · rw [hlo' rfl, hhi' rfl] at fin ⊢
      refine fin (l := 0) (hh := n) (by omega) (by omega) ?_ (by simp [Instr.sliceBounds])
      simpa using h
    · rename_i k hh
      obtain ⟨v, hv, hc⟩ := hhi _ rfl
      obtain rfl := C2.inv_v hc
      rw [hlo' rfl, hv] at fin ⊢
      cases hb : inB hh (n + 1) with
      | false => rw [hb] at h; exact h.elim
      | true =>
        rw [hb] at h
        obtain ⟨h0, h1⟩ := inB_iff hb
        refine fin (l := 0) (hh := hh.toNat) (by omega) (by omega) (by simpa using h) ?_
        simp [Instr.sliceBounds, bound_run k hh c _ h0 (by omega)]
    · rename_i k ll
      obtain ⟨v, hv, hc⟩ := hlo _ rfl
      obtain rfl := C2.inv_v hc
      rw [hhi' rfl, hv] at fin ⊢
      cases hb : inB ll (n + 1) with
      | false => rw [hb] at h; exact h.elim
      | true =>
        rw [hb] at h
        obtain ⟨h0, h1⟩ := inB_iff hb
        refine fin (l := ll.toNat) (hh := n) (by omega) (by omega) h ?_
        simp [Instr.sliceBounds, bound_run k ll n _ h0 (by omega)]
    · rename_i k ll k' hh
      obtain ⟨v, hv, hc⟩ := hlo _ rfl
      obtain rfl := C2.inv_v hc
      obtain ⟨v', hv', hc'⟩ := hhi _ rfl
      obtain rfl := C2.inv_v hc'
      rw [hv, hv'] at fin ⊢
      cases hb : inB hh (n + 1) with
      | false => rw [hb] at h; exact h.elim
      | true =>
        rw [hb] at h
        simp only [cond_true] at h
        obtain ⟨h0, h1⟩ := inB_iff hb
        cases hb' : inB ll (hh.toNat + 1) with
        | false => rw [hb'] at h; exact h.elim
        | true =>
          rw [hb'] at h
          obtain ⟨h2, h3⟩ := inB_iff hb'
          refine fin (l := ll.toNat) (hh := hh.toNat) (by omega) (by omega) h ?_
          simp [Instr.sliceBounds, bound_run k' hh c _ h0 (by omega), bound_run k ll hh.toNat _ h2 (by omega)]
    · exact h.elim

theorem acutS_run (hL : LayOk P L) {X : CX} {t : TypeId} {ti : TI} (hti : layGet L t = some ti) (hk : ti.kind = .str) {b : ByteArray}
    {lo hi : Option AV} {lov hiv : Option Value} (hlo : ∀ y, lo = some y → ∃ v, lov = some v ∧ C2 X y v) (hlo' : lo = none → lov = none) (hhi : ∀ y, hi = some y → ∃ v, hiv = some v ∧ C2 X y v) (hhi' : hi = none → hiv = none) {K : AV → Prop} (h : acutS b lo hi K) (w : World) :
    ∃ z u, K z ∧ C2 X z u ∧ (Instr.sliceAt t (.string b) lov hiv none).run P w = .ok u w := by
  have hu := str_of hL hti hk
  have fin : ∀ {l hh : Nat}, K (.v (.string (b.extract l hh))) → (Instr.sliceBounds false b.size b.size lov hiv none).run P w = .ok (l, hh, b.size) w → ∃ z u, K z ∧ C2 X z u ∧ (Instr.sliceAt t (.string b) lov hiv none).run P w = .ok u w := by
    intro l hh hk hb
    refine ⟨_, _, hk, rfl, ?_⟩
    simp [Instr.sliceAt, Instr.slice, run_underlying hu, hb]
  unfold acutS at h; simp only [InB_eq] at h
  split at h
  · rw [hlo' rfl, hhi' rfl] at fin ⊢
    refine fin (l := 0) (hh := b.size) ?_ (by simp [Instr.sliceBounds])
    simpa using h
  · rename_i k hh
    obtain ⟨v, hv, hc⟩ := hhi _ rfl
    obtain rfl := C2.inv_v hc
    rw [hlo' rfl, hv] at fin ⊢
    cases hb : inB hh (b.size + 1) with
    | false => rw [hb] at h; exact h.elim
    | true =>
      rw [hb] at h
      obtain ⟨h0, h1⟩ := inB_iff hb
      refine fin (l := 0) (hh := hh.toNat) h ?_
      simp [Instr.sliceBounds, bound_run k hh b.size _ h0 (by omega)]
  · rename_i k ll
    obtain ⟨v, hv, hc⟩ := hlo _ rfl
    obtain rfl := C2.inv_v hc
    rw [hhi' rfl, hv] at fin ⊢
    cases hb : inB ll (b.size + 1) with
    | false => rw [hb] at h; exact h.elim
    | true =>
      rw [hb] at h
      obtain ⟨h0, h1⟩ := inB_iff hb
      refine fin (l := ll.toNat) (hh := b.size) h ?_
      simp [Instr.sliceBounds, bound_run k ll b.size _ h0 (by omega)]
  · rename_i k ll k' hh
    obtain ⟨v, hv, hc⟩ := hlo _ rfl
    obtain rfl := C2.inv_v hc
    obtain ⟨v', hv', hc'⟩ := hhi _ rfl
    obtain rfl := C2.inv_v hc'
    rw [hv, hv'] at fin ⊢
    cases hb : inB hh (b.size + 1) with
    | false => rw [hb] at h; exact h.elim
    | true =>
      rw [hb] at h
      simp only [cond_true] at h
      obtain ⟨h0, h1⟩ := inB_iff hb
      cases hb' : inB ll (hh.toNat + 1) with
      | false => rw [hb'] at h; exact h.elim
      | true =>
        rw [hb'] at h
        obtain ⟨h2, h3⟩ := inB_iff hb'
        refine fin (l := ll.toNat) (hh := hh.toNat) h ?_
        simp [Instr.sliceBounds, bound_run k' hh b.size _ h0 (by omega), bound_run k ll hh.toNat _ h2 (by omega)]
  · exact h.elim

theorem aslice_run (hL : LayOk P L) (R : Rel g N bs ρ a w st) {t : TypeId} {x : AV} {xv : Value} {lo hi mx : Option Operand} (hx : C2 (cxOf g w ρ st.heap) x xv) {K : AV → AS → Prop} (h : aslice L st t x (lo.map st.ev) (hi.map st.ev) (mx.map st.ev) K) :
    ∃ z u st', K z st' ∧ Rel g N bs ρ a w st' ∧ C2 (cxOf g w ρ st'.heap) z u ∧ (Instr.sliceAt t xv (lo.map a.eval) (hi.map a.eval) (mx.map a.eval)).run P w = .ok u w := by
  have side : ∀ {X : CX} {o : Option Operand}, (∀ x, C2 X (st.ev x) (a.eval x)) → (∀ y, o.map st.ev = some y → ∃ v, o.map a.eval = some v ∧ C2 X y v) ∧ (o.map st.ev = none → o.map a.eval = none) := by
    intro X o hX
    cases o with
    | none => exact ⟨(fun y h => by cases h), fun _ => rfl⟩
    | some o => exact ⟨(fun y h => by cases h; exact ⟨_, rfl, hX o⟩), (fun h => by cases h)⟩
  unfold aslice at h
  split at h
  · rename_i ti hmx hti
    have hmx' : mx = none := by cases mx with | none => rfl | some m => cases hmx
    subst hmx'
    split at h
    · rename_i e s n sc f hk
      split at h
      · rename_i ei hei
        cases hb : Nat.beq s ei.size with
        | false => rw [hb] at h; exact h.elim
        | true =>
          rw [hb] at h
          simp only [cond_true] at h
          obtain rfl := Nat.eq_of_beq_eq_true hb
          obtain ⟨s1, s2⟩ := side (o := lo) R.ev
          obtain ⟨s3, s4⟩ := side (o := hi) R.ev
          obtain ⟨z, u, hk', hp, hr⟩ := acut_run (X := cxOf g w ρ st.heap) hL hti hk hei (C2.inv_sl hx) s1 s2 s3 s4 h w
          exact ⟨z, u, st, hk', R, C2.of0 (C0.ofPC hp), hr⟩
      · exact h.elim
    · rename_i e id hk
      split at h
      · rename_i e' s n sc f hfo
        split at h
        · rename_i ei hei
          cases hb : Nat.beq s ei.size with
          | false => rw [hb] at h; exact h.elim
          | true =>
            rw [hb] at h
            simp only [cond_true] at h
            obtain rfl := Nat.eq_of_beq_eq_true hb
            obtain ⟨R', hrow⟩ := R.freeze hfo
            have hxv : xv = ρ id := C2.inv_own hx
            subst hxv
            obtain ⟨z, u, hk', hp, hr⟩ := acut_own (X := cxOf g w ρ st.heap) (Y := cxOf g w ρ (st.freeze id ei.size n sc f).heap) hL hti hk hei hrow R.ev h w
            exact ⟨z, u, _, hk', R', C2.of0 (C0.ofPC hp), hr⟩
        · exact h.elim
      · exact h.elim
    · rename_i b hk
      obtain rfl := C2.inv_v hx
      obtain ⟨s1, s2⟩ := side (o := lo) R.ev
      obtain ⟨s3, s4⟩ := side (o := hi) R.ev
      obtain ⟨z, u, hk', hp, hr⟩ := acutS_run (X := cxOf g w ρ st.heap) hL hti hk s1 s2 s3 s4 h w
      exact ⟨z, u, st, hk', R, hp, hr⟩
    · rename_i m e id k hk
      split at h
      · rename_i cs ei hlo hhi hfo hei
        have hlo' : lo = none := by cases lo with | none => rfl | some m => cases hlo
        have hhi' : hi = none := by cases hi with | none => rfl | some m => cases hhi
        subst hlo' hhi'
        cases hb : (Nat.ble 1 ei.size && Nat.beq cs.length (m * ei.size) && Nat.ble m 65536 && cs.all pureB) with
        | false => rw [hb] at h; exact h.elim
        | true =>
          rw [hb] at h
          simp only [cond_true] at h
          simp only [Bool.and_eq_true] at hb
          obtain ⟨⟨⟨hb1, hb2⟩, hb3⟩, hp⟩ := hb
          have hs := Nat.le_of_ble_eq_true hb1
          have hlen := Nat.eq_of_beq_eq_true hb2
          have hm := Nat.le_of_ble_eq_true hb3
          have hu := array_of hL hti hk
          obtain ⟨R', b, us, hv, hh, ha, hkb, hkk⟩ := R.freezeBox hfo
          obtain ⟨b', hb', hxv⟩ := C2.inv_box hx
          have hb' : ρ id = .pointer (some ⟨b', 0, none⟩) := hb'
          rw [hv] at hb'
          cases hb'
          subst hxv
          have hul : us.length = m * ei.size := by rw [← ha.1, hlen]
          have hfl := flat_chunk (s := ei.size) hlen
          have hpc : All2 (PC w (keepOf g w ρ (st.freezeBox id).heap)) (flat m (chunk ei.size cs)) us := by
            rw [hfl]
            exact ⟨ha.1, fun i x u hx hu => PC.mono hkk (fun _ _ => rfl) (pure_of (ha.2 i x u hx hu) (List.all_eq_true.1 hp x (List.mem_of_getElem? hx)))⟩
          refine ⟨_, .slice (some ⟨b, 0, none⟩) m m, _, h, R', C2.of0 (C0.ofPC (X := cxOf g w ρ (st.freezeBox id).heap) (.sl ei.size m _ _ _ m us hs (Nat.le_refl _) (by simp only [maxLen]; omega) hul (chunk_len hlen) (fun hv x hx => ?_) hpc.2 (.inr ⟨b, 0, rfl, hkb, fun j u hj => ?_⟩))), ?_⟩
          · rw [hfl] at hx
            have := List.all_eq_true.1 hv x hx
            cases x <;> first | exact ⟨_, rfl⟩ | (simp [isV] at this)
          · have hj' : (us.toArray)[j]? = some u := by simpa using hj
            simp only [World.cell?, cxOf, hh, Nat.zero_add]
            simpa using hj
          · simp [Instr.sliceAt, run_underlying hu, Instr.sliceBounds, Instr.sureAddr, run_size hL hei, Addr.add]
      · exact h.elim
    · exact h.elim
  · exact h.elim
where
  acut_own (hL : LayOk P L) {X Y : CX} {t : TypeId} {ti : TI} {e : TypeId} (hti : layGet L t = some ti) (hk : ti.kind = .slice e) {ei : TI} (hei : layGet L e = some ei) {n : Nat} {sc : Bool} {f : Nat → List AV} {xv : Value} (hx : PC Y.w Y.keep (.sl ei.size n sc f) xv)
      {lo hi : Option Operand} (hev : ∀ o, C2 X (st.ev o) (a.eval o)) {K : AV → Prop} (h : acut ei.size n sc f (lo.map st.ev) (hi.map st.ev) K) (w : World) :
      ∃ z u, K z ∧ PC Y.w Y.keep z u ∧ (Instr.sliceAt t xv (lo.map a.eval) (hi.map a.eval) none).run P w = .ok u w := by
    -- the bounds are plain numbers: they read in either memory alike
    have plain : ∀ o : Operand, (∃ k n, st.ev o = .v (.int k n)) → C2 Y (st.ev o) (a.eval o) := by
      rintro o ⟨k, n, e⟩
      have := hev o
      rw [e] at this ⊢
      exact this
    have side : ∀ {o : Option Operand}, (∀ x, o = some x → ∃ k n, st.ev x = .v (.int k n)) → (∀ y, o.map st.ev = some y → ∃ v, o.map a.eval = some v ∧ C2 Y y v) ∧ (o.map st.ev = none → o.map a.eval = none) := by
      intro o ho
      cases o with
      | none => exact ⟨(fun y h => by cases h), fun _ => rfl⟩
      | some o => exact ⟨(fun y h => by cases h; exact ⟨_, rfl, plain o (ho o rfl)⟩), (fun h => by cases h)⟩
    have h' := h
    unfold acut at h'; simp only [InB_eq] at h'
    have ints : (∀ x, lo = some x → ∃ k n, st.ev x = .v (.int k n)) ∧ (∀ x, hi = some x → ∃ k n, st.ev x = .v (.int k n)) := by
      split at h'
      · rename_i e1 e2
        exact ⟨(fun x e => by rw [e] at e1; cases e1), fun x e => by rw [e] at e2; cases e2⟩
      · rename_i k hh e1 e2
        exact ⟨(fun x e => by rw [e] at e1; cases e1), fun x e => by rw [e] at e2; simp only [Option.map_some, Option.some.injEq] at e2; exact ⟨_, _, e2⟩⟩
      · rename_i k hh e1 e2
        exact ⟨(fun x e => by rw [e] at e1; simp only [Option.map_some, Option.some.injEq] at e1; exact ⟨_, _, e1⟩), fun x e => by rw [e] at e2; cases e2⟩
      · rename_i k ll k' hh e1 e2
        exact ⟨(fun x e => by rw [e] at e1; simp only [Option.map_some, Option.some.injEq] at e1; exact ⟨_, _, e1⟩), fun x e => by rw [e] at e2; simp only [Option.map_some, Option.some.injEq] at e2; exact ⟨_, _, e2⟩⟩
      · exact h'.elim
    obtain ⟨s1, s2⟩ := side ints.1
    obtain ⟨s3, s4⟩ := side ints.2
    exact acut_run (X := Y) hL hti hk hei hx s1 s2 s3 s4 h w
end

section
variable {P : Program} {L : Lay} {g : Base} {N : Nat} {bs : List (Array Value)} {ρ : Nat → Value} {a : Act} {w : World} {st : AS}
theorem atoArr_run (hL : LayOk P L) (R : Rel g N bs ρ a w st) {t : TypeId} {x : AV} {xv : Value} (hx : C2 (cxOf g w ρ st.heap) x xv) {K : AV → Prop} (h : atoArr L t x K) :
    ∃ z u, K z ∧ C2 (cxOf g w ρ st.heap) z u ∧ (Instr.arrayAt t xv).run P w = .ok u w := by
  unfold atoArr at h
  split at h
  · rename_i ti s n sc f hti
    split at h
    · rename_i m e hk
      have hu := array_of hL hti hk
      split at h
      · rename_i ei hei
        cases hb : (Nat.beq s ei.size && Nat.ble 1 m) with
        | false => rw [hb] at h; exact h.elim
        | true =>
          rw [hb] at h
          simp only [cond_true] at h
          simp only [Bool.and_eq_true] at hb
          have hm := Nat.le_of_ble_eq_true hb.2
          obtain ⟨hmn, h⟩ := h
          cases C2.inv_sl hx with
          | sl _ _ _ _ A c us hs0 hnc hcc hl hfl hsc hu' hr =>
            rcases hr with h0 | ⟨b, o, rfl, kb, hcell⟩
            · omega
            · have hall : All2 (PC w (keepOf g w ρ st.heap)) (flat n f) us := ⟨by rw [hl]; exact flat_len hfl, hu'⟩
              have hpre : flat m f = (flat n f).take (m * s) := by
                have := PC.cut.flat_cut (n := 0) (lo := 0) (hi := 0) hfl 0 m (Nat.zero_le _) hmn
                simpa using this
              refine ⟨_, .pointer (some ⟨b, o, none⟩), h, ⟨b, o, us.take (m * s), by simp, kb, by rw [hpre]; exact hall.take _, fun j y hj => ?_⟩, ?_⟩
              · rw [List.getElem?_take] at hj
                split at hj
                · exact hcell j y hj
                · cases hj
              · have : ¬ n < m := by omega
                simp [Instr.arrayAt, run_underlying hu, this]
      · exact h.elim
    · exact h.elim
  · exact h.elim
end
end Go.Proofs.Ytbmojelnkldecaa
