/-
  The abstract machine is right: numbers, truth values, texts, conversions, lengths.
-/
import Derived.Test.YtbmojelnkldecaaAmSndB
import Derived.Laws.IdiomStrings
namespace Go.Proofs.Ytbmojelnkldecaa
open Go.RowKit

section
variable {P : Program} {L : Lay} {g : Base} {N : Nat} {bs : List (Array Value)} {ρ : Nat → Value} {a : Act} {w : World} {st : AS}

theorem Wr.out {n : Int} {K : Int → Prop} {k : IntKind} (h : Wr n K k) : K (k.wrap n) := by
  cases h with
  | i64 h0 h1 h => rw [IntWalk.i64_in n (by omega)]; exact h
  | u64 h0 h1 h => rw [IntWalk.u64_in n (by omega)]; exact h
  | u32 h0 h1 h => rw [IntWalk.u32_in n (by omega)]; exact h
  | u8 h0 h1 h => rw [IntWalk.u8_in n (by omega)]; exact h
  | raw k h => exact h

theorem Spl.out {p A B : Prop} (h : Spl p A B) [Decidable p] : if p then A else B := by
  split
  · rename_i hp; exact h.1 hp
  · rename_i hp; exact h.2 hp

theorem acmp_run {op : BinOp} {x y : Int} {K : AV → Prop} (h : acmp op x y K) (w : World) : ∃ b, K (.v (.bool b)) ∧ (Op.intCmp op x y).run P w = .ok (.bool b) w := by
  cases op <;> simp only [acmp] at h <;> first | (exact h.elim) | skip
  · obtain ⟨h1, h2⟩ := h
    by_cases e : x = y
    · exact ⟨true, h1 e, by simp [Op.intCmp, e]⟩
    · exact ⟨false, h2 e, by simp [Op.intCmp, e]⟩
  · obtain ⟨h1, h2⟩ := h
    by_cases e : x = y
    · exact ⟨false, h1 e, by simp [Op.intCmp, e]⟩
    · exact ⟨true, h2 e, by simp [Op.intCmp, e]⟩
  · obtain ⟨h1, h2⟩ := h
    by_cases e : x < y
    · exact ⟨true, h1 e, by simp [Op.intCmp, e]⟩
    · exact ⟨false, h2 e, by simp [Op.intCmp, e]⟩
  · obtain ⟨h1, h2⟩ := h
    by_cases e : x ≤ y
    · exact ⟨true, h1 e, by simp [Op.intCmp, e]⟩
    · exact ⟨false, h2 e, by simp [Op.intCmp, e]⟩
  · obtain ⟨h1, h2⟩ := h
    by_cases e : y < x
    · exact ⟨true, h1 e, by simp [Op.intCmp, e]⟩
    · exact ⟨false, h2 e, by simp [Op.intCmp, e]⟩
  · obtain ⟨h1, h2⟩ := h
    by_cases e : y ≤ x
    · exact ⟨true, h1 e, by simp [Op.intCmp, e]⟩
    · exact ⟨false, h2 e, by simp [Op.intCmp, e]⟩

theorem aint_run {t : TypeId} {op : BinOp} {k : IntKind} {x y : Int} {K : AV → Prop} (h : aint op k x y K) (w : World) : ∃ u, K (.v u) ∧ (binOp op t (.int k x) (.int k y)).run P w = .ok u w := by
  cases op <;> simp only [aint] at h
  case add => exact ⟨_, h.out, by simp [binOp, Op.intArith]⟩
  case sub => exact ⟨_, h.out, by simp [binOp, Op.intArith]⟩
  case mul => exact ⟨_, h.out, by simp [binOp, Op.intArith]⟩
  case quo =>
    cases h with
    | pos h0 h1 h =>
      have hy : y ≠ 0 := by omega
      exact ⟨_, h.out, by simp [binOp, Op.intDiv, hy, Int.tdiv_eq_ediv_of_nonneg h0]⟩
    | raw hy h => exact ⟨_, h.out, by simp [binOp, Op.intDiv, hy]⟩
  case rem =>
    cases h with
    | pos h0 h1 h =>
      have hy : y ≠ 0 := by omega
      exact ⟨_, h, by simp [binOp, Op.intDiv, hy, Int.tmod_eq_emod_of_nonneg h0]⟩
    | raw hy h => exact ⟨_, h, by simp [binOp, Op.intDiv, hy]⟩
  case and => exact ⟨_, h, by simp [binOp, Op.intBits]⟩
  case or => exact ⟨_, h, by simp [binOp, Op.intBits]⟩
  case xor => exact ⟨_, h, by simp [binOp, Op.intBits]⟩
  all_goals first
    | exact h.elim
    | (obtain ⟨b, hk, hr⟩ := acmp_run (P := P) h w; exact ⟨_, hk, by simp [binOp, hr]⟩)

theorem ashift_run {t : TypeId} {op : BinOp} {k k' : IntKind} {x y : Int} {K : AV → Prop} (hop : op = .shl ∨ op = .shr) (h : ashift op k x y K) (w : World) : ∃ u, K (.v u) ∧ (binOp op t (.int k x) (.int k' y)).run P w = .ok u w := by
  rcases hop with rfl | rfl
  · obtain ⟨hy, h⟩ := h
    exact ⟨_, h.out, by simp [binOp, Op.shift, Int.not_lt.2 hy]⟩
  · obtain ⟨hy, h⟩ := h
    exact ⟨_, h, by simp [binOp, Op.shift, Int.not_lt.2 hy]⟩

theorem toList_inj {a b : ByteArray} (h : a.toList = b.toList) : a = b := by
  rw [ByteArray.toList_eq, ByteArray.toList_eq] at h
  cases a; cases b
  congr
  exact Array.toList_inj.1 h

theorem astr_run {t : TypeId} {op : BinOp} {x y : ByteArray} {K : AV → Prop} (h : astr op x y K) (w : World) : ∃ u, K (.v u) ∧ (binOp op t (.string x) (.string y)).run P w = .ok u w := by
  cases op <;> simp only [astr] at h <;> first | (exact h.elim) | skip
  · obtain ⟨hs, h⟩ := h
    refine ⟨_, h, ?_⟩
    have hm : ¬ (((x.size + y.size : Nat) : Int) > IntKind.i64.max) := by
      show ¬ (_ > (9223372036854775807 : Int))
      omega
    simp only [binOp, Op.stringOp, if_neg hm]
    rfl
  · obtain ⟨h1, h2⟩ := h
    by_cases e : x = y
    · exact ⟨_, h1 e, by simp [binOp, Op.stringOp, e]⟩
    · have e' : (x.toList == y.toList) = false := by rw [beq_eq_false_iff_ne]; exact fun hh => e (toList_inj hh)
      exact ⟨_, h2 e, by simp [binOp, Op.stringOp, e']⟩
  · obtain ⟨h1, h2⟩ := h
    by_cases e : x = y
    · exact ⟨_, h1 e, by simp [binOp, Op.stringOp, e]⟩
    · have e' : (x.toList == y.toList) = false := by rw [beq_eq_false_iff_ne]; exact fun hh => e (toList_inj hh)
      exact ⟨_, h2 e, by simp [binOp, Op.stringOp, e']⟩
  · obtain ⟨h1, h2⟩ := h
    cases e : Op.bytesLess x.toList y.toList with
    | true => exact ⟨_, h1 e, by simp [binOp, Op.stringOp, e]⟩
    | false => exact ⟨_, h2 (by simp [e]), by simp [binOp, Op.stringOp, e]⟩

/-- What '==' asks of its type. -/
theorem guard_plain {op : BinOp} {t : TypeId} {x y : Operand} {u v : Value} (hu : u.oneCell' = true) (hn : u ≠ .nilIface) (w : World) : (eqGuard op t x y u v).run P w = .ok () w := by
  unfold eqGuard
  cases op <;> cases u <;> first | (simp [Value.oneCell'] at hu; done) | (exact absurd rfl hn) | (cases v <;> simp)

theorem abin_run (hL : LayOk P L) {X : CX} {op : BinOp} {t : TypeId} {ox oy : Operand} {x y : AV} {xv yv : Value} (hx : C2 X x xv) (hy : C2 X y yv) {K : AV → Prop} (h : abin P L op t x y K) (w : World) :
    ∃ z u, K z ∧ C2 X z u ∧ (eqGuard op t ox oy xv yv).run P w = .ok () w ∧ (binOp op t xv yv).run P w = .ok u w := by
  unfold abin at h
  split at h
  · rename_i k a k' b
    obtain rfl := C2.inv_v hx
    obtain rfl := C2.inv_v hy
    have hg := guard_plain (P := P) (op := op) (t := t) (x := ox) (y := oy) (u := .int k a) (v := .int k' b) rfl (by simp) w
    split at h
    · obtain ⟨u, hk, hr⟩ := ashift_run (P := P) (t := t) (k' := k') (.inl rfl) h w
      exact ⟨_, u, hk, rfl, hg, hr⟩
    · obtain ⟨u, hk, hr⟩ := ashift_run (P := P) (t := t) (k' := k') (.inr rfl) h w
      exact ⟨_, u, hk, rfl, hg, hr⟩
    · by_cases e : k = k'
      · subst e
        simp only [decide_true, cond_true] at h
        obtain ⟨u, hk, hr⟩ := aint_run (P := P) (t := t) h w
        exact ⟨_, u, hk, rfl, hg, hr⟩
      · simp only [e, decide_false, cond_false] at h
  · rename_i a b
    obtain rfl := C2.inv_v hx
    obtain rfl := C2.inv_v hy
    obtain ⟨u, hk, hr⟩ := astr_run (P := P) (t := t) h w
    exact ⟨_, u, hk, rfl, guard_plain rfl (by simp) w, hr⟩
  · rename_i a b
    obtain rfl := C2.inv_v hx
    obtain rfl := C2.inv_v hy
    split at h
    · rename_i i hi
      obtain ⟨info, z, d, h1, h2, h3, h4, h5, h6, h7⟩ := fact_of hL hi
      split at h
      · rename_i hk
        rw [hk] at h7
        cases d <;> simp only [kindOf] at h7 <;> first | (cases h7; done) | skip
        exact ⟨_, _, h, rfl, guard_plain rfl (by simp) w, run_eql_bool w t a b h2⟩
      · rename_i hk
        rw [hk] at h7
        cases d <;> simp only [kindOf] at h7 <;> first | (cases h7; done) | skip
        exact ⟨_, _, h, rfl, guard_plain rfl (by simp) w, run_neq_bool w t a b h2⟩
      · exact h.elim
    · exact h.elim
  · rename_i cs ds
    obtain ⟨us, rfl, ha⟩ := C2.inv_agg hx
    obtain ⟨vs, rfl, hb⟩ := C2.inv_agg hy
    split at h
    · obtain ⟨us', vs', p, rfl, rfl, ⟨hgt, hp⟩, hs⟩ := h
      obtain rfl := all_v ha
      obtain rfl := all_v hb
      obtain ⟨b, hbp, hr⟩ := hp w
      refine ⟨.v (.bool b), .bool b, ?_, rfl, by simp [eqGuard, hgt], by simp [binOp, hr]⟩
      cases b with
      | true => exact hs.1 (hbp.1 rfl)
      | false => exact hs.2 (fun q => by cases hbp.2 q)
    · obtain ⟨us', vs', p, rfl, rfl, ⟨hgt, hp⟩, hs⟩ := h
      obtain rfl := all_v ha
      obtain rfl := all_v hb
      obtain ⟨b, hbp, hr⟩ := hp w
      refine ⟨.v (.bool (!b)), .bool (!b), ?_, rfl, by simp [eqGuard, hgt], by simp [binOp, hr]⟩
      cases b with
      | true => exact hs.1 (hbp.1 rfl)
      | false => exact hs.2 (fun q => by cases hbp.2 q)
    · exact h.elim
  · exact h.elim
where
  all_v {X : CX} : ∀ {us vs : List Value}, All2 (C0 X) (us.map .v) vs → vs = us
    | [], vs, h => by
      have := h.1
      simp at this
      exact List.eq_nil_of_length_eq_zero this.symm
    | u :: us, [], h => by have := h.1; simp at this
    | u :: us, v :: vs, h => by
      have h0 := h.2 0 _ _ rfl rfl
      have : vs = us := all_v ⟨by simpa using h.1, fun i x y hx hy => h.2 (i + 1) x y (by simpa using hx) (by simpa using hy)⟩
      rw [this, show v = u from h0]

theorem aun_run {X : CX} {op : UnOp} {x : AV} {xv : Value} (hx : C2 X x xv) {K : AV → Prop} (h : aun op x K) (w : World) : ∃ z u, K z ∧ C2 X z u ∧ (Op.unary op xv).run P w = .ok u w := by
  unfold aun at h
  split at h
  · obtain rfl := C2.inv_v hx
    exact ⟨_, _, h, rfl, rfl⟩
  · obtain rfl := C2.inv_v hx
    exact ⟨_, _, h.out, rfl, rfl⟩
  · obtain rfl := C2.inv_v hx
    exact ⟨_, _, h, rfl, rfl⟩
  · exact h.elim

theorem alen_run (hL : LayOk P L) (R : Rel g N bs ρ a w st) {t ty : TypeId} {x : AV} {xv : Value} (hx : C2 (cxOf g w ρ st.heap) x xv) {K : AV → Prop} (h : alen L st t x K) :
    ∃ z u, K z ∧ C2 (cxOf g w ρ st.heap) z u ∧ (Builtin.len_ #[t] ty #[xv]).run P w = .ok u w := by
  unfold alen at h
  split at h
  · exact h.elim
  · rename_i i hi
    split at h
    · rename_i b hk
      obtain rfl := C2.inv_v hx
      exact ⟨_, _, h, rfl, by simp [Builtin.len_, run_underlying (str_of hL hi hk), goInt]⟩
    · rename_i e n c hk
      obtain rfl := C2.inv_v hx
      exact ⟨_, _, h, rfl, by simp [Builtin.len_, run_underlying (slice_of hL hi hk), goInt]⟩
    · rename_i e s n sc f hk
      cases C2.inv_sl hx with
      | sl _ _ _ _ A c us hs0 hn hc hl hf hsc hu' hr =>
        exact ⟨_, _, h, rfl, by simp [Builtin.len_, run_underlying (slice_of hL hi hk), goInt]⟩
    · rename_i e id hk
      split at h
      · rename_i ee s n sc f hfo
        obtain ⟨us, hown, _⟩ := R.objs _ (findObj_mem hfo)
        have hown : w.ownsRow 0 ee s (ρ id) n us := hown
        have hxv : xv = ρ id := C2.inv_own hx
        rcases hown.2 with ⟨hv, hz⟩ | ⟨b, cap, cur, hv, _⟩
        · rw [hxv, hv]
          exact ⟨_, _, h, rfl, by simp [Builtin.len_, run_underlying (slice_of hL hi hk), goInt, hz]⟩
        · rw [hxv, hv]
          exact ⟨_, _, h, rfl, by simp [Builtin.len_, run_underlying (slice_of hL hi hk), goInt]⟩
      · exact h.elim
    · rename_i m e hk
      exact ⟨_, _, h, rfl, by simp [Builtin.len_, run_underlying (array_of hL hi hk), goInt]⟩
    · exact h.elim

theorem amin_run {X : CX} {x y : AV} {xv yv : Value} (hx : C2 X x xv) (hy : C2 X y yv) {K : AV → Prop} (h : amin x y K) (ts : Array TypeId) (ty : TypeId) (w : World) : ∃ z u, K z ∧ C2 X z u ∧ (Builtin.min_ ts ty #[xv, yv]).run P w = .ok u w := by
  unfold amin at h
  split at h
  · obtain rfl := C2.inv_v hx
    obtain rfl := C2.inv_v hy
    exact ⟨_, _, h, rfl, run_min_int2 w ts ty _ _ _ _⟩
  · exact h.elim
theorem amax_run {X : CX} {x y : AV} {xv yv : Value} (hx : C2 X x xv) (hy : C2 X y yv) {K : AV → Prop} (h : amax x y K) (ts : Array TypeId) (ty : TypeId) (w : World) : ∃ z u, K z ∧ C2 X z u ∧ (Builtin.max_ ts ty #[xv, yv]).run P w = .ok u w := by
  unfold amax at h
  split at h
  · obtain rfl := C2.inv_v hx
    obtain rfl := C2.inv_v hy
    exact ⟨_, _, h, rfl, run_max_int2 w ts ty _ _ _ _⟩
  · exact h.elim

/-- The cells of a slice of bytes that reads as bs. -/
theorem bytes_cells {R : AV → Value → Prop} (hR : ∀ y u, R (.v y) u → u = y) : ∀ {n : Nat} {f : Nat → List AV} {us : List Value} {bs : List UInt8}, All2 R (flat n f) us → n = bs.length → (∀ i, i < n → f i = [.v (.int .u8 ((bs.getD i 0).toNat : Int))]) →
    ∀ (j : Nat) (hj : j < bs.length), us[j]? = some (.int .u8 (bs[j].toNat : Int))
  | 0, _, _, [], _, _, _, j, hj => by simp at hj
  | 0, _, _, b :: bs, _, hn, _, _, _ => by simp at hn
  | n + 1, f, us, [], _, hn, _, _, _ => by simp at hn
  | n + 1, f, us, b :: bs, ha, hn, hf, j, hj => by
    have e0 := hf 0 (by omega)
    have hfl : flat (n + 1) f = f 0 ++ flat n (fun i => f (i + 1)) := rfl
    rw [hfl, e0] at ha
    cases us with
    | nil => have := ha.1; simp at this
    | cons u us =>
      have h0 := hR _ _ (ha.2 0 _ _ rfl rfl)
      have ht : All2 R (flat n (fun i => f (i + 1))) us := ⟨by have h1 := ha.1; simp at h1; omega, fun i x y hx hy => ha.2 (i + 1) x y (by simpa using hx) (by simpa using hy)⟩
      cases j with
      | zero => simp [h0]
      | succ j =>
        have := bytes_cells hR (bs := bs) ht (by simpa using hn) (fun i hi => by have := hf (i + 1) (by omega); simpa using this) j (by simpa using hj)
        simpa using this

theorem aconvert_run (hL : LayOk P L) (R : Rel g N bs ρ a w st) {src dst : TypeId} {x : AV} {xv : Value} (hx : C2 (cxOf g w ρ st.heap) x xv) {K : AV → Prop} (h : aconvert L st src dst x K) :
    ∃ z u, K z ∧ C2 (cxOf g w ρ st.heap) z u ∧ (convert src dst xv).run P w = .ok u w := by
  unfold aconvert at h
  split at h
  · rename_i si di hsi hdi
    obtain ⟨info, z, d, h1, h2, h3, h4, h5, h6, h7⟩ := fact_of hL hsi
    split at h
    · rename_i k kk n hk
      obtain rfl := C2.inv_v hx
      exact ⟨_, _, h.out, rfl, by cases d <;> simp [convert, run_underlying h2, run_underlying (int_of hL hdi hk), Conv.intToInt]⟩
    · rename_i s hk
      obtain rfl := C2.inv_v hx
      exact ⟨_, _, h, rfl, by cases d <;> simp [convert, run_underlying h2, run_underlying (str_of hL hdi hk)]⟩
    · rename_i e s n sc f hsk hdk
      split at h
      · rename_i ei hei
        split at h
        · rename_i hek
          obtain ⟨bs, hn, hf, hk⟩ := h
          cases C2.inv_sl hx with
          | sl _ _ _ _ A c us hs0 hnc hc hl hfl hsc hu' hr =>
            refine ⟨_, .string ⟨bs.toArray⟩, hk, rfl, ?_⟩
            subst hn
            have hall : All2 (PC w (keepOf g w ρ st.heap)) (flat bs.length f) us := ⟨by rw [hl]; exact aindexAddr_run.flat_length hfl, hu'⟩
            have hcells := bytes_cells (fun y u h => by cases h; rfl) hall rfl hf
            rcases hr with hz | ⟨b, o, rfl, kb, hcell⟩
            · have hb : bs = [] := List.eq_nil_of_length_eq_zero hz
              subst hb
              cases A with
              | none =>
                rw [show ([] : List UInt8).length = 0 from rfl, run_convert_bytes_string w _ _ _ none 0 c (slice_of hL hsi hsk) (int_of hL hei hek) (str_of hL hdi hdk)]
                rfl
              | some aa => exact run_convert_bytes_back w _ _ _ aa c [] (slice_of hL hsi hsk) (int_of hL hei hek) (str_of hL hdi hdk) (fun j hj => by simp at hj)
            · refine run_convert_bytes_back w _ _ _ ⟨b, o, none⟩ c bs (slice_of hL hsi hsk) (int_of hL hei hek) (str_of hL hdi hdk) (fun j hj => ?_)
              rw [Addr.add_lit]
              exact hcell j _ (hcells j hj)
        · exact h.elim
      · exact h.elim
    · rename_i e id hsk hdk
      split at h
      · rename_i ee s n sc f hfo
        split at h
        · rename_i ei hei
          split at h
          · rename_i hek
            obtain ⟨bs, hn, hf, hk⟩ := h
            refine ⟨_, .string ⟨bs.toArray⟩, hk, rfl, ?_⟩
            obtain ⟨us, hown, hs0, hfl, hsc, ha⟩ := R.objs _ (findObj_mem hfo)
            have hown : w.ownsRow 0 ee s (ρ id) n us := hown
            have ha : All2 (PC w (keepOf g w ρ st.heap)) (flat n f) us := ha
            subst hn
            have hcells := bytes_cells (fun y u h => by cases h; rfl) ha rfl hf
            have hxv : xv = ρ id := C2.inv_own hx
            rcases hown.2 with ⟨hv, hz⟩ | ⟨b, cap, cur, hv, _⟩
            · have hb : bs = [] := List.eq_nil_of_length_eq_zero hz
              subst hb
              rw [hxv, hv, run_convert_bytes_string w _ _ _ none 0 0 (slice_of hL hsi hsk) (int_of hL hei hek) (str_of hL hdi hdk)]
              rfl
            · rw [hxv, hv]
              refine run_convert_bytes_back w _ _ _ ⟨b, 0, none⟩ cap bs (slice_of hL hsi hsk) (int_of hL hei hek) (str_of hL hdi hdk) (fun j hj => ?_)
              exact hown.cells (g := b) (by rw [hv]; rfl) j _ (hcells j hj)
          · exact h.elim
        · exact h.elim
      · exact h.elim
    · exact h.elim
  · exact h.elim
end
end Go.Proofs.Ytbmojelnkldecaa
