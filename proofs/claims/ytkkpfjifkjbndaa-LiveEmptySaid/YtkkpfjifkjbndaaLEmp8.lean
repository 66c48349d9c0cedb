/-
  Contracts of the walk: LvN, LvA, LvB.
-/
import Derived.Test.YtkkpfjifkjbndaaLEmp7
import Derived.Test.YtkkpfjifkjbndaaLEmp1
/-
  sync.Once and the atomics as the abstract machine asks for them: of a variable of the call's own.
-/
namespace Go.Proofs.Ytkkpfjifkjbndaa
open Go.RowKit

/-- A memory of which one cell of one block was written. -/
theorem cell_set {w : World} {b i : Nat} {us : List Value} {t : TypeId} (v : Value) (hh : w.heap[b]? = some (.cells us.toArray t (0, 0))) :
    (w.setCell ⟨b, i, none⟩ v).heap[b]? = some (.cells (us.set i v).toArray t (0, 0)) ∧ (∀ k, k ≠ b → (w.setCell ⟨b, i, none⟩ v).heap[k]? = w.heap[k]?) ∧ (w.setCell ⟨b, i, none⟩ v).heap.size = w.heap.size ∧
      (w.setCell ⟨b, i, none⟩ v).os = w.os ∧ (w.setCell ⟨b, i, none⟩ v).tape = w.tape ∧ (w.setCell ⟨b, i, none⟩ v).output = w.output := by
  refine ⟨?_, fun k hk => Below.heap_setCell _ _ _ _ hk, by simp, rfl, rfl, rfl⟩
  rw [heap_setCell_same w b i _ t v hh]
  simp
theorem cell_get {w : World} {b i : Nat} {us : List Value} {t : TypeId} (hh : w.heap[b]? = some (.cells us.toArray t (0, 0))) : w.cell? ⟨b, i, none⟩ = us[i]? ∧ w.frozen? ⟨b, i, none⟩ = false := by
  constructor
  · simp [World.cell?, hh]
  · simp [World.frozen?, hh]
theorem All2.at {R : AV → Value → Prop} {cs : List AV} {us : List Value} (h : All2 R cs us) {i : Nat} {x : AV} (hx : cs[i]? = some x) : ∃ u, us[i]? = some u ∧ R x u := h.get hx
/-- A contract of a function that writes (or only reads) one cell of a variable. -/
theorem MSpec.cell {P : Program} {f : FuncId} {t : TypeId} {cs : List AV} {off : Nat} {x y : Value} {xs : List Value} {r : Value} (hE : Enters P f) (hx : cs[off]? = some (.v x))
    (h : ∀ (b : Nat) (w : World), w.cell? ⟨b, off, none⟩ = some x → w.frozen? ⟨b, off, none⟩ = false → Calls P f (.pointer (some ⟨b, off, none⟩) :: xs).toArray w fun e w' => e = .returned r ∧ w' = w.setCell ⟨b, off, none⟩ y) :
    MSpec P f [(0, .box t cs)] (.box 0 off :: xs.map .v) (.v r) [(0, .box t (cs.set off (.v y)))] := by
  refine ⟨hE, fun w keep ρ args hk hobj hnd hbl hargs => ?_⟩
  obtain ⟨b, us, e, hh, ha⟩ := hobj _ (List.mem_singleton.2 rfl)
  have e : ρ 0 = _ := e
  have hh : w.heap[b]? = _ := hh
  cases args with
  | nil => have := hargs.1; simp at this
  | cons a0 tl =>
    obtain ⟨b0, hb0, ea⟩ : ∃ b0, hdV (ρ 0) = .pointer (some ⟨b0, 0, none⟩) ∧ a0 = .pointer (some ⟨b0, off, none⟩) := hargs.2 0 _ _ rfl rfl
    rw [e] at hb0
    cases hb0
    subst ea
    have hxs : tl = xs := spec_plain.spec_args (X := ⟨w, keep, ρ⟩) ⟨by simpa using hargs.1, fun i x u hx hu => hargs.2 (i + 1) x u (by simpa using hx) (by simpa using hu)⟩
    subst hxs
    obtain ⟨u, hu, hxu⟩ := ha.get hx
    have hxu : u = x := hxu
    subst hxu
    obtain ⟨g1, g2⟩ := cell_get (i := off) hh
    refine (h b w (g1.trans hu) g2).mono ?_
    rintro e0 w' ⟨rfl, rfl⟩
    obtain ⟨s1, s2, s3, s4, s5, s6⟩ := cell_set (i := off) y hh
    have hb : blocksOf ρ [(0, .box t cs)] = [b] := by rw [single_blocks, e]; rfl
    have hb' : blocksOf ρ [(0, .box t (cs.set off (.v y)))] = [b] := by rw [single_blocks, e]; rfl
    have hkk : ∀ q, keep q → keepOf ⟨w, keep, fun b => b ∈ blocksOf ρ [(0, .box t cs)]⟩ (w.setCell ⟨b, off, none⟩ y) ρ [(0, .box t (cs.set off (.v y)))] q := fun q hq =>
      ⟨by rw [s3]; exact hk q hq, fun _ => .inl hq, fun h => (hbl q (by rw [hb]; rw [hb'] at h; exact h)).2 hq⟩
    have hne : ∀ q, keep q → q ≠ b := fun q hq e => (hbl q (by rw [hb, e]; exact List.mem_cons_self)).2 hq
    refine ⟨_, ρ, rfl, ⟨s4, s5, s6, by rw [s3]; exact Nat.le_refl _, fun k hk hM => s2 k fun e => hM (by rw [hb, e]; exact List.mem_cons_self)⟩, fun _ _ _ _ _ => .refl _, rfl, fun p hp => ?_, by rw [hb']; simp, fun q hq => .inr (by rw [hb] ; rw [hb'] at hq; exact hq)⟩
    obtain rfl := List.mem_singleton.1 hp
    refine ⟨b, us.set off y, e, s1, ?_⟩
    exact (ha.imp fun _ _ => C0.same (X := ⟨w, keep, ρ⟩) (Y := cxOf ⟨w, keep, fun b => b ∈ blocksOf ρ [(0, .box t cs)]⟩ (w.setCell ⟨b, off, none⟩ y) ρ [(0, .box t (cs.set off (.v y)))]) hkk (fun q hq => s2 q (hne q hq)) rfl).set off rfl
theorem set_same {α : Type} : ∀ (l : List α) (i : Nat) (x : α), l[i]? = some x → l.set i x = l
  | [], _, _, h => by simp at h
  | y :: l, 0, x, h => by simp at h; rw [h]; rfl
  | y :: l, i + 1, x, h => by rw [List.set_cons_succ, set_same l i x (by simpa using h)]
theorem setCell_same {w : World} {a : Addr} {v : Value} (hs : a.spot = none) (h : w.cell? a = some v) : w.setCell a v = w := by
  obtain ⟨b, off, sp⟩ := a
  subst hs
  unfold World.cell? at h
  have key : (w.setCell ⟨b, off, none⟩ v).heap = w.heap := by
    apply Array.ext_getElem?
    intro k
    by_cases e : k = b
    · subst e
      cases hb : w.heap[k]? with
      | none => simp [hb] at h
      | some o =>
        simp [hb] at h
        cases o with
        | cells c t fr =>
          have hc : c.setIfInBounds off v = c := by
            apply Array.ext_getElem?
            intro j
            rw [Array.getElem?_setIfInBounds]
            split
            · rename_i ej
              subst ej
              simp at h
              split
              · exact h.symm
              · rename_i hlt
                rw [Array.getElem?_eq_none (by omega)]
            · rfl
          simp [World.setCell, Array.getElem?_modify, hb, hc]
        | _ => simp at h
    · exact Below.heap_setCell _ _ _ _ e
  show ({ w with heap := (w.setCell ⟨b, off, none⟩ v).heap } : World) = w
  rw [key]
/-- A call that writes one cell of a variable. -/
theorem ACall.cell {P : Program} {L : Lay} {W : Walk} {d : Nat} {f : FuncId} {avs : List AV} {st : AS} {K : AV → AS → Prop} (id off : Nat) {t : TypeId} {cs : List AV} {x y r : Value} {xs : List Value} (hE : Enters P f) (hf : findObj id st.heap = some (.box t cs)) (hx : cs[off]? = some (.v x)) (ha : avs = .box id off :: xs.map .v)
    (h : ∀ (b : Nat) (w : World), w.cell? ⟨b, off, none⟩ = some x → w.frozen? ⟨b, off, none⟩ = false → Calls P f (.pointer (some ⟨b, off, none⟩) :: xs).toArray w fun e w' => e = .returned r ∧ w' = w.setCell ⟨b, off, none⟩ y)
    (hK : K (.v r) ⟨st.sl, setObj id (.box t (cs.set off (.v y))) st.heap, st.back, st.base⟩) : ACall P L W d f avs st K := by
  refine .sem hE fun g N bs ρ a w args R hargs => ?_
  subst ha
  obtain ⟨b, us, e, hh, hc⟩ := R.objs _ (findObj_mem hf)
  have e : ρ id = _ := e
  have hh : w.heap[b]? = _ := hh
  cases args with
  | nil => have := hargs.1; simp at this
  | cons a0 tl =>
    obtain ⟨b0, hb0, ea⟩ : ∃ b0, hdV (ρ id) = .pointer (some ⟨b0, 0, none⟩) ∧ a0 = .pointer (some ⟨b0, off, none⟩) := hargs.2 0 _ _ rfl rfl
    rw [e] at hb0
    cases hb0
    subst ea
    have hxs : tl = xs := by
      refine spec_plain.spec_args (X := cxOf g w ρ st.heap) ⟨by simpa using hargs.1, fun i x u hx hu => ?_⟩
      rw [List.getElem?_map] at hx
      cases hq : xs[i]? with
      | none => rw [hq] at hx; cases hx
      | some q =>
        rw [hq] at hx
        cases hx
        exact hargs.2 (i + 1) (.v q) u (by simp [hq]) (by simpa using hu)
    subst hxs
    obtain ⟨u, hu, hxu⟩ := hc.get hx
    have hxu : u = x := hxu
    subst hxu
    obtain ⟨g1, g2⟩ := cell_get (i := off) hh
    refine (h b w (g1.trans hu) g2).mono ?_
    rintro e0 w' ⟨rfl, rfl⟩
    obtain ⟨s1, s2, s3, s4, s5, s6⟩ := cell_set (i := off) y hh
    refine ⟨_, _, _, ρ, rfl, hK, R.write hf (b := b) (by rw [e]; exact List.mem_cons_self) ⟨s4, s5, s6, by rw [s3]; exact Nat.le_refl _, fun k hk => s2 k (by omega)⟩ s3 s2 (fun hk hm => ?_), rfl⟩
    exact ⟨b, us.set off y, e, s1, (hc.imp fun _ _ => C0.same (X := cxOf g w ρ st.heap) (Y := cxOf g (w.setCell ⟨b, off, none⟩ y) ρ (setObj id (.box t (cs.set off (.v y))) st.heap)) hk hm rfl).set off rfl⟩
/-- Do, where it was done. -/
theorem ACall.done {L : Lay} {W : Walk} {d : Nat} {g : AV} {st : AS} {K : AV → AS → Prop} (id : Nat) {t : TypeId} {cs : List AV} (hf : findObj id st.heap = some (.box t cs)) (hx : cs[0]? = some (.v (.int .u32 1))) (hK : K (.tup []) st) : ACall Try.prog L W d 14 [.box id 0, g] st K := by
  refine .sem ⟨_, _, Try.func14, rfl, rfl⟩ fun G N bs ρ a w args R hargs => ?_
  obtain ⟨b, us, e, hh, hc⟩ := R.objs _ (findObj_mem hf)
  have e : ρ id = _ := e
  have hh : w.heap[b]? = _ := hh
  obtain ⟨a0, a1, rfl, h0, h1⟩ := two_args hargs
  obtain ⟨b0, hb0, rfl⟩ : ∃ b0, hdV (ρ id) = .pointer (some ⟨b0, 0, none⟩) ∧ a0 = .pointer (some ⟨b0, 0, none⟩) := h0
  rw [e] at hb0
  cases hb0
  obtain ⟨u, hu, hxu⟩ := hc.get hx
  have hxu : u = _ := hxu
  subst hxu
  obtain ⟨g1, g2⟩ := cell_get (i := 0) hh
  refine (o_done ⟨b, 0, none⟩ a1 w (g1.trans hu)).mono ?_
  rintro e0 w' ⟨rfl, rfl⟩
  exact ⟨_, _, _, ρ, rfl, hK, R, [], rfl, All2.nil⟩
theorem add_in64 {x y : Int} (h1 : -9223372036854775808 ≤ x + y) (h2 : x + y ≤ 9223372036854775807) (w : World) : (Op.intArith .add .i64 x y).run Try.prog w = .ok (.int .i64 (x + y)) w := by
  have : IntKind.i64.wrap (x + y) = x + y := by
    simp only [IntKind.wrap, IntKind.signed, IntKind.bits]
    simp
    omega
  simp [Op.intArith, this]
theorem ACall.add {L : Lay} {W : Walk} {d : Nat} {st : AS} {K : AV → AS → Prop} (id off : Nat) {t : TypeId} {cs : List AV} {x y : Int} (hf : findObj id st.heap = some (.box t cs)) (hx : cs[off]? = some (.v (.int .i64 x))) (h1 : -9223372036854775808 ≤ x + y) (h2 : x + y ≤ 9223372036854775807)
    (hK : K (.v (.int .i64 (x + y))) ⟨st.sl, setObj id (.box t (cs.set off (.v (.int .i64 (x + y))))) st.heap, st.back, st.base⟩) : ACall Try.prog L W d 17 [.box id off, .v (.int .i64 y)] st K :=
  ACall.cell (xs := [.int .i64 y]) id off ⟨_, _, Try.func17, rfl, rfl⟩ hf hx rfl (fun b w hc hz => o_add ⟨b, off, none⟩ x y (x + y) w hc hz (add_in64 h1 h2 w)) hK
theorem add_m (t : TypeId) (cs : List AV) (off : Nat) (x y z : Int) (hx : cs[off]? = some (.v (.int .i64 x))) (hs : ∀ w, (Op.intArith .add .i64 x y).run Try.prog w = .ok (.int .i64 z) w) :
    MSpec Try.prog 17 [(0, .box t cs)] [.box 0 off, .v (.int .i64 y)] (.v (.int .i64 z)) [(0, .box t (cs.set off (.v (.int .i64 z))))] :=
  MSpec.cell (xs := [.int .i64 y]) ⟨_, _, Try.func17, rfl, rfl⟩ hx fun b w hc hz => o_add ⟨b, off, none⟩ x y z w hc hz (hs w)
theorem load_m (t : TypeId) (cs : List AV) (off : Nat) (x : Int) (hx : cs[off]? = some (.v (.int .i64 x))) :
    MSpec Try.prog 21 [(0, .box t cs)] [.box 0 off] (.v (.int .i64 x)) [(0, .box t cs)] := by
  have := MSpec.cell (P := Try.prog) (f := 21) (t := t) (xs := []) (y := .int .i64 x) (r := .int .i64 x) ⟨_, _, Try.func21, rfl, rfl⟩ hx fun b w hc hz => by
    refine (o_load ⟨b, off, none⟩ x w hc).mono ?_
    rintro e w' ⟨rfl, rfl⟩
    exact ⟨rfl, (setCell_same rfl hc).symm⟩
  rw [set_same _ _ _ hx] at this
  exact this
/-- Do, not yet done: what the function handed over does, by its contract (the lock is held meanwhile). -/
theorem first_m (t t1 : TypeId) (rest rest' : List AV) (c : List AV) (ho : List (Nat × AO))
    (hcl : MSpec Try.prog 15 [(0, .box t (.v (.int .u32 0) :: .v (.int .i32 1) :: rest)), (1, .box t1 c)] [.box 1 0] (.tup []) ((0, .box t (.v (.int .u32 0) :: .v (.int .i32 1) :: rest')) :: ho)) (hne : hasN 0 ho = false) :
    MSpec Try.prog 14 [(0, .box t (.v (.int .u32 0) :: .v (.int .i32 0) :: rest)), (1, .box t1 c)] [.box 0 0, .fn 15 [.box 1 0]] (.tup []) ((0, .box t (.v (.int .u32 1) :: .v (.int .i32 0) :: rest')) :: ho) := by
  refine ⟨⟨_, _, Try.func14, rfl, rfl⟩, fun w keep ρ args hk hobj hnd hbl hargs => ?_⟩
  obtain ⟨b, us, e, hh, ha⟩ := hobj _ List.mem_cons_self
  have e : ρ 0 = _ := e
  have hh : w.heap[b]? = _ := hh
  have ha : All2 (C0 ⟨w, keep, ρ⟩) _ us := ha
  obtain ⟨a0, a1, rfl, h0, h1⟩ := two_args hargs
  obtain ⟨b0, hb0, rfl⟩ : ∃ b0, hdV (ρ 0) = .pointer (some ⟨b0, 0, none⟩) ∧ a0 = .pointer (some ⟨b0, 0, none⟩) := h0
  rw [e] at hb0
  cases hb0
  obtain ⟨cs, rfl, hcs⟩ : ∃ us : List Value, a1 = .func (.func 15) #[] us.toArray ∧ All2 (C0 ⟨w, keep, ρ⟩) [.box 1 0] us := h1
  obtain ⟨u0, hu0, hx0⟩ := ha.get (i := 0) rfl
  obtain ⟨u1, hu1, hx1⟩ := ha.get (i := 1) rfl
  have hx0 : u0 = _ := hx0
  have hx1 : u1 = _ := hx1
  subst hx0 hx1
  obtain ⟨g0, z0⟩ := cell_get (i := 0) hh
  obtain ⟨g1, z1⟩ := cell_get (i := 1) hh
  obtain ⟨s1, s2, s3, s4, s5, s6⟩ := cell_set (i := 1) (.int .i32 1) hh
  let w2 := w.setCell ⟨b, 1, none⟩ (.int .i32 1)
  let hin : List (Nat × AO) := [(0, .box t (.v (.int .u32 0) :: .v (.int .i32 0) :: rest)), (1, .box t1 c)]
  let hin' : List (Nat × AO) := [(0, .box t (.v (.int .u32 0) :: .v (.int .i32 1) :: rest)), (1, .box t1 c)]
  have hbe : blocksOf ρ hin' = blocksOf ρ hin := rfl
  have hbin : b ∈ blocksOf ρ hin := mem_blocks.2 ⟨_, List.mem_cons_self, by show b ∈ blks (ρ 0); rw [e]; exact List.mem_cons_self⟩
  have hne' : ∀ q, keep q → q ≠ b := fun q hq e => (hbl q (by rw [e]; exact hbin)).2 hq
  have hsame : ∀ q, keep q → w2.heap[q]? = w.heap[q]? := fun q hq => s2 q (hne' q hq)
  have hob : ∀ p ∈ hin', ObjOk ⟨w2, keep, ρ⟩ p.1 p.2 := by
    intro p hp
    rcases List.mem_cons.1 hp with rfl | hp
    · exact ⟨b, us.set 1 (.int .i32 1), e, s1, (ha.imp fun _ _ => C0.same (X := ⟨w, keep, ρ⟩) (Y := ⟨w2, keep, ρ⟩) (fun _ h => h) hsame rfl).set 1 (x := .v (.int .i32 1)) rfl⟩
    · obtain rfl := List.mem_singleton.1 hp
      refine ObjOk.same (X := ⟨w, keep, ρ⟩) (Y := ⟨w2, keep, ρ⟩) (fun _ h => h) hsame rfl (fun q hq => s2 q ?_) (hobj _ (List.mem_cons_of_mem _ hp))
      rintro rfl
      have : (0 : Nat) = 1 := blocks_apart hnd (0, .box t (.v (.int .u32 0) :: .v (.int .i32 0) :: rest)) List.mem_cons_self (1, .box t1 c) (List.mem_cons_of_mem _ hp) (by show q ∈ blks (ρ 0); rw [e]; exact List.mem_cons_self) hq
      omega
  have hcall := hcl.2 w2 keep ρ cs (fun q hq => by rw [s3]; exact hk q hq) hob hnd (fun q hq => ⟨by rw [s3]; exact (hbl q hq).1, (hbl q hq).2⟩) (hcs.imp fun x u h => C1.of0 (C0.same (X := ⟨w, keep, ρ⟩) (Y := ⟨w2, keep, ρ⟩) (fun _ h => h) hsame rfl h))
  let hout' : List (Nat × AO) := (0, .box t (.v (.int .u32 0) :: .v (.int .i32 1) :: rest')) :: ho
  let hout : List (Nat × AO) := (0, .box t (.v (.int .u32 1) :: .v (.int .i32 0) :: rest')) :: ho
  refine (o_first b 0 cs.toArray w (fun w1 => ∃ ρ', BelowM (fun q => q ∈ blocksOf ρ hin) w2.heap.size w2 w1 ∧ (∀ p ∈ hin', ∀ q ∈ hout', q.1 = p.1 → HdEq (ρ' p.1) (ρ p.1)) ∧ (∀ p ∈ hout', ObjOk (cxOf ⟨w2, keep, fun q => q ∈ blocksOf ρ hin⟩ w1 ρ' hout') p.1 p.2) ∧ (blocksOf ρ' hout').Nodup ∧ ∀ q ∈ blocksOf ρ' hout', w2.heap.size ≤ q ∨ q ∈ blocksOf ρ hin)
    (g0.trans hu0) (g1.trans hu1) z1 (hcall.mono ?_) ?_).mono ?_
  · rintro e0 w1 ⟨u, ρ', rfl, a1, a2, a3, a4, a5, a6⟩
    obtain ⟨vs, rfl, hvs⟩ : ∃ us : List Value, u = .tuple us.toArray ∧ All2 _ [] us := a3
    have : vs = [] := List.eq_nil_of_length_eq_zero hvs.1.symm
    subst this
    exact ⟨rfl, ρ', a1, a2, a4, a5, a6⟩
  · rintro w1 ⟨ρ', a1, a2, a4, a5, a6⟩
    obtain ⟨b1, vs, e1, hh1, ha1⟩ := a4 _ List.mem_cons_self
    have e1 : ρ' 0 = _ := e1
    have hh1 : w1.heap[b1]? = _ := hh1
    have h01 := a2 (0, .box t (.v (.int .u32 0) :: .v (.int .i32 1) :: rest)) List.mem_cons_self (0, .box t (.v (.int .u32 0) :: .v (.int .i32 1) :: rest')) List.mem_cons_self rfl
    have h01 := h01.hd
    dsimp only at h01
    rw [e1, e] at h01
    cases h01
    obtain ⟨v0, hv0, hx0⟩ := ha1.get (i := 0) rfl
    obtain ⟨v1, hv1, hx1⟩ := ha1.get (i := 1) rfl
    have hx0 : v0 = _ := hx0
    have hx1 : v1 = _ := hx1
    subst hx0 hx1
    obtain ⟨q0, y0⟩ := cell_get (i := 0) hh1
    obtain ⟨q1, y1⟩ := cell_get (i := 1) hh1
    exact ⟨q0.trans hv0, q1.trans hv1, y0, y1⟩
  · rintro e0 w' ⟨rfl, w1, ⟨ρ', a1, a2, a4, a5, a6⟩, rfl⟩
    obtain ⟨b1, vs, e1, hh1, ha1⟩ := a4 _ List.mem_cons_self
    have e1 : ρ' 0 = _ := e1
    have hh1 : w1.heap[b1]? = _ := hh1
    have ha1 : All2 (C0 (cxOf ⟨w2, keep, fun q => q ∈ blocksOf ρ hin⟩ w1 ρ' hout')) _ vs := ha1
    have h01 := a2 (0, .box t (.v (.int .u32 0) :: .v (.int .i32 1) :: rest)) List.mem_cons_self (0, .box t (.v (.int .u32 0) :: .v (.int .i32 1) :: rest')) List.mem_cons_self rfl
    have h01 := h01.hd
    dsimp only at h01
    rw [e1, e] at h01
    cases h01
    have hh1' : w1.drew.heap[b]? = _ := hh1
    obtain ⟨p1, p2, p3, p4, p5, p6⟩ := cell_set (i := 0) (.int .u32 1) hh1'
    obtain ⟨r1, r2, r3, r4, r5, r6⟩ := cell_set (i := 1) (.int .i32 0) p1
    let w3 := (w1.drew.setCell ⟨b, 0, none⟩ (.int .u32 1)).setCell ⟨b, 1, none⟩ (.int .i32 0)
    have hoth : ∀ k, k ≠ b → w3.heap[k]? = w1.heap[k]? := fun k hk => (r2 k hk).trans (p2 k hk)
    have hsz : w3.heap.size = w1.heap.size := r3.trans p3
    have hbe' : blocksOf ρ' hout = blocksOf ρ' hout' := rfl
    have hbo : b ∈ blocksOf ρ' hout' := mem_blocks.2 ⟨_, List.mem_cons_self, by show b ∈ blks (ρ' 0); rw [e1]; exact List.mem_cons_self⟩
    have hkk : ∀ q, keepOf ⟨w2, keep, fun q => q ∈ blocksOf ρ hin⟩ w1 ρ' hout' q → keepOf ⟨w, keep, fun q => q ∈ blocksOf ρ hin⟩ w3 ρ' hout q := by
      rintro q ⟨k1, k2, k3⟩
      exact ⟨by rw [hsz]; exact k1, fun hlt => k2 (by show q < w2.heap.size; rw [s3]; exact hlt), k3⟩
    have hmm : ∀ q, keepOf ⟨w2, keep, fun q => q ∈ blocksOf ρ hin⟩ w1 ρ' hout' q → w3.heap[q]? = w1.heap[q]? := fun q hq => hoth q fun e => hq.2.2 (by rw [e]; exact hbo)
    have hw2 : w2.heap.size = w.heap.size := s3
    refine ⟨_, ρ', rfl, ⟨?_, ?_, ?_, ?_, fun k hk hM => ?_⟩, ?_, ⟨[], rfl, All2.nil⟩, fun p hp => ?_, a5, fun q hq => by rw [← hw2]; exact a6 q hq⟩
    · exact (r4.trans p4).trans (a1.os.trans s4)
    · exact (r5.trans p5).trans (a1.tape.trans s5)
    · exact (r6.trans p6).trans (a1.output.trans s6)
    · show w.heap.size ≤ w3.heap.size
      rw [hsz, ← hw2]; exact a1.size
    · have hkb : k ≠ b := fun e => hM (by rw [e]; exact hbin)
      exact (hoth k hkb).trans ((a1.block k (by rw [hw2]; exact hk) hM).trans (s2 k hkb))
    · intro p hp q hq he
      rcases List.mem_cons.1 hp with rfl | hp
      · exact a2 (0, .box t (.v (.int .u32 0) :: .v (.int .i32 1) :: rest)) List.mem_cons_self (0, .box t (.v (.int .u32 0) :: .v (.int .i32 1) :: rest')) List.mem_cons_self rfl
      · rcases List.mem_cons.1 hq with rfl | hq
        · obtain rfl := List.mem_singleton.1 hp
          cases he
        · exact a2 p (List.mem_cons_of_mem _ hp) q (List.mem_cons_of_mem _ hq) he
    · rcases List.mem_cons.1 hp with rfl | hp
      · refine ⟨b, (vs.set 0 (.int .u32 1)).set 1 (.int .i32 0), e1, r1, ?_⟩
        exact ((ha1.imp fun _ _ => C0.same (X := cxOf ⟨w2, keep, fun q => q ∈ blocksOf ρ hin⟩ w1 ρ' hout') (Y := cxOf ⟨w, keep, fun q => q ∈ blocksOf ρ hin⟩ w3 ρ' hout) hkk hmm rfl).set 0 (x := .v (.int .u32 1)) rfl).set 1 (x := .v (.int .i32 0)) rfl
      · refine ObjOk.same (X := cxOf ⟨w2, keep, fun q => q ∈ blocksOf ρ hin⟩ w1 ρ' hout') (Y := cxOf ⟨w, keep, fun q => q ∈ blocksOf ρ hin⟩ w3 ρ' hout) hkk hmm rfl (fun q hq => hoth q ?_) (a4 p (List.mem_cons_of_mem _ hp))
        rintro rfl
        have h0p := blocks_apart a5 (0, .box t (.v (.int .u32 0) :: .v (.int .i32 1) :: rest')) List.mem_cons_self p (List.mem_cons_of_mem _ hp) (by show q ∈ blks (ρ' 0); rw [e1]; exact List.mem_cons_self) hq
        rw [hasN_mem.2 ⟨p, hp, h0p.symm⟩] at hne
        cases hne
end Go.Proofs.Ytkkpfjifkjbndaa

/-
  live.created: whether a Create of some events is below an event; live.counted, live.without.
-/
namespace Go.Proofs.Ytkkpfjifkjbndaa
open Go.RowKit

def crP (e a : Ev) : Bool := decide (a.k = 1) && belowB a e
set_option maxHeartbeats 4000000 in
set_option maxRecDepth 100000 in
theorem created_spec (l : List Ev) (e : Ev) (hl : l.length ≤ 140737488355328) :
    ASpec Try.prog 30 [.sl 12 l.length true (evF l), e.av] (.v (.bool (l.any (crP e)))) [] := by
  have hyes : ∀ j, j < l.length → (l.getD j default).k = 1 → belowB (l.getD j default) e = true → l.any (crP e) = true := fun j hj h1 h3 => any_get hj (by unfold crP; rw [h1, h3]; simp)
  have hno : (∀ i, i < l.length → crP e (l.getD i default) = false) → l.any (crP e) = false := fun h => any_none h
  generalize l.any (crP e) = R at hyes hno
  dsimp only [Ev.av]
  dsimp only [Ev.cs]
  refine aspec_of lay_ok 27 Try.func30 rfl rfl rfl ?_
  repeat' ((conv => whnf); first | refine Spl.yes (by first | assumption | omega) ?_ | refine Spl.no (by first | assumption | omega) ?_ | refine Wr.i64 (by omega) (by omega) ?_ | refine Still.mk rfl rfl ?_ | refine InB.mk (inB_mk (by omega) (by omega)) ?_ | refine Req.mk (by omega) ?_ | refine Req.mk ⟨by first | omega | (dsimp only; omega), by first | omega | (dsimp only; omega)⟩ ?_ | refine ACall.into 19 _ _ Try.func50 rfl rfl rfl ?_ | refine ACall.into 66483 _ _ Try.func65 rfl rfl rfl ?_ | refine ARet.hdI ?_ | refine Spl.mk (fun _ => ?_) (fun _ => ?_) | refine InA.mk (inB_mk (by omega) (by omega)) ?_ | refine Wr.b64 ?_ | refine Wr.bu64 ?_ | refine Wr.bu32 ?_ | refine Wr.bu8 ?_ | refine Wr.u8 (by omega) (by omega) ?_ | refine Wr.u64 (by omega) (by omega) ?_ | refine Wr.u32 (by omega) (by omega) ?_ | refine Dv.pos (by omega) (by omega) ?_ | refine Rm.pos (by omega) (by omega) ?_ | refine ADraw.quiet follows_ok (by kernel_rfl) rfl ?_ | refine BSpl.decY (by first | assumption | omega) ?_ | refine BSpl.decN (by first | assumption | omega) ?_ | refine BSpl.dec (fun _ => ?_) (fun _ => ?_) | refine BSpl.yes (by assumption) ?_ | refine BSpl.no (by assumption) ?_ | refine BSpl.mk (fun _ => ?_) (fun _ => ?_))
  conv => whnf
  refine ALoop.mk { j : Nat // j ≤ l.length ∧ ∀ i, i < j → crP e (l.getD i default) = false } (fun j => ⟨[(8, .v (.int .i64 (j.1 : Int))), (7, .v (.int .i64 (l.length : Int))), (0, .sl 12 l.length true (evF l)), (1, .fn 51 [.box 0 0])],
      [(0, .box 38 e.cs)], [[], []], 1⟩) (fun j => l.length - j.1) ⟨0, Nat.zero_le _, fun i h => absurd h (Nat.not_lt_zero i)⟩ _
    (LeR.mkB [] _ _ _ rfl ⟨AEq.int rfl, AEq.refl _, AEq.refl _, AEq.refl _, trivial⟩ ⟨⟨_, rfl, OEq.refl _⟩, trivial⟩ rfl) ?_
  rintro ⟨j, hj, hall⟩
  dsimp only
  by_cases hjl : j < l.length
  · have hbj := below_spec (l.getD (j : Int).toNat default) e
    have hyj := hyes j hjl
    rw [show j = (j : Int).toNat by omega] at hyj
    have hnj : (decide ((l.getD (j : Int).toNat default).k = 1) && belowB (l.getD (j : Int).toNat default) e) = false → ∀ i, i < j + 1 → crP e (l.getD i default) = false := by
      intro h i hi
      rcases Nat.lt_or_ge i j with h' | h'
      · exact hall i h'
      · obtain rfl : i = j := by omega
        rwa [show (i : Int).toNat = i by omega] at h
    dsimp only [Ev.av, Ev.cs] at hbj ⊢
    generalize belowB (l.getD (j : Int).toNat default) e = q2 at hbj hyj hnj
    repeat' ((conv => whnf); first | refine Spl.yes (by first | assumption | omega) ?_ | refine Spl.no (by first | assumption | omega) ?_ | refine Wr.i64 (by omega) (by omega) ?_ | refine Still.mk rfl rfl ?_ | refine InB.mk (inB_mk (by omega) (by omega)) ?_ | refine Req.mk (by omega) ?_ | refine Req.mk ⟨by first | omega | (dsimp only; omega), by first | omega | (dsimp only; omega)⟩ ?_ | refine ACall.plain _ _ (hbj) (SubL.cons (.eq _) (SubL.cons (.eq _) .nil)) rfl ?_ | refine ACall.into 15 _ _ Try.func51 rfl rfl rfl ?_ | refine ARet.hdI ?_ | refine Spl.mk (fun _ => ?_) (fun _ => ?_) | refine InA.mk (inB_mk (by omega) (by omega)) ?_ | refine Wr.b64 ?_ | refine Wr.bu64 ?_ | refine Wr.bu32 ?_ | refine Wr.bu8 ?_ | refine Wr.u8 (by omega) (by omega) ?_ | refine Wr.u64 (by omega) (by omega) ?_ | refine Wr.u32 (by omega) (by omega) ?_ | refine Dv.pos (by omega) (by omega) ?_ | refine Rm.pos (by omega) (by omega) ?_ | refine ADraw.quiet follows_ok (by kernel_rfl) rfl ?_ | refine BSpl.decY (by first | assumption | omega) ?_ | refine BSpl.decN (by first | assumption | omega) ?_ | refine BSpl.dec (fun _ => ?_) (fun _ => ?_) | refine BSpl.yes (by assumption) ?_ | refine BSpl.no (by assumption) ?_ | refine BSpl.mk (fun _ => ?_) (fun _ => ?_))
    all_goals (conv => whnf)
    all_goals first
      | (rw [hyj (by assumption) (by assumption)]; exact AEqI.mk (AEq.refl _))
      | exact ⟨⟨j + 1, by omega, hnj (by first | (rw [decide_eq_false (by assumption)]; rfl) | (rw [show q2 = false by assumption]; simp))⟩, _, LeR.mk' [] _ _ _ rfl ⟨AEq.int rfl, AEq.refl _, AEq.refl _, AEq.refl _, trivial⟩ ⟨⟨_, rfl, OEq.refl _⟩, trivial⟩ rfl, by show l.length - (j + 1) < l.length - j; omega⟩
  · have hR : R = false := hno fun i hi => hall i (by omega)
    repeat' ((conv => whnf); first | refine Spl.yes (by first | assumption | omega) ?_ | refine Spl.no (by first | assumption | omega) ?_ | refine Wr.i64 (by omega) (by omega) ?_ | refine Still.mk rfl rfl ?_ | refine InB.mk (inB_mk (by omega) (by omega)) ?_ | refine Req.mk (by omega) ?_ | refine Req.mk ⟨by first | omega | (dsimp only; omega), by first | omega | (dsimp only; omega)⟩ ?_ | refine ARet.hdI ?_ | refine Spl.mk (fun _ => ?_) (fun _ => ?_) | refine InA.mk (inB_mk (by omega) (by omega)) ?_ | refine Wr.b64 ?_ | refine Wr.bu64 ?_ | refine Wr.bu32 ?_ | refine Wr.bu8 ?_ | refine Wr.u8 (by omega) (by omega) ?_ | refine Wr.u64 (by omega) (by omega) ?_ | refine Wr.u32 (by omega) (by omega) ?_ | refine Dv.pos (by omega) (by omega) ?_ | refine Rm.pos (by omega) (by omega) ?_ | refine ADraw.quiet follows_ok (by kernel_rfl) rfl ?_ | refine BSpl.decY (by first | assumption | omega) ?_ | refine BSpl.decN (by first | assumption | omega) ?_ | refine BSpl.dec (fun _ => ?_) (fun _ => ?_) | refine BSpl.yes (by assumption) ?_ | refine BSpl.no (by assumption) ?_ | refine BSpl.mk (fun _ => ?_) (fun _ => ?_))
    all_goals (conv => whnf)
    rw [hR]
    exact AEqI.mk (AEq.refl _)
end Go.Proofs.Ytkkpfjifkjbndaa

/-
  live.counted: events but the Sets and Adds below which no Create is left.
-/
namespace Go.Proofs.Ytkkpfjifkjbndaa
open Go.RowKit

def cntP (l : List Ev) (a : Ev) : Bool := decide (a.k = 1) || l.any (crP a)
set_option maxHeartbeats 4000000 in
set_option maxRecDepth 100000 in
theorem counted_own (d : Nat) (l : List Ev) (r : Ev) (rs : List Ev) (hr : l.filter (cntP l) = r :: rs) (hl : l.length ≤ 1000000000) :
    ASpec Try.prog 27 [.sl 12 l.length true (evF l)] (.own d) [(d, .row 38 12 (rs.length + 1) true (evF (r :: rs)))] := by
  refine aspec_of lay_ok 525293 Try.func27 rfl rfl rfl ?_
  repeat' ((conv => whnf); first | refine Spl.yes (by first | assumption | omega) ?_ | refine Spl.no (by first | assumption | omega) ?_ | refine Wr.i64 (by omega) (by omega) ?_ | refine Still.mk rfl rfl ?_ | refine InB.mk (inB_mk (by omega) (by omega)) ?_ | refine Req.mk (by omega) ?_ | refine Req.mk ⟨by first | omega | (dsimp only; omega), by first | omega | (dsimp only; omega)⟩ ?_ | refine ARet.hdI ?_ | refine Spl.mk (fun _ => ?_) (fun _ => ?_) | refine InA.mk (inB_mk (by omega) (by omega)) ?_ | refine Wr.b64 ?_ | refine Wr.bu64 ?_ | refine Wr.bu32 ?_ | refine Wr.bu8 ?_ | refine Wr.u8 (by omega) (by omega) ?_ | refine Wr.u64 (by omega) (by omega) ?_ | refine Wr.u32 (by omega) (by omega) ?_ | refine Dv.pos (by omega) (by omega) ?_ | refine Rm.pos (by omega) (by omega) ?_ | refine ADraw.quiet follows_ok (by kernel_rfl) rfl ?_ | refine BSpl.decY (by first | assumption | omega) ?_ | refine BSpl.decN (by first | assumption | omega) ?_ | refine BSpl.dec (fun _ => ?_) (fun _ => ?_) | refine BSpl.yes (by assumption) ?_ | refine BSpl.no (by assumption) ?_ | refine BSpl.mk (fun _ => ?_) (fun _ => ?_))
  conv => whnf
  refine ALoop.mk (Took (cntP l) l) (fun x => match x with
    | ⟨(j, []), _⟩ => ⟨[(0, .sl 12 l.length true (evF l)), (3, .v (.slice none 0 0)), (6, .sl 12 l.length true (evF l)), (7, .v (.int .i64 (l.length : Int))), (8, .v (.int .i64 (j : Int)))],
        [], [], 1⟩
    | ⟨(j, y :: ys), _⟩ => ⟨[(0, .sl 12 l.length true (evF l)), (3, .own 90), (6, .sl 12 l.length true (evF l)), (7, .v (.int .i64 (l.length : Int))), (8, .v (.int .i64 (j : Int)))],
        [(90, .row 38 12 (ys.length + 1) true (evF (y :: ys)))], [], 91⟩) (fun x => l.length - x.1.1) ⟨(0, []), Nat.zero_le _, rfl⟩ _
    (LeR.mk' [] _ _ _ rfl ⟨AEq.refl _, AEq.refl _, AEq.refl _, AEq.int rfl, AEq.int rfl, trivial⟩ trivial rfl) ?_
  rintro ⟨⟨j, ys⟩, hj, hys⟩
  dsimp only at hj hys
  rcases ys with _ | ⟨y, ys⟩
  · dsimp only
    by_cases hjl : j < l.length
    · have hab := created_spec l (l.getD (j : Int).toNat default) (by omega)
      have hft := filter_take (p := cntP l) hjl
      rw [← hys, List.nil_append] at hft
      have hlv : cntP l (l.getD j default) = (decide ((l.getD (j : Int).toNat default).k = 1) || l.any (crP (l.getD (j : Int).toNat default))) := by rw [show (j : Int).toNat = j by omega]; rfl
      rw [hlv] at hft
      generalize l.any (crP (l.getD (j : Int).toNat default)) = q at hab hft
      have hq0 : ¬ (l.getD (j : Int).toNat default).k = 1 → q = false → ([] : List Ev) = (l.take (j + 1)).filter (cntP l) := fun h h' => by rw [hft, decide_eq_false h, h']; simp
      have hq1 : q = true → [l.getD j default] = (l.take (j + 1)).filter (cntP l) := fun h' => by rw [hft, h']; simp
      have hk1 : (l.getD (j : Int).toNat default).k = 1 → [l.getD j default] = (l.take (j + 1)).filter (cntP l) := fun h => by rw [hft, decide_eq_true h]; simp
      clear hft hlv
      dsimp only [Ev.av, Ev.cs] at hab ⊢
      repeat' ((conv => whnf); first | refine Spl.yes (by first | assumption | omega) ?_ | refine Spl.no (by first | assumption | omega) ?_ | refine Wr.i64 (by omega) (by omega) ?_ | refine Still.mk rfl rfl ?_ | refine InB.mk (inB_mk (by omega) (by omega)) ?_ | refine Req.mk (by omega) ?_ | refine Req.mk ⟨by first | omega | (dsimp only; omega), by first | omega | (dsimp only; omega)⟩ ?_ | refine ACall.plain _ _ (hab) (SubL.cons (.eq _) (SubL.cons (.eq _) .nil)) rfl ?_ | refine ARet.hdI ?_ | refine Spl.mk (fun _ => ?_) (fun _ => ?_) | refine InA.mk (inB_mk (by omega) (by omega)) ?_ | refine Wr.b64 ?_ | refine Wr.bu64 ?_ | refine Wr.bu32 ?_ | refine Wr.bu8 ?_ | refine Wr.u8 (by omega) (by omega) ?_ | refine Wr.u64 (by omega) (by omega) ?_ | refine Wr.u32 (by omega) (by omega) ?_ | refine Dv.pos (by omega) (by omega) ?_ | refine Rm.pos (by omega) (by omega) ?_ | refine ADraw.quiet follows_ok (by kernel_rfl) rfl ?_ | refine BSpl.decY (by first | assumption | omega) ?_ | refine BSpl.decN (by first | assumption | omega) ?_ | refine BSpl.dec (fun _ => ?_) (fun _ => ?_) | refine BSpl.yes (by assumption) ?_ | refine BSpl.no (by assumption) ?_ | refine BSpl.mk (fun _ => ?_) (fun _ => ?_))
      all_goals (conv => whnf)
      all_goals first
        | exact ⟨⟨(j + 1, []), hjl, hq0 (by assumption) (by assumption)⟩, _, LeR.mk' [] _ _ _ rfl ⟨AEq.refl _, AEq.refl _, AEq.refl _, AEq.int rfl, AEq.int rfl, trivial⟩ trivial rfl, by show l.length - (j + 1) < l.length - j; omega⟩
        | (refine ⟨⟨(j + 1, [l.getD j default]), hjl, by first | exact hq1 (by assumption) | exact hk1 (by assumption)⟩, _, LeR.mk' [(3, 90)] _ _ _ rfl ⟨AEq.refl _, AEq.refl _, AEq.refl _, AEq.int rfl, AEq.int rfl, trivial⟩ ⟨⟨_, rfl, OEq.row rfl (fun m hm => ?_)⟩, trivial⟩ rfl, by show l.length - (j + 1) < l.length - j; omega⟩
           have hm : m < 1 := hm
           obtain rfl : m = 0 := by omega
           rfl)
    · have e : l.filter (cntP l) = [] := by rw [List.take_of_length_le (by omega)] at hys; exact hys.symm
      rw [hr] at e
      cases e
  · dsimp only
    have hyl : ys.length + 1 ≤ j := by
      have h1 := congrArg List.length hys
      have h2 := List.length_filter_le (cntP l) (l.take j)
      rw [List.length_take] at h2
      rw [List.length_cons] at h1
      omega
    by_cases hjl : j < l.length
    · have hab := created_spec l (l.getD (j : Int).toNat default) (by omega)
      have hft := filter_take (p := cntP l) hjl
      rw [← hys] at hft
      have hlv : cntP l (l.getD j default) = (decide ((l.getD (j : Int).toNat default).k = 1) || l.any (crP (l.getD (j : Int).toNat default))) := by rw [show (j : Int).toNat = j by omega]; rfl
      rw [hlv] at hft
      generalize l.any (crP (l.getD (j : Int).toNat default)) = q at hab hft
      have hq0 : ¬ (l.getD (j : Int).toNat default).k = 1 → q = false → y :: ys = (l.take (j + 1)).filter (cntP l) := fun h h' => by rw [hft, decide_eq_false h, h']; simp
      have hq1 : q = true → y :: (ys ++ [l.getD j default]) = (l.take (j + 1)).filter (cntP l) := fun h' => by rw [hft, h']; simp
      have hk1 : (l.getD (j : Int).toNat default).k = 1 → y :: (ys ++ [l.getD j default]) = (l.take (j + 1)).filter (cntP l) := fun h => by rw [hft, decide_eq_true h]; simp
      clear hft hlv
      dsimp only [Ev.av, Ev.cs] at hab ⊢
      repeat' ((conv => whnf); first | refine Spl.yes (by first | assumption | omega) ?_ | refine Spl.no (by first | assumption | omega) ?_ | refine Wr.i64 (by omega) (by omega) ?_ | refine Still.mk rfl rfl ?_ | refine InB.mk (inB_mk (by omega) (by omega)) ?_ | refine Req.mk (by omega) ?_ | refine Req.mk ⟨by first | omega | (dsimp only; omega), by first | omega | (dsimp only; omega)⟩ ?_ | refine ACall.plain _ _ (hab) (SubL.cons (.eq _) (SubL.cons (.eq _) .nil)) rfl ?_ | refine ARet.hdI ?_ | refine Spl.mk (fun _ => ?_) (fun _ => ?_) | refine InA.mk (inB_mk (by omega) (by omega)) ?_ | refine Wr.b64 ?_ | refine Wr.bu64 ?_ | refine Wr.bu32 ?_ | refine Wr.bu8 ?_ | refine Wr.u8 (by omega) (by omega) ?_ | refine Wr.u64 (by omega) (by omega) ?_ | refine Wr.u32 (by omega) (by omega) ?_ | refine Dv.pos (by omega) (by omega) ?_ | refine Rm.pos (by omega) (by omega) ?_ | refine ADraw.quiet follows_ok (by kernel_rfl) rfl ?_ | refine BSpl.decY (by first | assumption | omega) ?_ | refine BSpl.decN (by first | assumption | omega) ?_ | refine BSpl.dec (fun _ => ?_) (fun _ => ?_) | refine BSpl.yes (by assumption) ?_ | refine BSpl.no (by assumption) ?_ | refine BSpl.mk (fun _ => ?_) (fun _ => ?_))
      all_goals (conv => whnf)
      all_goals first
        | exact ⟨⟨(j + 1, y :: ys), hjl, hq0 (by assumption) (by assumption)⟩, _, LeR.mk' [] _ _ _ rfl ⟨AEq.refl _, AEq.refl _, AEq.refl _, AEq.int rfl, AEq.int rfl, trivial⟩ ⟨⟨_, rfl, OEq.refl _⟩, trivial⟩ rfl, by show l.length - (j + 1) < l.length - j; omega⟩
        | (refine ⟨⟨(j + 1, y :: (ys ++ [l.getD j default])), hjl, by first | exact hq1 (by assumption) | exact hk1 (by assumption)⟩, _, LeR.mk' [(93, 90)] _ _ _ rfl ⟨AEq.refl _, AEq.refl _, AEq.refl _, AEq.int rfl, AEq.int rfl, trivial⟩ ⟨⟨_, rfl, OEq.row (by simp) (fun m hm => ?_)⟩, trivial⟩ rfl, by show l.length - (j + 1) < l.length - j; omega⟩
           exact els_app1 (c := Ev.cs) (l := y :: ys) rfl rfl m hm)
    · have e : l.filter (cntP l) = y :: ys := by rw [List.take_of_length_le (by omega)] at hys; exact hys.symm
      rw [hr] at e
      cases e
      repeat' ((conv => whnf); first | refine Spl.yes (by first | assumption | omega) ?_ | refine Spl.no (by first | assumption | omega) ?_ | refine Wr.i64 (by omega) (by omega) ?_ | refine Still.mk rfl rfl ?_ | refine InB.mk (inB_mk (by omega) (by omega)) ?_ | refine Req.mk (by omega) ?_ | refine Req.mk ⟨by first | omega | (dsimp only; omega), by first | omega | (dsimp only; omega)⟩ ?_ | refine ARet.ownX d rfl rfl (OEq.refl _) (AEq.refl _) | refine Spl.mk (fun _ => ?_) (fun _ => ?_) | refine InA.mk (inB_mk (by omega) (by omega)) ?_ | refine Wr.b64 ?_ | refine Wr.bu64 ?_ | refine Wr.bu32 ?_ | refine Wr.bu8 ?_ | refine Wr.u8 (by omega) (by omega) ?_ | refine Wr.u64 (by omega) (by omega) ?_ | refine Wr.u32 (by omega) (by omega) ?_ | refine Dv.pos (by omega) (by omega) ?_ | refine Rm.pos (by omega) (by omega) ?_ | refine ADraw.quiet follows_ok (by kernel_rfl) rfl ?_ | refine BSpl.decY (by first | assumption | omega) ?_ | refine BSpl.decN (by first | assumption | omega) ?_ | refine BSpl.dec (fun _ => ?_) (fun _ => ?_) | refine BSpl.yes (by assumption) ?_ | refine BSpl.no (by assumption) ?_ | refine BSpl.mk (fun _ => ?_) (fun _ => ?_))
set_option maxHeartbeats 4000000 in
set_option maxRecDepth 100000 in
theorem counted_nil (l : List Ev) (hr : l.filter (cntP l) = []) (hl : l.length ≤ 1000000000) :
    ASpec Try.prog 27 [.sl 12 l.length true (evF l)] (.v (.slice none 0 0)) [] := by
  refine aspec_of lay_ok 525293 Try.func27 rfl rfl rfl ?_
  repeat' ((conv => whnf); first | refine Spl.yes (by first | assumption | omega) ?_ | refine Spl.no (by first | assumption | omega) ?_ | refine Wr.i64 (by omega) (by omega) ?_ | refine Still.mk rfl rfl ?_ | refine InB.mk (inB_mk (by omega) (by omega)) ?_ | refine Req.mk (by omega) ?_ | refine Req.mk ⟨by first | omega | (dsimp only; omega), by first | omega | (dsimp only; omega)⟩ ?_ | refine ARet.hdI ?_ | refine Spl.mk (fun _ => ?_) (fun _ => ?_) | refine InA.mk (inB_mk (by omega) (by omega)) ?_ | refine Wr.b64 ?_ | refine Wr.bu64 ?_ | refine Wr.bu32 ?_ | refine Wr.bu8 ?_ | refine Wr.u8 (by omega) (by omega) ?_ | refine Wr.u64 (by omega) (by omega) ?_ | refine Wr.u32 (by omega) (by omega) ?_ | refine Dv.pos (by omega) (by omega) ?_ | refine Rm.pos (by omega) (by omega) ?_ | refine ADraw.quiet follows_ok (by kernel_rfl) rfl ?_ | refine BSpl.decY (by first | assumption | omega) ?_ | refine BSpl.decN (by first | assumption | omega) ?_ | refine BSpl.dec (fun _ => ?_) (fun _ => ?_) | refine BSpl.yes (by assumption) ?_ | refine BSpl.no (by assumption) ?_ | refine BSpl.mk (fun _ => ?_) (fun _ => ?_))
  conv => whnf
  refine ALoop.mk { j : Nat // j ≤ l.length } (fun j => ⟨[(0, .sl 12 l.length true (evF l)), (3, .v (.slice none 0 0)), (6, .sl 12 l.length true (evF l)), (7, .v (.int .i64 (l.length : Int))), (8, .v (.int .i64 (j.1 : Int)))],
        [], [], 1⟩) (fun j => l.length - j.1) ⟨0, Nat.zero_le _⟩ _
    (LeR.mk' [] _ _ _ rfl ⟨AEq.refl _, AEq.refl _, AEq.refl _, AEq.int rfl, AEq.int rfl, trivial⟩ trivial rfl) ?_
  rintro ⟨j, hj⟩
  dsimp only
  by_cases hjl : j < l.length
  · have hab := created_spec l (l.getD (j : Int).toNat default) (by omega)
    have hlv : (decide ((l.getD (j : Int).toNat default).k = 1) || l.any (crP (l.getD (j : Int).toNat default))) = false := by
      have hm : l.getD (j : Int).toNat default ∈ l := by
        rw [show (j : Int).toNat = j by omega, List.getD, List.getElem?_eq_getElem hjl]
        exact List.getElem_mem _
      have := List.filter_eq_nil_iff.1 hr _ hm
      simpa [cntP] using this
    rw [Bool.or_eq_false_iff] at hlv
    have hk : ¬ (l.getD (j : Int).toNat default).k = 1 := of_decide_eq_false hlv.1
    rw [hlv.2] at hab
    clear hlv
    dsimp only [Ev.av, Ev.cs] at hab ⊢
    repeat' ((conv => whnf); first | refine Spl.yes (by first | assumption | omega) ?_ | refine Spl.no (by first | assumption | omega) ?_ | refine Wr.i64 (by omega) (by omega) ?_ | refine Still.mk rfl rfl ?_ | refine InB.mk (inB_mk (by omega) (by omega)) ?_ | refine Req.mk (by omega) ?_ | refine Req.mk ⟨by first | omega | (dsimp only; omega), by first | omega | (dsimp only; omega)⟩ ?_ | refine ACall.plain _ _ (hab) (SubL.cons (.eq _) (SubL.cons (.eq _) .nil)) rfl ?_ | refine ARet.hdI ?_ | refine Spl.mk (fun _ => ?_) (fun _ => ?_) | refine InA.mk (inB_mk (by omega) (by omega)) ?_ | refine Wr.b64 ?_ | refine Wr.bu64 ?_ | refine Wr.bu32 ?_ | refine Wr.bu8 ?_ | refine Wr.u8 (by omega) (by omega) ?_ | refine Wr.u64 (by omega) (by omega) ?_ | refine Wr.u32 (by omega) (by omega) ?_ | refine Dv.pos (by omega) (by omega) ?_ | refine Rm.pos (by omega) (by omega) ?_ | refine ADraw.quiet follows_ok (by kernel_rfl) rfl ?_ | refine BSpl.decY (by first | assumption | omega) ?_ | refine BSpl.decN (by first | assumption | omega) ?_ | refine BSpl.dec (fun _ => ?_) (fun _ => ?_) | refine BSpl.yes (by assumption) ?_ | refine BSpl.no (by assumption) ?_ | refine BSpl.mk (fun _ => ?_) (fun _ => ?_))
    all_goals (conv => whnf)
    all_goals exact ⟨⟨j + 1, hjl⟩, _, LeR.mk' [] _ _ _ rfl ⟨AEq.refl _, AEq.refl _, AEq.refl _, AEq.int rfl, AEq.int rfl, trivial⟩ trivial rfl, by show l.length - (j + 1) < l.length - j; omega⟩
  · repeat' ((conv => whnf); first | refine Spl.yes (by first | assumption | omega) ?_ | refine Spl.no (by first | assumption | omega) ?_ | refine Wr.i64 (by omega) (by omega) ?_ | refine Still.mk rfl rfl ?_ | refine InB.mk (inB_mk (by omega) (by omega)) ?_ | refine Req.mk (by omega) ?_ | refine Req.mk ⟨by first | omega | (dsimp only; omega), by first | omega | (dsimp only; omega)⟩ ?_ | refine ARet.hdI ?_ | refine Spl.mk (fun _ => ?_) (fun _ => ?_) | refine InA.mk (inB_mk (by omega) (by omega)) ?_ | refine Wr.b64 ?_ | refine Wr.bu64 ?_ | refine Wr.bu32 ?_ | refine Wr.bu8 ?_ | refine Wr.u8 (by omega) (by omega) ?_ | refine Wr.u64 (by omega) (by omega) ?_ | refine Wr.u32 (by omega) (by omega) ?_ | refine Dv.pos (by omega) (by omega) ?_ | refine Rm.pos (by omega) (by omega) ?_ | refine ADraw.quiet follows_ok (by kernel_rfl) rfl ?_ | refine BSpl.decY (by first | assumption | omega) ?_ | refine BSpl.decN (by first | assumption | omega) ?_ | refine BSpl.dec (fun _ => ?_) (fun _ => ?_) | refine BSpl.yes (by assumption) ?_ | refine BSpl.no (by assumption) ?_ | refine BSpl.mk (fun _ => ?_) (fun _ => ?_))
    conv => whnf
    exact AEqI.mk (AEq.refl _)
end Go.Proofs.Ytkkpfjifkjbndaa
