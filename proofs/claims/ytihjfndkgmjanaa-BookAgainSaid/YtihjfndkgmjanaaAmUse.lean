/-
  How the abstract machine is used: small lemmas for the ends of its ways, contracts that are known already. (This file joins 2 texts.)
-/
import Derived.Test.YtihjfndkgmjanaaAmC
import Derived.Test.YtihjfndkgmjanaaLay
/- How the abstract machine is used: small lemmas for the ends of its ways, contracts that are known already. -/
namespace Go.Proofs.Ytihjfndkgmjanaa
open Go.RowKit

theorem ARet.int {st : AS} {x : AV} {k : IntKind} {n m : Int} (hx : see2 st.heap x = .v (.int k n)) (h : n = m) : ARet st x (.v (.int k m)) [] := .plain _ (by rw [hx, h]; exact AEq.refl _)
theorem ARet.bool {st : AS} {x : AV} {b c : Bool} (hx : see2 st.heap x = .v (.bool b)) (h : b = c) : ARet st x (.v (.bool c)) [] := .plain _ (by rw [hx, h]; exact AEq.refl _)
theorem ARet.same {st : AS} {x r : AV} (hx : see2 st.heap x = r) : ARet st x r [] := .plain _ (by rw [hx]; exact AEq.refl _)

/-- The first own row in what is handed back. -/
def ownOf0 : AV → Option Nat
  | .own i => some i
  | _ => none
def ownL : List AV → Option Nat
  | [] => none
  | x :: l => match ownOf0 x with | some i => some i | none => ownL l
def ownOf : AV → Option Nat
  | .own i => some i
  | .agg cs => ownL cs
  | .tup vs => ownL vs
  | _ => none
theorem ARet.ownX {st : AS} {x r : AV} (d : Nat) {id : Nat} {e : TypeId} {s n : Nat} {sc : Bool} {f : Nat → List AV} {o' : AO} (_hid : ownOf x = some id) (hf : findObj id st.heap = some (.row e s n sc f)) (ho : OEq (.row e s n sc f) o') (hr : AEq (ret2 st.heap id d x) r) : ARet st x r [(d, o')] :=
  .own id d r e s n sc f o' hf ho hr

/-! Which of a state's objects a loop's relation means. -/
def addN (k i : Nat) (σ : List (Nat × Nat)) : List (Nat × Nat) := bif tgtB σ i then σ else (k, i) :: σ
def autoC : List AV → List AV → List (Nat × Nat) → List (Nat × Nat)
  | .own k :: xs, .own i :: ys, σ => autoC xs ys (addN k i σ)
  | _ :: xs, _ :: ys, σ => autoC xs ys σ
  | _, _, σ => σ
def autoS (st : AS) : List (Nat × AV) → List (Nat × Nat) → List (Nat × Nat)
  | [], σ => σ
  | (t, .own i) :: l, σ => autoS st l (match ofL st.sl t with | .own k => addN k i σ | _ => σ)
  | (t, .box i _) :: l, σ => autoS st l (match ofL st.sl t with | .box k _ => addN k i σ | _ => σ)
  | _ :: l, σ => autoS st l σ
def backN (i : Nat) : List (Nat × Nat) → Nat
  | [] => i
  | (k, j) :: r => bif Nat.beq i j then k else backN i r
def autoH (st : AS) : List (Nat × AO) → List (Nat × Nat) → List (Nat × Nat)
  | [], σ => σ
  | (i, .box _ ys) :: l, σ => autoH st l (match findObj (backN i σ) st.heap with | some (.box _ xs) => autoC xs ys σ | _ => σ)
  | _ :: l, σ => autoH st l σ
def autoN (st : AS) (l : List (Nat × AV)) (h : List (Nat × AO)) : List (Nat × Nat) := autoH st h (autoS st l [])

theorem LeR.mk' {st : AS} (σ : List (Nat × Nat)) (l : List (Nat × AV)) (h : List (Nat × AO)) (b : Nat) (nd : nodupB (σ.map (·.2)) = true) (ht : LeT (st.ren σ) l) (hh : LeH (st.ren σ) h) (hn : nodupB (h.map (·.1)) = true) : LeR σ st ⟨l, h, (st.ren σ).back, b⟩ :=
  ⟨nd, let k := LeS.mk' l h ht hh hn; ⟨k.tm, k.hp, k.nd, k.bk⟩⟩
theorem LeR.auto {st : AS} (l : List (Nat × AV)) (h : List (Nat × AO)) (b : Nat) (nd : nodupB ((autoN st l h).map (·.2)) = true) (ht : LeT (st.ren (autoN st l h)) l) (hh : LeH (st.ren (autoN st l h)) h) (hn : nodupB (h.map (·.1)) = true) : LeR (autoN st l h) st ⟨l, h, (st.ren (autoN st l h)).back, b⟩ :=
  LeR.mk' _ l h b nd ht hh hn

/-- What is handed back, written out. -/
theorem ARet.hd {st : AS} {x r : AV} (h : hd2 (see2 st.heap x) (fun y => AEq y r)) : ARet st x r [] := .plain _ (by rw [hd2_eq] at h; exact h)
structure AEqI (x y : AV) : Prop where
  h : AEq x y
theorem ARet.hdI {st : AS} {x r : AV} (h : hd2 (see2 st.heap x) (fun y => AEqI y r)) : ARet st x r [] := .plain _ (by rw [hd2_eq] at h; exact h.h)
theorem ARet.same' {st : AS} {x y r : AV} (hx : see2 st.heap x = y) (h : y = r) : ARet st x r [] := .plain _ (by rw [hx, h]; exact AEq.refl _)

theorem AEq.int {k : IntKind} {n m : Int} (h : n = m) : AEq (.v (.int k n)) (.v (.int k m)) := by rw [h]; exact AEq.refl _
theorem AEq.str {x y : ByteArray} (h : x = y) : AEq (.v (.string x)) (.v (.string y)) := by rw [h]; exact AEq.refl _
theorem AEq.of {x y : AV} (h : x = y) : AEq x y := by rw [h]; exact AEq.refl _
theorem AEq.sl {s n n' : Nat} {sc : Bool} {f f' : Nat → List AV} (hn : n = n') (hf : ∀ i, i < n → f i = f' i) : AEq (.sl s n sc f) (.sl s n' sc f') := by
  subst hn
  intro X u h
  cases C2.inv_sl h with
  | sl _ _ _ _ A c us hs0 hnc hcc hl hfl hsc hu' hr =>
    rw [flat_congr hf] at hsc hu'
    exact .sl s n sc f' A c us hs0 hnc hcc hl (fun i hi => by rw [← hf i hi]; exact hfl i hi) hsc hu' hr
theorem OEq.row {e : TypeId} {s n n' : Nat} {sc : Bool} {f f' : Nat → List AV} (hn : n = n') (hf : ∀ i, i < n → f i = f' i) : OEq (.row e s n sc f) (.row e s n' sc f') := by
  subst hn
  rintro X id ⟨us, hown, hs, hfl, hsc, ha⟩
  rw [flat_congr hf] at hsc ha
  exact ⟨us, hown, hs, fun i hi => by rw [← hf i hi]; exact hfl i hi, hsc, ha⟩

theorem MRet.auto {hin : List (Nat × AO)} {st : AS} {x r : AV} {hout : List (Nat × AO)} (nd : nodupB ((autoN st [] hout).map (·.2)) = true) (fx : fixedB hout (st.ren (autoN st [] hout)).back 0 hin = true) (hp : LeH (st.ren (autoN st [] hout)) hout)
    (hn : nodupB (hout.map (·.1)) = true) (hc : closedH hout hout = true) (hr : AEq (retM2 (st.ren (autoN st [] hout)).heap hout (ren2 (autoN st [] hout) x)) r) : ∃ σ, MRet hin σ st x r hout := ⟨_, nd, fx, hp, hn, hc, hr⟩

theorem Wr.b64 {b : UInt8} {K : Int → Prop} (h : K (b.toNat : Int)) : Wr (b.toNat : Int) K .i64 := by have := UInt8.toNat_lt b; exact .i64 (by omega) (by omega) h
theorem Wr.bu64 {b : UInt8} {K : Int → Prop} (h : K (b.toNat : Int)) : Wr (b.toNat : Int) K .u64 := by have := UInt8.toNat_lt b; exact .u64 (by omega) (by omega) h
theorem Wr.bu32 {b : UInt8} {K : Int → Prop} (h : K (b.toNat : Int)) : Wr (b.toNat : Int) K .u32 := by have := UInt8.toNat_lt b; exact .u32 (by omega) (by omega) h
theorem Wr.bu8 {b : UInt8} {K : Int → Prop} (h : K (b.toNat : Int)) : Wr (b.toNat : Int) K .u8 := by have := UInt8.toNat_lt b; exact .u8 (by omega) (by omega) h

theorem OEq.box1 {t : TypeId} {k : IntKind} {x y : Int} (h : x = y) : OEq (.box t [.v (.int k x)]) (.box t [.v (.int k y)]) := by rw [h]; exact OEq.refl _

/-- The elements of a list, as a slice's cells. -/
def elsF {α : Type} [Inhabited α] (c : α → List AV) (l : List α) : Nat → List AV := fun i => c (l.getD i default)
theorem els_app {α : Type} [Inhabited α] {c : α → List AV} {l l' : List α} {n : Nat} (hn : n = l.length) : ∀ i, appF n (elsF c l) (elsF c l') i = elsF c (l ++ l') i := by
  intro i
  subst hn
  unfold appF elsF
  cases hb : Nat.ble l.length i with
  | true =>
    have := Nat.le_of_ble_eq_true hb
    simp only [cond_true]
    congr 1
    rw [List.getD, List.getD, List.getElem?_append_right this]
  | false =>
    have : i < l.length := Nat.lt_of_not_le fun h => by rw [Nat.ble_eq_true_of_le h] at hb; cases hb
    simp only [cond_false]
    congr 1
    rw [List.getD, List.getD, List.getElem?_append_left this]
theorem els_app1 {α : Type} [Inhabited α] {c : α → List AV} {l : List α} {x : α} {g : Nat → List AV} {n : Nat} (hn : n = l.length) (hg : g 0 = c x) : ∀ i, i < n + 1 → appF n (elsF c l) g i = elsF c (l ++ [x]) i := by
  intro i hi
  rw [← els_app hn]
  unfold appF
  cases hb : Nat.ble n i with
  | true =>
    have := Nat.le_of_ble_eq_true hb
    have e : i - n = 0 := by omega
    simp only [cond_true, e, hg]
    rfl
  | false => rfl

/-- A byte as cells. -/
def bC (b : UInt8) : List AV := [.v (.int .u8 (b.toNat : Int))]
abbrev bytesF (bs : List UInt8) : Nat → List AV := elsF bC bs

def byteOf' (n : Int) : UInt8 := UInt8.ofNat n.toNat
theorem byteOf'_nat {n : Int} (h0 : 0 ≤ n) (h1 : n ≤ 255) : ((byteOf' n).toNat : Int) = n := by
  unfold byteOf'
  rw [UInt8.toNat_ofNat', Nat.mod_eq_of_lt (by omega)]
  omega

/-- A row's cells are a list's bytes. -/
def IsB (F : Nat → List AV) (l : List UInt8) : Prop := ∀ i, i < l.length → F i = bytesF l i
theorem IsB.bytes (l : List UInt8) : IsB (bytesF l) l := fun _ _ => rfl
theorem IsB.str (s : ByteArray) : IsB (fun i => [.v (.int .u8 ((s.data.toList.getD i 0).toNat : Int))]) s.data.toList := fun _ _ => rfl
theorem IsB.nil (F : Nat → List AV) : IsB F [] := fun i h => absurd h (by simp)
theorem IsB.app {F G : Nat → List AV} {l l' : List UInt8} {n : Nat} (h : IsB F l) (h' : IsB G l') (hn : n = l.length) : IsB (appF n F G) (l ++ l') := by
  intro i hi
  rw [List.length_append] at hi
  show _ = elsF bC (l ++ l') i
  rw [← els_app hn]
  unfold appF
  cases hb : Nat.ble n i with
  | true =>
    have := Nat.le_of_ble_eq_true hb
    exact h' (i - n) (by omega)
  | false =>
    have : i < n := Nat.lt_of_not_le fun h => by rw [Nat.ble_eq_true_of_le h] at hb; cases hb
    exact h i (by omega)
theorem IsB.one {x : Int} (h0 : 0 ≤ x) (h1 : x ≤ 255) : IsB (chunk 1 [.v (.int .u8 x)]) [byteOf' x] := by
  intro i hi
  have e : i = 0 := by simpa using hi
  subst e
  show [AV.v (.int .u8 x)] = [AV.v (.int .u8 ((byteOf' x).toNat : Int))]
  rw [byteOf'_nat h0 h1]
theorem IsB.two {x y : Int} (h0 : 0 ≤ x) (h1 : x ≤ 255) (k0 : 0 ≤ y) (k1 : y ≤ 255) : IsB (chunk 1 [.v (.int .u8 x), .v (.int .u8 y)]) [byteOf' x, byteOf' y] := by
  intro i hi
  have e : i = 0 ∨ i = 1 := by simp at hi; omega
  rcases e with rfl | rfl
  · show [AV.v (.int .u8 x)] = [AV.v (.int .u8 ((byteOf' x).toNat : Int))]
    rw [byteOf'_nat h0 h1]
  · show [AV.v (.int .u8 y)] = [AV.v (.int .u8 ((byteOf' y).toNat : Int))]
    rw [byteOf'_nat k0 k1]
theorem str_len (s : ByteArray) : s.data.toList.length = s.size := rfl
theorem OEq.isB {e : TypeId} {n : Nat} {sc : Bool} {F : Nat → List AV} {l t : List UInt8} (h : IsB F l) (hn : n = l.length) (ht : l = t) : OEq (.row e 1 n sc F) (.row e 1 t.length sc (bytesF t)) := by
  subst ht
  exact OEq.row hn fun i hi => h i (by omega)

/-- A call that is walked into. -/
theorem ACall.into {P : Program} {L : Lay} {n : Nat} {f : FuncId} {avs : List AV} {st : AS} {K : AV → AS → Prop} {d : Nat} (lv : Nat) (fn : Func) (c : Code) (hf : P.funcs[f]? = some fn) (hn : (fn.name == "runtime.NumGoroutine") = false) (hb : fn.body = some c) (hsz : Nat.ble avs.length fn.ntmps = true)
    (h : intoK st avs (awpS P L (awp P L n) fn.ntmps lv c (fun e st' => match e with | .exit _ => False | .normal => ares L st' fn.results.toList (fun x => nrmA (st'.out) (K x)) | .ret => ares L st' fn.results.toList (fun x => nrmA (st'.out) (K x))))) : ACall P L (awp P L (n + 1)) d f avs st K :=
  .inl lv fn c hf hn hb hsz h

/-- A contract of plain values. -/
theorem spec_plain {P : Program} {f : FuncId} {xs : List Value} {r : Value} (he : Enters P f) (h : ∀ w, Calls P f xs.toArray w fun e w' => e = .returned r ∧ Below w.heap.size w w') : ASpec P f (xs.map .v) (.v r) [] := by
  refine ⟨he, fun w keep args _ hargs => ?_⟩
  have e : args = xs := spec_args hargs
  subst e
  exact (h w).mono fun e w' ⟨h1, h2⟩ => ⟨r, fun _ => undef, h1, h2, rfl, (fun p hp => by cases hp), by simp [blocksOf], (fun b hb => by simp [blocksOf] at hb)⟩
where
  spec_args {X : CX} : ∀ {xs us : List Value}, All2 (C1 X) (xs.map .v) us → us = xs
    | [], us, h => by
      have := h.1
      simp at this
      exact List.eq_nil_of_length_eq_zero this.symm
    | x :: xs, [], h => by have := h.1; simp at this
    | x :: xs, u :: us, h => by
      have h0 : u = x := h.2 0 _ _ rfl rfl
      have := spec_args (xs := xs) (us := us) ⟨by simpa using h.1, fun i a b ha hb => h.2 (i + 1) a b (by simpa using ha) (by simpa using hb)⟩
      rw [h0, this]
end Go.Proofs.Ytihjfndkgmjanaa

/- The abstract machine, more: a new row that is only read from now on; arguments that say more. -/
namespace Go.Proofs.Ytihjfndkgmjanaa
open Go.RowKit

/-- A contract of which the new row is only read. -/
theorem ASpec.thaw {P : Program} {f : FuncId} {avs : List AV} {r : AV} {d : Nat} {e : TypeId} {s n : Nat} {sc : Bool} {g : Nat → List AV} (hs : ASpec P f avs r [(d, .row e s n sc g)]) : ASpec P f avs (thaw2 d (.sl s n sc g) r) [] := by
  refine ⟨hs.1, fun w keep args hk ha => (hs.2 w keep args hk ha).mono ?_⟩
  rintro e0 w' ⟨u, ρ, h1, h2, h3, h4, h5, h6⟩
  obtain ⟨us, hown, hs0, hfl, hsc, hall⟩ := h4 _ (List.mem_singleton.2 rfl)
  have hown : w'.ownsRow 0 e s (ρ d) n us := hown
  have hall : All2 (PC w' (keepOf (base0 w keep) w' ρ [(d, .row e s n sc g)])) (flat n g) us := hall
  have hkk : ∀ b, keepOf (base0 w keep) w' ρ [(d, .row e s n sc g)] b → keepOf (base0 w keep) w' ρ [] b := fun b h => ⟨h.1, h.2.1, fun h' => by simp [blocksOf] at h'⟩
  have hrow : PC w' (keepOf (base0 w keep) w' ρ []) (.sl s n sc g) (ρ d) := by
    have ha' := hall.imp fun _ _ => PC.mono hkk (fun _ _ => rfl)
    rcases hown.2 with ⟨hv, hz⟩ | ⟨b, cap, cur, hv, hB, hh, hnc, hcm, _⟩
    · rw [hv]
      subst hz
      exact .sl s 0 sc g none 0 us hs0 (Nat.le_refl _) (by simp [maxLen]) hown.1 hfl hsc ha'.2 (.inl rfl)
    · rw [hv]
      refine .sl s n sc g _ cap us hs0 hnc hcm hown.1 hfl hsc ha'.2 (.inr ⟨b, 0, rfl, ⟨(Array.getElem?_eq_some_iff.1 hh).1, fun hlt => ?_, fun h' => by simp [blocksOf] at h'⟩, fun j u hj => ?_⟩)
      · have := h6 b (mem_blocks.2 ⟨_, List.mem_singleton.2 rfl, by rw [hv]; rfl⟩)
        exact absurd (show b < w.heap.size from hlt) (by omega)
      · have := hown.cells (g := b) (by rw [hv]; rfl) j u hj
        rwa [Addr.add_lit] at this
  exact ⟨u, ρ, h1, h2, C2.thaw (X := cxOf (base0 w keep) w' ρ [(d, .row e s n sc g)]) (Y := cxOf (base0 w keep) w' ρ []) hkk (fun _ _ => rfl) rfl hrow h3, fun p hp => (by cases hp), by simp [blocksOf], fun b hb => by simp [blocksOf] at hb⟩

/-- A loop that is unrolled, known by its counter's slot. -/
theorem ALoop.unr {body : (AExit → AS → Prop) → AS → Prop} {Q : AExit → AS → Prop} {st : AS} (t n : Nat) (_ht : st.tmps t = .v (.int .i64 0)) (h : aunroll body Q n st) : ALoop body Q st := .rounds n h

/-- Arguments that say more. -/
inductive Ch : List AV → List AV → Prop where
  | nil : Ch [] []
  | same {x : AV} {xs ys : List AV} : Ch xs ys → Ch (x :: xs) (x :: ys)
  | of {x y : AV} {xs ys : List AV} (h : ∀ (X : CX) (u : Value), C1 X x u → C1 X y u) : Ch xs ys → Ch (x :: xs) (y :: ys)
theorem Ch.all {X : CX} : ∀ {xs ys : List AV} {us : List Value}, Ch xs ys → All2 (C1 X) xs us → All2 (C1 X) ys us
  | _, _, _, .nil, h => h
  | _, _, [], .same _, h => by have := h.1; simp at this
  | _, _, [], .of _ _, h => by have := h.1; simp at this
  | _, _, u :: us, .same k, h => All2.cons (h.2 0 _ _ rfl rfl) (Ch.all k ⟨by simpa using h.1, fun i a b ha hb => h.2 (i + 1) a b (by simpa using ha) (by simpa using hb)⟩)
  | _, _, u :: us, .of h0 k, h => All2.cons (h0 X u (h.2 0 _ _ rfl rfl)) (Ch.all k ⟨by simpa using h.1, fun i a b ha hb => h.2 (i + 1) a b (by simpa using ha) (by simpa using hb)⟩)
theorem ASpec.args {P : Program} {f : FuncId} {avs bvs : List AV} {r : AV} {h : List (Nat × AO)} (hs : ASpec P f bvs r h) (hc : Ch avs bvs) : ASpec P f avs r h :=
  ⟨hs.1, fun w keep args hk ha => hs.2 w keep args hk (Ch.all hc ha)⟩
end Go.Proofs.Ytihjfndkgmjanaa
