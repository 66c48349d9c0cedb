/-
  A row of texts with one more, in order, each once: kithref09.with.
-/
import Derived.Test.YtihjfndkgmjanaaBr3
namespace Go.Proofs.Ytihjfndkgmjanaa
open Go.RowKit

theorem less_eq : ∀ (x y : Str), Op.bytesLess x y = decide (x < y)
  | x, [] => by cases x <;> simp [Op.bytesLess]
  | [], _ :: _ => by simp [Op.bytesLess]
  | a :: x, b :: y => by
    rw [Op.bytesLess, less_eq x y]
    by_cases h1 : a < b <;> by_cases h2 : a = b <;> by_cases h3 : x < y <;> simp [List.cons_lt_cons_iff, h1, h2, h3]
theorem toL (b : ByteArray) : b.toList = strL b := ByteArray.toList_eq b
theorem toA (x : Str) : (ByteArray.mk x.toArray).toList = x := by rw [toL]; rfl
theorem arr_strL (b : ByteArray) : (ByteArray.mk (strL b).toArray) = b := by obtain ⟨a⟩ := b; simp [strL]

/-- A row's cells are a list's texts. -/
def IsS (F : Nat → List AV) (l : List Str) : Prop := ∀ i, i < l.length → F i = strF l i
theorem IsS.refl (l : List Str) : IsS (strF l) l := fun _ _ => rfl
theorem IsS.nil (F : Nat → List AV) : IsS F [] := fun i h => absurd h (by simp)
theorem IsS.app {F G : Nat → List AV} {l l' : List Str} {n : Nat} (h : IsS F l) (h' : IsS G l') (hn : n = l.length) : IsS (appF n F G) (l ++ l') := by
  intro i hi
  subst hn
  rw [List.length_append] at hi
  unfold appF
  cases hb : Nat.ble l.length i with
  | true =>
    have := Nat.le_of_ble_eq_true hb
    simp only [cond_true]
    rw [h' (i - l.length) (by omega)]
    unfold strF
    rw [List.getD, List.getD, List.getElem?_append_right this]
  | false =>
    have : i < l.length := Nat.lt_of_not_le fun h => by rw [Nat.ble_eq_true_of_le h] at hb; cases hb
    simp only [cond_false]
    rw [h i this]
    unfold strF
    rw [List.getD, List.getD, List.getElem?_append_left this]
theorem IsS.take {F : Nat → List AV} {l : List Str} (h : IsS F l) (k : Nat) : IsS F (l.take k) := by
  intro i hi
  rw [List.length_take] at hi
  rw [h i (by omega)]
  unfold strF
  rw [List.getD, List.getD, List.getElem?_take_of_lt (by omega)]
theorem IsS.drop {F : Nat → List AV} {l : List Str} (h : IsS F l) (k : Nat) : IsS (fun i => F (k + i)) (l.drop k) := by
  intro i hi
  rw [List.length_drop] at hi
  show F (k + i) = _
  rw [h (k + i) (by omega)]
  unfold strF
  rw [List.getD, List.getD, List.getElem?_drop]
theorem IsS.one (s : ByteArray) : IsS (chunk 1 [.v (.string s)]) [strL s] := by
  intro i hi
  obtain rfl : i = 0 := by simpa using hi
  show [AV.v (.string s)] = [AV.v (encStr (strL s))]
  rw [enc_strL]
theorem AEq.isS {n : Nat} {sc : Bool} {F : Nat → List AV} {l t : List Str} (h : IsS F l) (hn : n = l.length) (ht : l = t) : AEq (.sl 1 n sc F) (.sl 1 t.length sc (strF t)) := by
  subst ht
  exact AEq.sl hn fun i hi => h i (by omega)

def withL (l : List Str) (s : Str) : List Str :=
  if l.getD (l.findIdx fun x => !decide (x < s)) [] = s ∧ (l.findIdx fun x => !decide (x < s)) < l.length then l else l.take (l.findIdx fun x => !decide (x < s)) ++ s :: l.drop (l.findIdx fun x => !decide (x < s))
theorem find_at {l : List Str} {s : Str} {k : Nat} (hk : k ≤ l.length) (hlt : ∀ i, i < k → l.getD i [] < s) (he : k = l.length ∨ ¬ l.getD k [] < s) : (l.findIdx fun x => !decide (x < s)) = k := by
  have hg : ∀ i, i < l.length → l.getD i [] = l[i]! := fun i h => by rw [List.getD, List.getElem?_eq_getElem h, List.getElem!_eq_getElem?_getD, List.getElem?_eq_getElem h]; rfl
  by_cases h : k = l.length
  · subst h
    rw [List.findIdx_eq_length]
    intro x hx
    obtain ⟨i, hi, rfl⟩ := List.getElem_of_mem hx
    have := hlt i hi
    rw [List.getD, List.getElem?_eq_getElem hi] at this
    simpa using this
  · have hkl : k < l.length := by omega
    refine (List.findIdx_eq hkl).2 ⟨?_, fun i hi => ?_⟩
    · have := he.resolve_left h
      rw [List.getD, List.getElem?_eq_getElem hkl] at this
      simpa using this
    · have := hlt i hi
      rw [List.getD, List.getElem?_eq_getElem (show i < l.length by omega)] at this
      simpa using this

set_option maxHeartbeats 8000000 in
set_option maxRecDepth 100000 in
theorem with_spec (l : List Str) (s : ByteArray) (hl : l.length ≤ 1000000000) :
    ASpec Try.prog 42 [.sl 1 l.length true (strF l), .v (.string s)] (.sl 1 (withL l (strL s)).length true (strF (withL l (strL s)))) [] := by
  have hW : ∀ k, k ≤ l.length → (∀ i, i < k → l.getD i [] < strL s) → (k = l.length ∨ ¬ l.getD k [] < strL s) → withL l (strL s) = if l.getD k [] = strL s ∧ k < l.length then l else l.take k ++ strL s :: l.drop k := fun k h1 h2 h3 => by
    rw [withL, find_at h1 h2 h3]
  generalize withL l (strL s) = R at hW
  refine aspec_of lay_ok 4295229555 Try.func42 rfl rfl rfl ?_
  repeat' ((conv => whnf); first | refine Spl.yes (by first | assumption | omega) ?_ | refine Spl.no (by first | assumption | omega) ?_ | refine Wr.i64 (by omega) (by omega) ?_ | refine Still.mk rfl rfl ?_ | refine InB.mk (inB_mk (by omega) (by omega)) ?_ | refine Req.mk (by omega) ?_ | refine Req.mk ⟨by first | omega | (dsimp only; omega), by first | omega | (dsimp only; omega)⟩ ?_ | refine ARet.hdI ?_ | refine Spl.mk (fun _ => ?_) (fun _ => ?_) | refine Wr.b64 ?_ | refine Wr.bu64 ?_ | refine Wr.bu32 ?_ | refine Wr.bu8 ?_ | refine Wr.u8 (by omega) (by omega) ?_ | refine Wr.u64 (by omega) (by omega) ?_ | refine Wr.u32 (by omega) (by omega) ?_ | refine Dv.pos (by omega) (by omega) ?_ | refine Rm.pos (by omega) (by omega) ?_ | refine ADraw.quiet follows_ok (by kernel_rfl) rfl ?_ | refine BSpl.decY (by first | assumption | omega) ?_ | refine BSpl.decN (by first | assumption | omega) ?_ | refine BSpl.dec (fun _ => ?_) (fun _ => ?_) | refine BSpl.yes (by assumption) ?_ | refine BSpl.no (by assumption) ?_ | refine BSpl.mk (fun _ => ?_) (fun _ => ?_))
  conv => whnf
  refine ALoop.mk { k : Nat // k ≤ l.length ∧ ∀ i, i < k → l.getD i [] < strL s } (fun k => ⟨[(0, .sl 1 l.length true (strF l)), (1, .v (.string s)), (5, .v (.int .i64 (k.1 : Int)))], [], [], 0⟩) (fun k => l.length - k.1) ⟨0, Nat.zero_le _, fun i h => absurd h (Nat.not_lt_zero i)⟩ _
    (LeR.mk' [] _ _ _ rfl ⟨AEq.refl _, AEq.refl _, AEq.int rfl, trivial⟩ trivial rfl) ?_
  rintro ⟨k, hk, hall⟩
  dsimp only
  have fin : (k = l.length ∨ ¬ l.getD k [] < strL s) → ¬ (l.getD k [] = strL s ∧ k < l.length) → R = l.take k ++ ([strL s] ++ l.drop k) := fun h1 h2 => by rw [hW k hk hall h1, if_neg h2]; rfl
  by_cases hkl : k < l.length
  · have hlss : Op.bytesLess (ByteArray.mk (l.getD (k : Int).toNat []).toArray).toList s.toList = decide (l.getD (k : Int).toNat [] < strL s) := by rw [toA, toL, less_eq]
    by_cases hlt : l.getD (k : Int).toNat [] < strL s
    · rw [decide_eq_true hlt] at hlss
      have hup : ∀ i, i < k + 1 → l.getD i [] < strL s := fun i hi => by
        rcases Nat.lt_or_ge i k with h' | h'
        · exact hall i h'
        · obtain rfl : i = k := by omega
          exact hlt
      repeat' ((conv => whnf); first | refine Spl.yes (by first | assumption | omega) ?_ | refine Spl.no (by first | assumption | omega) ?_ | refine Wr.i64 (by omega) (by omega) ?_ | refine Still.mk rfl rfl ?_ | refine InB.mk (inB_mk (by omega) (by omega)) ?_ | refine Req.mk (by omega) ?_ | refine Req.mk ⟨by first | omega | (dsimp only; omega), by first | omega | (dsimp only; omega)⟩ ?_ | refine Spl.yes hlss ?_ | refine ARet.hdI ?_ | refine Spl.mk (fun _ => ?_) (fun _ => ?_) | refine Wr.b64 ?_ | refine Wr.bu64 ?_ | refine Wr.bu32 ?_ | refine Wr.bu8 ?_ | refine Wr.u8 (by omega) (by omega) ?_ | refine Wr.u64 (by omega) (by omega) ?_ | refine Wr.u32 (by omega) (by omega) ?_ | refine Dv.pos (by omega) (by omega) ?_ | refine Rm.pos (by omega) (by omega) ?_ | refine ADraw.quiet follows_ok (by kernel_rfl) rfl ?_ | refine BSpl.decY (by first | assumption | omega) ?_ | refine BSpl.decN (by first | assumption | omega) ?_ | refine BSpl.dec (fun _ => ?_) (fun _ => ?_) | refine BSpl.yes (by assumption) ?_ | refine BSpl.no (by assumption) ?_ | refine BSpl.mk (fun _ => ?_) (fun _ => ?_))
      conv => whnf
      exact ⟨⟨k + 1, hkl, hup⟩, _, LeR.mk' [] _ _ _ rfl ⟨AEq.refl _, AEq.refl _, AEq.int rfl, trivial⟩ trivial rfl, Nat.sub_succ_lt_self _ _ hkl⟩
    · rw [decide_eq_false hlt] at hlss
      have hlss : ¬ Op.bytesLess (ByteArray.mk (l.getD (k : Int).toNat []).toArray).toList s.toList = true := by rw [hlss]; simp
      by_cases heq : (⟨(l.getD (k : Int).toNat []).toArray⟩ : ByteArray) = s
      · have hR : R = l := by
          have h0 : l.getD k [] = strL s := by
            rw [← heq]
            rfl
          rw [hW k hk hall (.inr hlt), if_pos ⟨h0, hkl⟩]
        rw [hR]
        repeat' ((conv => whnf); first | refine Spl.yes (by first | assumption | omega) ?_ | refine Spl.no (by first | assumption | omega) ?_ | refine Wr.i64 (by omega) (by omega) ?_ | refine Still.mk rfl rfl ?_ | refine InB.mk (inB_mk (by omega) (by omega)) ?_ | refine Req.mk (by omega) ?_ | refine Req.mk ⟨by first | omega | (dsimp only; omega), by first | omega | (dsimp only; omega)⟩ ?_ | refine Spl.no hlss ?_ | refine ARet.hdI ?_ | refine Spl.mk (fun _ => ?_) (fun _ => ?_) | refine Wr.b64 ?_ | refine Wr.bu64 ?_ | refine Wr.bu32 ?_ | refine Wr.bu8 ?_ | refine Wr.u8 (by omega) (by omega) ?_ | refine Wr.u64 (by omega) (by omega) ?_ | refine Wr.u32 (by omega) (by omega) ?_ | refine Dv.pos (by omega) (by omega) ?_ | refine Rm.pos (by omega) (by omega) ?_ | refine ADraw.quiet follows_ok (by kernel_rfl) rfl ?_ | refine BSpl.decY (by first | assumption | omega) ?_ | refine BSpl.decN (by first | assumption | omega) ?_ | refine BSpl.dec (fun _ => ?_) (fun _ => ?_) | refine BSpl.yes (by assumption) ?_ | refine BSpl.no (by assumption) ?_ | refine BSpl.mk (fun _ => ?_) (fun _ => ?_))
        all_goals (conv => whnf)
        all_goals exact AEqI.mk (AEq.refl _)
      · have hR := fin (.inr hlt) fun h => heq (by
          show (⟨(l.getD k []).toArray⟩ : ByteArray) = s
          rw [h.1, arr_strL])
        rw [hR]
        repeat' ((conv => whnf); first | refine Spl.yes (by first | assumption | omega) ?_ | refine Spl.no (by first | assumption | omega) ?_ | refine Wr.i64 (by omega) (by omega) ?_ | refine Still.mk rfl rfl ?_ | refine InB.mk (inB_mk (by omega) (by omega)) ?_ | refine Req.mk (by omega) ?_ | refine Req.mk ⟨by first | omega | (dsimp only; omega), by first | omega | (dsimp only; omega)⟩ ?_ | refine Spl.no hlss ?_ | refine ARet.hdI ?_ | refine Spl.mk (fun _ => ?_) (fun _ => ?_) | refine Wr.b64 ?_ | refine Wr.bu64 ?_ | refine Wr.bu32 ?_ | refine Wr.bu8 ?_ | refine Wr.u8 (by omega) (by omega) ?_ | refine Wr.u64 (by omega) (by omega) ?_ | refine Wr.u32 (by omega) (by omega) ?_ | refine Dv.pos (by omega) (by omega) ?_ | refine Rm.pos (by omega) (by omega) ?_ | refine ADraw.quiet follows_ok (by kernel_rfl) rfl ?_ | refine BSpl.decY (by first | assumption | omega) ?_ | refine BSpl.decN (by first | assumption | omega) ?_ | refine BSpl.dec (fun _ => ?_) (fun _ => ?_) | refine BSpl.yes (by assumption) ?_ | refine BSpl.no (by assumption) ?_ | refine BSpl.mk (fun _ => ?_) (fun _ => ?_))
        all_goals (conv => whnf)
        refine AEqI.mk (AEq.isS (((((IsS.nil _).app ((IsS.refl l).take k) rfl).app (IsS.one s) ?_).app ((IsS.nil _).app ((IsS.refl l).drop k) rfl) ?_)) ?_ ?_)
        all_goals simp only [List.nil_append, List.append_assoc, List.length_append, List.length_take, List.length_drop, List.length_cons, List.length_nil, Int.toNat_natCast]
        all_goals omega
  · have hR := fin (.inl (by omega)) fun h => hkl h.2
    rw [hR]
    repeat' ((conv => whnf); first | refine Spl.yes (by first | assumption | omega) ?_ | refine Spl.no (by first | assumption | omega) ?_ | refine Wr.i64 (by omega) (by omega) ?_ | refine Still.mk rfl rfl ?_ | refine InB.mk (inB_mk (by omega) (by omega)) ?_ | refine Req.mk (by omega) ?_ | refine Req.mk ⟨by first | omega | (dsimp only; omega), by first | omega | (dsimp only; omega)⟩ ?_ | refine ARet.hdI ?_ | refine Spl.mk (fun _ => ?_) (fun _ => ?_) | refine Wr.b64 ?_ | refine Wr.bu64 ?_ | refine Wr.bu32 ?_ | refine Wr.bu8 ?_ | refine Wr.u8 (by omega) (by omega) ?_ | refine Wr.u64 (by omega) (by omega) ?_ | refine Wr.u32 (by omega) (by omega) ?_ | refine Dv.pos (by omega) (by omega) ?_ | refine Rm.pos (by omega) (by omega) ?_ | refine ADraw.quiet follows_ok (by kernel_rfl) rfl ?_ | refine BSpl.decY (by first | assumption | omega) ?_ | refine BSpl.decN (by first | assumption | omega) ?_ | refine BSpl.dec (fun _ => ?_) (fun _ => ?_) | refine BSpl.yes (by assumption) ?_ | refine BSpl.no (by assumption) ?_ | refine BSpl.mk (fun _ => ?_) (fun _ => ?_))
    all_goals (conv => whnf)
    refine AEqI.mk (AEq.isS (((((IsS.nil _).app ((IsS.refl l).take k) rfl).app (IsS.one s) ?_).app ((IsS.nil _).app ((IsS.refl l).drop k) rfl) ?_)) ?_ ?_)
    all_goals simp only [List.nil_append, List.append_assoc, List.length_append, List.length_take, List.length_drop, List.length_cons, List.length_nil, Int.toNat_natCast]
    all_goals omega
end Go.Proofs.Ytihjfndkgmjanaa
