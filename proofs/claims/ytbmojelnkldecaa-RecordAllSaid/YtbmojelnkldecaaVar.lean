/-
  What varint.Put computes: the bytes of a number, in a new slice.
-/
import Derived.Test.YtbmojelnkldecaaChecked
import Derived.Test.YtbmojelnkldecaaAmA
import Derived.Test.YtbmojelnkldecaaPlain
import Derived.WalkSpells
import Derived.WalkLawsBesides
import Derived.Handy
namespace Go.Proofs.Ytbmojelnkldecaa
open Go.RowKit

/-- A new slice of the bytes bs; nothing that was there has changed. -/
def OutB (w : World) (bs : List UInt8) (x : Value) (w' : World) : Prop :=
  ∃ A c, x = .slice A bs.length c ∧ w'.ownsRow w.heap.size 5 1 (.slice A bs.length c) bs.length (bs.map bV) ∧ Below w.heap.size w w'

theorem u8_info : (Try.prog.info? 5).map (fun i => (i.zero, i.size, i.bytes)) = some (some (.int .u8 0), 1, 1) := by kernel_rfl

theorem own_bytes {w : World} {base n : Nat} {v : Value} {bs cs : List UInt8} (h : w.ownsRow base 5 1 v n (bs.map bV)) (e : bs = cs) : w.ownsRow base 5 1 v cs.length (cs.map bV) := by
  have hn := h.1
  simp at hn
  rw [← e, hn]
  exact h

/-- append to a slice of bytes that is nil or the call's own. -/
theorem wpList_appB {ops : Array Oper} {rest : List Oper} {o : Oper} {a : Act} {Q : Exit → Act → World → Prop} (w : World) (hgd : o.guard = none) (s x : Operand) (tx : TypeId)
    (ho : o.op = .call { callee := .builtin .append, args := #[s, x], argTypes := #[26, tx] }) (base : Nat) (v : Value) (n : Nat) (bs : List UInt8) (hs : a.eval s = v) (hown : w.ownsRow base 5 1 v n (bs.map bV))
    (X : Value) (m : Nat) (nb : List UInt8) (hx : a.eval x = X) (hsrc : Src Try.prog 1 tx X m (nb.map bV) w) (hlen : n + m ≤ 140737488355328) (hbase : base ≤ w.heap.size)
    (h : ∀ v' w', w'.ownsRow base 5 1 v' (n + m) ((bs ++ nb).map bV) → w.grownBy w' v.ownBlock → (v'.ownBlock = v.ownBlock ∨ v'.ownBlock = some w.heap.size) → wpList Try.prog ops Q rest (a.put o.dst v') w') :
    wpList Try.prog ops Q (o :: rest) a w := by
  obtain ⟨i0, hi, hz0, hz1, hz2⟩ := info_parts u8_info
  refine wpList_append_any w hgd s x _ tx ho base 5 i0 _ 1 1 Try.underlying26 hi hz0 hz1 hz2 rfl v n (bs.map bV) hs hown X m (nb.map bV) hx hsrc (by simp only [maxLen]; omega) (by omega) hbase ?_
  intro v' w' h1 h2 h3
  exact h v' w' (by simpa using h1) h2 h3

/-- The same as one step of a region that draws its order. -/
theorem step_appB {ops : Array Oper} {o : Oper} {a : Act} {K : Act → World → Prop} {Q : Exit → Act → World → Prop} {E : Prop} (w : World) (hgd : o.guard = none) (s x : Operand) (tx : TypeId)
    (ho : o.op = .call { callee := .builtin .append, args := #[s, x], argTypes := #[26, tx] }) (base : Nat) (v : Value) (n : Nat) (bs : List UInt8) (hs : a.eval s = v) (hown : w.ownsRow base 5 1 v n (bs.map bV))
    (X : Value) (m : Nat) (nb : List UInt8) (hx : a.eval x = X) (hsrc : Src Try.prog 1 tx X m (nb.map bV) w) (hlen : n + m ≤ 140737488355328) (hbase : base ≤ w.heap.size)
    (h : ∀ v' w', w'.ownsRow base 5 1 v' (n + m) ((bs ++ nb).map bV) → w.grownBy w' v.ownBlock → (v'.ownBlock = v.ownBlock ∨ v'.ownBlock = some w.heap.size) → K (a.put o.dst v') w') :
    if Region.wanted o (yielded ops a.tmps) = true then Oper.wp Try.prog o a w K Q else E := by
  have hw : Region.wanted o (yielded ops a.tmps) = true := by simp [Region.wanted, hgd]
  rw [if_pos hw]
  obtain ⟨i0, hi, hz0, hz1, hz2⟩ := info_parts u8_info
  refine wp_append_any w s x _ tx ho base 5 i0 _ 1 1 Try.underlying26 hi hz0 hz1 hz2 rfl v n (bs.map bV) hs hown X m (nb.map bV) hx hsrc (by simp only [maxLen]; omega) (by omega) hbase ?_
  intro v' w' h1 h2 h3
  exact h v' w' (by simpa using h1) h2 h3

theorem src1 {w : World} {q : Int} {b : UInt8} (hq : q = (b.toNat : Int)) :
    Src Try.prog 1 26 (.slice (some ⟨w.heap.size, 0, none⟩) 1 1) 1 ([b].map bV) (w.alloc (.cells #[.int .u8 q] 5)) := by
  subst hq
  refine Src.ofSlice _ Try.underlying26 ⟨w.heap.size, 0, none⟩ 1 1 [bV b] rfl ?_ (bV_one [b])
  intro j u hj
  match j, hj with
  | 0, hj => simp at hj; subst hj; simp [Addr.add, bV]

theorem own_grow {a w w' : World} {base : Nat} {e : TypeId} {size n : Nat} {v : Value} {xs : List Value} (hb : Below a.heap.size a w) (hown : w.ownsRow base e size v n xs) (hg : w.grownBy w' v.ownBlock) (hbase : a.heap.size ≤ base) : Below a.heap.size a w' :=
  hb.grown hg hb.size (fun k hk => Nat.le_trans hbase (hown.lt k hk).1)

set_option maxHeartbeats 1000000 in
set_option maxRecDepth 100000 in
theorem vput_any (n : Int) (h0 : 0 ≤ n) (h1 : n ≤ 4294967296) (w : World) :
    Calls Try.prog 39 #[.int .u64 n] w fun x w' => ∃ v, x = .returned v ∧ OutB w (vputI n) v w' := by
  obtain ⟨m, rfl⟩ := Int.eq_ofNat_of_zero_le h0
  obtain ⟨i0, hi, hz0, hz1, hz2⟩ := info_parts u8_info
  have hst := vput_start m (by omega)
  unfold vputI
  rw [Int.toNat_natCast]
  obtain ⟨m0, hm0⟩ : ∃ m0, m0 = m := ⟨m, rfl⟩
  generalize ht : vput m = t at hst ⊢
  have htl : vputF 9 m0 = t := by rw [hm0]; exact ht
  have HTL := Lib.hid htl
  clear ht hm0 htl
  go_enter Try.func39, Try.ntmps39
  go_wp2
  go_loopw [0, 3] (fun n b wr => ∃ (m f : Nat) (acc : List UInt8) (v : Value), n = .int .u64 m ∧ b = v ∧ m ≤ 4294967296 ∧ acc ++ vputF f m = t ∧ m < 128 ^ (f + 1) ∧
      wr.ownsRow w.heap.size 5 1 v acc.length (acc.map bV) ∧ Below w.heap.size w wr) (fun n _ _ => (intOf n).toNat)
  case atStart => exact ⟨m, 9, [], _, rfl, rfl, by omega, hst.1, hst.2, World.ownsRow_nil _ _ _ _, Below.refl _ _⟩
  case round =>
    obtain ⟨m, f, acc, v, rfl, rfl, hm, hacc, hf, hown, hbel⟩ := hrel
    have HF := Lib.hid hf
    have HA := Lib.hid hacc
    clear hf hacc
    have hal : acc.length ≤ 10 := by
      have := congrArg List.length HA.out
      have h2 := vputF_le 9 m0
      rw [HTL.out] at h2
      simp at this
      omega
    by_cases hlt : 128 ≤ m
    · have hn : (m : Int) % 128 + 128 = ((UInt8.ofNat (m % 128 + 128)).toNat : Int) := by
        rw [UInt8.toNat_ofNat', Nat.mod_eq_of_lt (by omega)]; omega
      have HN := Lib.hid hn
      clear hn
      go_wp2_with (first
        | (at_builtin; refine wpList_appB _ rfl (.tmp 6) (.tmp 11) _ rfl w.heap.size _ _ acc rfl (hown.alloc _) _ 1 [UInt8.ofNat (m % 128 + 128)] rfl (src1 HN.out) (by omega) (by have := hbel.size; simp; omega) ?_; intro v1 w1 hown1 hg1 hat1))
      obtain ⟨f', h1, h2⟩ := vput_round HA.out HF.out hlt
      go_roundw
      case rel => exact ⟨m / 128, f', _, _, by go_num, rfl, by omega, h1, h2, own_bytes hown1 rfl, own_grow (hbel.alloc hbel.size _) (hown.alloc _) hg1 (Nat.le_refl _)⟩
      case measure => simp [intOf]; omega
    · have hn : (m : Int) = ((UInt8.ofNat m).toNat : Int) := by
        rw [UInt8.toNat_ofNat', Nat.mod_eq_of_lt (by omega)]
      have HN := Lib.hid hn
      clear hn
      go_wp2_with (first
        | (at_builtin; refine wpList_appB _ rfl (.tmp 15) (.tmp 18) _ rfl w.heap.size _ _ acc rfl (hown.alloc _) _ 1 [UInt8.ofNat m] rfl (src1 HN.out) (by omega) (by have := hbel.size; simp; omega) ?_; intro v1 w1 hown1 hg1 hat1))
      go_ret
      have h1 := own_bytes hown1 (vput_last HA.out (by omega))
      obtain ⟨A, c, hv, _⟩ := own_form h1
      refine ⟨_, rfl, A, c, hv, ?_, own_grow (hbel.alloc hbel.size _) (hown.alloc _) hg1 (Nat.le_refl _)⟩
      rw [← hv]
      exact h1
end Go.Proofs.Ytbmojelnkldecaa
