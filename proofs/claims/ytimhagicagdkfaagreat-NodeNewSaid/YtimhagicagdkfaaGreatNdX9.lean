/-
  Contracts of the walk: Txt, Var, VTake, TkPlain, FitA, BkU, H3, OpG, BkO, Ch, Mk1, Cf.
-/
import Derived.Test.YtimhagicagdkfaaGreatNdX6
import Derived.Test.YtimhagicagdkfaaGreatNdX1
import Derived.WalkSpells
import Derived.WalkLawsBesides
import Derived.Test.YtimhagicagdkfaaGreatChecked
import Derived.Handy
import Derived.Laws.BitsAllLaws
import Derived.Test.YtimhagicagdkfaaGreatNdX8
import Derived.Lib.RowBridge
import Derived.Test.YtimhagicagdkfaaGreatRows
import Derived.ProofKit
import Derived.OpenShut
import Derived.SizedLaws
import Derived.ChangeOld
/-
 What package text and the small functions of package event compute.
-/
namespace Go.Proofs.YtimhagicagdkfaaGreat
open Go.RowKit
theorem lettersB_iff (s : ByteArray) : lettersB s = true ↔ ∀ i (h : i < s.size),97 ≤ (s[i]'h).toNat ∧ (s[i]'h).toNat ≤ 122 := by
 unfold lettersB
 rw [List.all_eq_true]
 constructor
 · intro h i hi
   have := h s[i] (by
    show s.data[i]'hi ∈ s.data.toList
    exact Array.mem_toList_iff.2 (Array.getElem_mem _))
   simpa using this
 · intro h b hb
   obtain ⟨i,hi,rfl⟩ := Array.getElem_of_mem (Array.mem_toList_iff.1 hb)
   have h1 : 97 ≤ (s.data[i]'hi).toNat ∧ (s.data[i]'hi).toNat ≤ 122 := h i hi
   simpa using h1
theorem keyE_ok {s : ByteArray} (h1 : 1 ≤ s.size) (h2 : s.size ≤ 8) (h : ∀ i (h : i < s.size),97 ≤ (s[i]'h).toNat ∧ (s[i]'h).toNat ≤ 122) : keyE s = 0 := by
 unfold keyE
 rw [if_pos ⟨h1,h2,(lettersB_iff s).2 h⟩]
theorem keyE_no {s : ByteArray} {i : Nat} (hi : i < s.size) (h : ¬ (97 ≤ (s[i]'hi).toNat ∧ (s[i]'hi).toNat ≤ 122)) : keyE s = 10 := by
 unfold keyE
 rw [if_neg (fun hh => h ((lettersB_iff s).1 hh.2.2 i hi))]
theorem keyE_size {s : ByteArray} (h : ¬ (1 ≤ s.size ∧ s.size ≤ 8)) : keyE s = 10 := by
 unfold keyE
 rw [if_neg (fun hh => h ⟨hh.1,hh.2.1⟩)]
set_option maxHeartbeats 1000000 in
theorem key_any (s : ByteArray) (w : World) :
  Calls Tryz.prog 115 #[.string s] w fun e w' => e = .returned (.int .i64 (keyE s)) ∧ Below w.heap.size w w' := by
 by_cases h1 : 1 ≤ s.size
 · by_cases h2 : s.size ≤ 8
   · go_enter Tryz.func115,Tryz.ntmps115
     go_wp2
     go_loopw [] (fun w' => ∃ pos : Nat,w' = w.iter s pos ∧ ∀ i (h : i < s.size),i < pos → 97 ≤ (s[i]'h).toNat ∧ (s[i]'h).toNat ≤ 122) (fun w' => s.size - w'.iterPos w.heap.size)
     case atStart => exact ⟨0,rfl,fun i _ h => by omega⟩
     case round =>
      obtain ⟨pos,rfl,hl⟩ := hrel
      have HL := Lib.hid hl
      clear hl
      by_cases hp : pos < s.size
      · by_cases ha : (s[pos]'hp).toNat < 128
        · have hnx : ∀ ty,(Instr.next (.pointer (some ⟨w.heap.size,0,none⟩)) true ty).run Tryz.prog (w.iter s pos) = _ := fun ty => run_next_ascii w s pos ty hp ha
          by_cases h97 : 97 ≤ (s[pos]'hp).toNat
          · by_cases h122 : (s[pos]'hp).toNat ≤ 122
            · go_wp2
              go_roundw
              case rel =>
               exact ⟨pos + 1,rfl,fun i h hi => by
                by_cases e : i = pos
                · subst e; exact ⟨h97,h122⟩
                · exact HL.out i h (by omega)⟩
              case measure =>
               simp
               omega
            · go_wp2
              go_ret
              exact ⟨ret_int (keyE_no hp (fun hh => h122 hh.2)).symm,(Below.refl _ _).alloc (Nat.le_refl _) _⟩
          · go_wp2
            go_ret
            exact ⟨ret_int (keyE_no hp (fun hh => h97 hh.1)).symm,(Below.refl _ _).alloc (Nat.le_refl _) _⟩
        · have hnx : ∀ ty,(Instr.next (.pointer (some ⟨w.heap.size,0,none⟩)) true ty).run Tryz.prog (w.iter s pos) = _ := fun ty => run_next_any w s pos ty hp
          have hd := (decode_high s pos hp (by omega)).1
          go_wp2
          go_ret
          exact ⟨ret_int (keyE_no hp (by omega)).symm,(Below.refl _ _).alloc (Nat.le_refl _) _⟩
      · have hnx : ∀ ty,(Instr.next (.pointer (some ⟨w.heap.size,0,none⟩)) true ty).run Tryz.prog (w.iter s pos) = _ := fun ty => run_next_end w s pos ty hp
        go_wp2
        go_ret
        exact ⟨ret_int (keyE_ok h1 h2 (fun i h => HL.out i h (by omega))).symm,(Below.refl _ _).alloc (Nat.le_refl _) _⟩
   · go_enter Tryz.func115,Tryz.ntmps115
     go_wp2
     go_ret
     exact ⟨ret_int (keyE_size (by omega)).symm,Below.refl _ _⟩
 · go_enter Tryz.func115,Tryz.ntmps115
   go_wp2
   go_ret
   exact ⟨ret_int (keyE_size (by omega)).symm,Below.refl _ _⟩
theorem key_spec (s : ByteArray) : ASpec Tryz.prog 115 [.v (.string s)] (.v (.int .i64 (keyE s))) [] :=
 spec_plain (xs := [.string s]) ⟨_,_,Tryz.func115,rfl,rfl⟩ fun w => key_any s w
theorem label_spec (n : Int) : ASpec Tryz.prog 116 [.v (.int .i64 n)] (.v (.int .i64 (labelE n))) [] := by
 refine K1.E 0x105 Tryz.func116 ?_
 repeat' ((conv => whnf); first | refine K1.w ?_ | refine K1.u ?_ | refine K1.z ?_ | refine K1.y (fun _ => ?_) (fun _ => ?_) | fail)
 all_goals (refine ARet.int rfl ?_; unfold labelE; (first | rw [if_pos (by omega)] | rw [if_neg (by omega)]))
theorem value_spec (s : ByteArray) : ASpec Tryz.prog 117 [.v (.string s)] (.v (.int .i64 (valueE s))) [] := by
 refine K1.E 0x405 Tryz.func117 ?_
 repeat' ((conv => whnf); first | refine K1.w ?_ | refine K1.u ?_ | refine K1.z ?_ | refine K1.y (fun _ => ?_) (fun _ => ?_) | fail)
 all_goals (refine ARet.int rfl ?_; unfold valueE; (first | rw [if_pos (by omega)] | rw [if_neg (by omega)]))
theorem size_zero {s : ByteArray} (h : s = ⟨#[]⟩) : s.size = 0 := by rw [h]; rfl
theorem size_pos {s : ByteArray} (h : ¬ s = ⟨#[]⟩) : s.size ≠ 0 := fun e => h (by
 cases s with
 | mk d =>
   have : d = #[] := Array.eq_empty_of_size_eq_zero e
   rw [this])
set_option maxRecDepth 100000 in
theorem edit_spec (e : Ed) : ASpec Tryz.prog 84 [e.av] (.v (.int .i64 (editE e))) [] := by
 refine K1.E 0x212402101f Tryz.func84 ?_
 repeat' ((conv => whnf); first | refine K1.w ?_ | refine K1.u ?_ | refine K1.P1 (key_spec _) rfl ?_ | refine K1.P1 (label_spec _) rfl ?_ | refine K1.P1 (value_spec _) rfl ?_ | refine K1.z ?_ | refine K1.y (fun _ => ?_) (fun _ => ?_) | fail)
 all_goals (refine ARet.int rfl ?_; unfold editE; try have h0 := size_pos ‹_›)
 all_goals grind [size_zero]
theorem within_spec (n a b : Int) : ASpec Tryz.prog 139 [.v (.int .i64 n), .v (.int .i64 a), .v (.int .i64 b)] (.v (.bool (decide (a ≤ n ∧ n ≤ b)))) [] := by
 refine K1.E 0x47 Tryz.func139 ?_
 repeat' ((conv => whnf); first | refine K1.w ?_ | refine K1.u ?_ | refine K1.z ?_ | refine K1.y (fun _ => ?_) (fun _ => ?_) | fail)
 all_goals (refine ARet.bool rfl ?_; simp [*])
theorem isLong_spec (k : Int) : ASpec Tryz.prog 112 [.v (.int .i64 k)] (.v (.bool (isLong k))) [] := by
 refine K1.E 0x5 Tryz.func112 ?_
 repeat' ((conv => whnf); first | refine K1.w ?_ | refine K1.u ?_ | refine K1.z ?_ | refine K1.y (fun _ => ?_) (fun _ => ?_) | fail)
 all_goals (refine ARet.bool rfl ?_; simp [isLong, *])
set_option maxRecDepth 100000 in
theorem may_spec (e : Ev) : ASpec Tryz.prog 109 [e.av] (.v (.int .i64 (mayE e))) [] := by
 obtain ⟨r,n,⟨c0,c1,c2,c3,c4⟩,h,k,key,l,v⟩ := e
 dsimp only [Ev.av,Ev.cs]
 by_cases hr : 0 ≤ r ∧ r ≤ 4
 · rcases (show r = 0 ∨ r = 1 ∨ r = 2 ∨ r = 3 ∨ r = 4 by omega) with rfl | rfl | rfl | rfl | rfl
   all_goals
    refine K1.E 0x4011d00017 Tryz.func109 ?_
    repeat' ((conv => whnf); first | refine K1.w ?_ | refine K1.u ?_ | refine K1.P1 (within_spec _ _ _) rfl ?_ | refine K1.P1 (edit_spec ⟨k,key,l,v⟩) rfl ?_ | refine ALoop.rounds 6 ?_ | refine K1.z ?_ | refine K1.y (fun _ => ?_) (fun _ => ?_) | fail)
    all_goals refine ARet.int rfl ?_
    all_goals first | (simp [mayE,okN,withinB,Clk.get,Ev.ed, *]; done) | (simp [mayE,okN,withinB,Clk.get,Ev.ed, *]; omega)
 · refine K1.E 0x4011d00017 Tryz.func109 ?_
   repeat' ((conv => whnf); first | refine K1.w ?_ | refine K1.u ?_ | refine K1.P1 (within_spec _ _ _) rfl ?_ | refine K1.P1 (edit_spec ⟨k,key,l,v⟩) rfl ?_ | refine ALoop.rounds 6 ?_ | refine K1.z ?_ | refine K1.y (fun _ => ?_) (fun _ => ?_) | fail)
   all_goals refine ARet.int rfl ?_
   all_goals (simp [mayE,withinB]; omega)
end Go.Proofs.YtimhagicagdkfaaGreat

/-
 What varint.Put computes: the bytes of a number,in a new slice.
-/
namespace Go.Proofs.YtimhagicagdkfaaGreat
open Go.RowKit
end Go.Proofs.YtimhagicagdkfaaGreat

/-
 varint.Take: the number at the beginning of bytes,as a plain function (vtake).
-/
namespace Go.Proofs.YtimhagicagdkfaaGreat
open Go.RowKit
def vtakeF : List UInt8 → Nat → Nat → Nat × Nat × Int
  | [],i,_ => if i = 10 then (0,0,3) else (0,0,2)
  | c :: r,i,acc =>
    if 128 ≤ c.toNat then vtakeF r (i + 1) (acc + (c.toNat - 128) * 128 ^ i)
    else if (0 < i ∧ c.toNat = 0) ∨ (i = 9 ∧ 1 < c.toNat) then (0,0,3)
    else (acc + c.toNat * 128 ^ i,i + 1,0)
def vtake (bs : List UInt8) : Nat × Nat × Int := vtakeF (bs.take 10) 0 0
theorem pow_join (j : Nat) : 2 ^ (7 * j) = 128 ^ j := by rw [Nat.pow_mul]
theorem vjoin {acc v j : Nat} (ha : acc < 128 ^ j) (hv : v * 128 ^ j < 18446744073709551616) (hp : 128 ^ j ≤ 9223372036854775808) :
  bits .or .u64 (acc : Int) (IntKind.u64.wrap ((v : Int) * 2 ^ (7 * j))) = ((acc + v * 128 ^ j : Nat) : Int) := by
 have h1 : ((v : Int) * 2 ^ (7 * j)) = ((v * 128 ^ j : Nat) : Int) := by
  rw [← pow_join]; simp
 rw [h1,IntKind.wrap_u64]
 have h2 : ((v * 128 ^ j : Nat) : Int) % 18446744073709551616 = ((v * 128 ^ j : Nat) : Int) := by omega
 rw [h2,u64_or_nat _ _ (by omega) hv,Nat.or_comm]
 congr 1
 rw [nat_join (7 * j) (v * 128 ^ j) acc (by rw [pow_join]; exact Nat.mul_mod_left _ _) (by rw [pow_join]; exact ha),Nat.add_comm]
theorem pow_top {j : Nat} (h : j ≤ 9) : 128 ^ j ≤ 9223372036854775808 := by
 have := Nat.pow_le_pow_right (n := 128) (by omega) h
 have h2 : 128 ^ 9 = 9223372036854775808 := by decide
 omega
theorem vmid {acc q j : Nat} (hj : j ≤ 8) (ha : acc < 128 ^ j) (hq : q < 256) (h128 : 128 ≤ q) :
  bits .or .u64 (acc : Int) (IntKind.u64.wrap (((q : Int) - 128) * 2 ^ (7 * j))) = ((acc + (q - 128) * 128 ^ j : Nat) : Int) ∧ acc + (q - 128) * 128 ^ j < 128 ^ (j + 1) := by
 have hp := pow_top (show j + 1 ≤ 9 by omega)
 have hp' := pow_top (show j ≤ 9 by omega)
 rw [Nat.pow_succ] at hp ⊢
 have hm : (q - 128) * 128 ^ j ≤ 127 * 128 ^ j := Nat.mul_le_mul_right _ (by omega)
 have hc : (q : Int) - 128 = ((q - 128 : Nat) : Int) := by omega
 rw [hc]
 exact ⟨vjoin ha (by omega) hp',by omega⟩
theorem vend {acc q j : Nat} (hj : j ≤ 9) (ha : acc < 128 ^ j) (hq : q < 128) (h9 : ¬ (j = 9 ∧ 1 < q)) :
  bits .or .u64 (acc : Int) (IntKind.u64.wrap ((q : Int) * 2 ^ (7 * j))) = ((acc + q * 128 ^ j : Nat) : Int) := by
 have hp' := pow_top hj
 by_cases h : j = 9
 · have hm : q * 128 ^ j ≤ 1 * 128 ^ j := Nat.mul_le_mul_right _ (by omega)
   exact vjoin ha (by omega) hp'
 · have hp := pow_top (show j + 1 ≤ 9 by omega)
   rw [Nat.pow_succ] at hp
   have hm : q * 128 ^ j ≤ 127 * 128 ^ j := Nat.mul_le_mul_right _ (by omega)
   exact vjoin ha (by omega) hp'
set_option maxHeartbeats 1000000 in
set_option maxRecDepth 100000 in
theorem vtake_any (A : Option Addr) (n c : Nat) (bs : List UInt8) (w : World) (h : Rd w w.heap.size 1 A n (bs.map bV)) (hn : n = bs.length) (hc : n ≤ c) :
  Calls Tryz.prog 80 #[.slice A n c] w fun x w' => x = .returned (.tuple #[.int .u64 (vtake bs).1, .int .i64 (vtake bs).2.1, .int .i64 (vtake bs).2.2]) ∧ w = w' := by
 generalize hR : vtake bs = R
 unfold vtake at hR
 by_cases h10 : 10 < n
 · have hrd : Rd w w.heap.size 1 A 10 ((bs.take 10).map bV) := by
    have := h.first (k := 10) (by omega)
    rwa [Nat.mul_one,← List.map_take] at this
   have hll : (bs.take 10).length = 10 := by rw [List.length_take]; omega
   generalize bs.take 10 = L at hR hrd hll
   go_enter Tryz.func80,Tryz.ntmps80
   go_wp2_with fail
   have hlm : L.length ≤ 10 := by omega
   go_loop [2,14] (fun x i => ∃ (j acc : Nat) (z : Int),j ≤ 10 ∧ x = .int .u64 z ∧ i = .int .i64 j ∧ (j ≤ 9 → z = acc ∧ acc < 128 ^ j) ∧ vtakeF (L.drop j) j acc = R) (fun _ i => 10 - (intOf i).toNat)
   case atStart => exact ⟨0,0,0,by omega,rfl,rfl,fun _ => ⟨rfl,by decide⟩,hR⟩
   case round =>
    obtain ⟨j,acc,z,hj,rfl,rfl,hz,hr⟩ := hrel
    have HZ := Lib.hid hz
    have HRR := Lib.hid hr
    clear hz hr
    by_cases hjm : j < 10
    · obtain ⟨b,o,hl,hA,hb,hcell⟩ := hrd.at1 hjm
      subst hA
      rw [List.getElem_map] at hcell
      simp only [bV] at hcell
      simp only [List.length_map] at hl
      have hdrop : L.drop j = L[j] :: L.drop (j + 1) := List.drop_eq_getElem_cons hl
      have HD := Lib.hid hdrop
      clear hdrop
      generalize L[j] = q at hcell HD
      have hq := q.toNat_lt
      have e_mul : IntKind.i64.wrap (7 * (j : Int)) = 7 * j := IntWalk.i64_in _ (by omega)
      have e_0 : (0 : Int) ≤ 7 * (j : Int) := by omega
      have e_64 : 7 * (j : Int) ≤ 64 := by omega
      have hjm' : (j : Int) < 10 := by omega
      by_cases h128 : 128 ≤ q.toNat
      · have h128' : (128 : Int) ≤ (q.toNat : Int) := by omega
        have e_sub : IntKind.u8.wrap ((q.toNat : Int) - 128) = (q.toNat : Int) - 128 := by
         rw [IntKind.wrap_u8]; omega
        have e_con : IntKind.u64.wrap ((q.toNat : Int) - 128) = (q.toNat : Int) - 128 := by
         rw [IntKind.wrap_u64]; omega
        go_wp2_with fail
        go_round
        case rel =>
         have hr := HRR.out
         rw [HD.out] at hr
         unfold vtakeF at hr
         rw [if_pos h128] at hr
         refine ⟨j + 1,_,_,by omega,rfl,by go_num,fun h9 => ?_,hr⟩
         have h8 : j ≤ 8 := by omega
         obtain ⟨hz,ha⟩ := HZ.out (by omega)
         rw [hz]
         exact vmid h8 ha hq h128
        case measure => simp [intOf]; omega
      · have h128' : (q.toNat : Int) < 128 := by omega
        have e_con : IntKind.u64.wrap (q.toNat : Int) = (q.toNat : Int) := by
         rw [IntKind.wrap_u64]; omega
        have e_j1 : IntKind.i64.wrap ((j : Int) + 1) = j + 1 := IntWalk.i64_in _ (by omega)
        have hr := HRR.out
        rw [HD.out] at hr
        unfold vtakeF at hr
        rw [if_neg h128] at hr
        have H128 := Lib.hid h128
        clear h128
        by_cases h0 : j = 0
        · have hj0 : ¬ (0 : Int) < (j : Int) := by omega
          have h9' : ((j : Int) == 9) = false := by rw [beq_eq_false_iff_ne]; omega
          rw [if_neg (by omega)] at hr
          have H0 := Lib.hid h0
          clear h0
          go_wp2_with fail
          go_ret3
          have h0 := H0.out
          have hv := vend (acc := acc) (by omega) (HZ.out (by omega)).2 (by have := H128.out; omega : q.toNat < 128) (by omega)
          rw [← hr,(HZ.out (by omega)).1,hv]
          simp
        · have hj0 : (0 : Int) < (j : Int) := by omega
          by_cases hq0 : q.toNat = 0
          · rw [if_pos (Or.inl ⟨by omega,hq0⟩)] at hr
            have hq0' : (q.toNat : Int) = 0 := by omega
            rw [hq0'] at hcell
            go_wp2_with fail
            go_ret3
            rw [← hr]
            simp
          · have hq0' : ((q.toNat : Int) == 0) = false := by rw [beq_eq_false_iff_ne]; omega
            by_cases h9 : j = 9
            · have h9' : ((j : Int) == 9) = true := by rw [beq_iff_eq]; omega
              have H9 := Lib.hid h9
              by_cases hq1 : 1 < q.toNat
              · have hq1' : (1 : Int) < (q.toNat : Int) := by omega
                rw [if_pos (Or.inr ⟨h9,hq1⟩)] at hr
                clear h9
                go_wp2_with fail
                go_ret3
                rw [← hr]
                simp
              · have hq1' : ¬ (1 : Int) < (q.toNat : Int) := by omega
                rw [if_neg (by omega)] at hr
                clear h9
                go_wp2_with fail
                go_ret3
                have h9 := H9.out
                have hv := vend (acc := acc) (by omega) (HZ.out (by omega)).2 (by have := H128.out; omega : q.toNat < 128) (by omega)
                rw [← hr,(HZ.out (by omega)).1,hv]
                simp
            · have h9' : ((j : Int) == 9) = false := by rw [beq_eq_false_iff_ne]; omega
              rw [if_neg (by omega)] at hr
              go_wp2_with fail
              go_ret3
              have hv := vend (acc := acc) (by omega) (HZ.out (by omega)).2 (by have := H128.out; omega : q.toNat < 128) (by omega)
              rw [← hr,(HZ.out (by omega)).1,hv]
              simp
    · have hjn : j = 10 := by omega
      subst hjn
      have hr := HRR.out
      rw [List.drop_eq_nil_of_le (by omega)] at hr
      unfold vtakeF at hr
      rw [if_pos rfl] at hr
      go_wp2_with fail
      go_ret3
      rw [← hr]
      simp
 · have hrd : Rd w w.heap.size 1 A n ((bs.take 10).map bV) := by rwa [List.take_of_length_le (by omega)]
   have hll : (bs.take 10).length = n := by rw [List.length_take]; omega
   generalize bs.take 10 = L at hR hrd hll
   go_enter Tryz.func80,Tryz.ntmps80
   go_wp2_with fail
   have hlm : L.length ≤ 10 := by omega
   go_loop [2,14] (fun x i => ∃ (j acc : Nat) (z : Int),j ≤ n ∧ x = .int .u64 z ∧ i = .int .i64 j ∧ (j ≤ 9 → z = acc ∧ acc < 128 ^ j) ∧ vtakeF (L.drop j) j acc = R) (fun _ i => n - (intOf i).toNat)
   case atStart => exact ⟨0,0,0,by omega,rfl,rfl,fun _ => ⟨rfl,by decide⟩,hR⟩
   case round =>
    obtain ⟨j,acc,z,hj,rfl,rfl,hz,hr⟩ := hrel
    have HZ := Lib.hid hz
    have HRR := Lib.hid hr
    clear hz hr
    by_cases hjm : j < n
    · obtain ⟨b,o,hl,hA,hb,hcell⟩ := hrd.at1 hjm
      subst hA
      rw [List.getElem_map] at hcell
      simp only [bV] at hcell
      simp only [List.length_map] at hl
      have hdrop : L.drop j = L[j] :: L.drop (j + 1) := List.drop_eq_getElem_cons hl
      have HD := Lib.hid hdrop
      clear hdrop
      generalize L[j] = q at hcell HD
      have hq := q.toNat_lt
      have e_mul : IntKind.i64.wrap (7 * (j : Int)) = 7 * j := IntWalk.i64_in _ (by omega)
      have e_0 : (0 : Int) ≤ 7 * (j : Int) := by omega
      have e_64 : 7 * (j : Int) ≤ 64 := by omega
      have hjm' : (j : Int) < (n : Int) := by omega
      by_cases h128 : 128 ≤ q.toNat
      · have h128' : (128 : Int) ≤ (q.toNat : Int) := by omega
        have e_sub : IntKind.u8.wrap ((q.toNat : Int) - 128) = (q.toNat : Int) - 128 := by
         rw [IntKind.wrap_u8]; omega
        have e_con : IntKind.u64.wrap ((q.toNat : Int) - 128) = (q.toNat : Int) - 128 := by
         rw [IntKind.wrap_u64]; omega
        go_wp2_with fail
        go_round
        case rel =>
         have hr := HRR.out
         rw [HD.out] at hr
         unfold vtakeF at hr
         rw [if_pos h128] at hr
         refine ⟨j + 1,_,_,by omega,rfl,by go_num,fun h9 => ?_,hr⟩
         have h8 : j ≤ 8 := by omega
         obtain ⟨hz,ha⟩ := HZ.out (by omega)
         rw [hz]
         exact vmid h8 ha hq h128
        case measure => simp [intOf]; omega
      · have h128' : (q.toNat : Int) < 128 := by omega
        have e_con : IntKind.u64.wrap (q.toNat : Int) = (q.toNat : Int) := by
         rw [IntKind.wrap_u64]; omega
        have e_j1 : IntKind.i64.wrap ((j : Int) + 1) = j + 1 := IntWalk.i64_in _ (by omega)
        have hr := HRR.out
        rw [HD.out] at hr
        unfold vtakeF at hr
        rw [if_neg h128] at hr
        have H128 := Lib.hid h128
        clear h128
        by_cases h0 : j = 0
        · have hj0 : ¬ (0 : Int) < (j : Int) := by omega
          have h9' : ((j : Int) == 9) = false := by rw [beq_eq_false_iff_ne]; omega
          rw [if_neg (by omega)] at hr
          have H0 := Lib.hid h0
          clear h0
          go_wp2_with fail
          go_ret3
          have h0 := H0.out
          have hv := vend (acc := acc) (by omega) (HZ.out (by omega)).2 (by have := H128.out; omega : q.toNat < 128) (by omega)
          rw [← hr,(HZ.out (by omega)).1,hv]
          simp
        · have hj0 : (0 : Int) < (j : Int) := by omega
          by_cases hq0 : q.toNat = 0
          · rw [if_pos (Or.inl ⟨by omega,hq0⟩)] at hr
            have hq0' : (q.toNat : Int) = 0 := by omega
            rw [hq0'] at hcell
            go_wp2_with fail
            go_ret3
            rw [← hr]
            simp
          · have hq0' : ((q.toNat : Int) == 0) = false := by rw [beq_eq_false_iff_ne]; omega
            by_cases h9 : j = 9
            · have h9' : ((j : Int) == 9) = true := by rw [beq_iff_eq]; omega
              have H9 := Lib.hid h9
              by_cases hq1 : 1 < q.toNat
              · have hq1' : (1 : Int) < (q.toNat : Int) := by omega
                rw [if_pos (Or.inr ⟨h9,hq1⟩)] at hr
                clear h9
                go_wp2_with fail
                go_ret3
                rw [← hr]
                simp
              · have hq1' : ¬ (1 : Int) < (q.toNat : Int) := by omega
                rw [if_neg (by omega)] at hr
                clear h9
                go_wp2_with fail
                go_ret3
                have h9 := H9.out
                have hv := vend (acc := acc) (by omega) (HZ.out (by omega)).2 (by have := H128.out; omega : q.toNat < 128) (by omega)
                rw [← hr,(HZ.out (by omega)).1,hv]
                simp
            · have h9' : ((j : Int) == 9) = false := by rw [beq_eq_false_iff_ne]; omega
              rw [if_neg (by omega)] at hr
              go_wp2_with fail
              go_ret3
              have hv := vend (acc := acc) (by omega) (HZ.out (by omega)).2 (by have := H128.out; omega : q.toNat < 128) (by omega)
              rw [← hr,(HZ.out (by omega)).1,hv]
              simp
    · have hjn : j = n := by omega
      subst hjn
      have hr := HRR.out
      rw [List.drop_eq_nil_of_le (by omega)] at hr
      unfold vtakeF at hr
      by_cases h9 : j = 10
      · have h9' : ((j : Int) == 10) = true := by rw [beq_iff_eq]; omega
        rw [if_pos h9] at hr
        go_wp2_with fail
        go_ret3
        rw [← hr]
        simp
      · have h9' : ((j : Int) == 10) = false := by rw [beq_eq_false_iff_ne]; omega
        rw [if_neg h9] at hr
        go_wp2_with fail
        go_ret3
        rw [← hr]
        simp
theorem vtakeF_le : ∀ (l : List UInt8) (i acc : Nat),(vtakeF l i acc).2.1 ≤ i + l.length
  | [],i,acc => by unfold vtakeF; split <;> simp
  | c :: r,i,acc => by
    unfold vtakeF
    split
    · have := vtakeF_le r (i + 1) (acc + (c.toNat - 128) * 128 ^ i)
      simp only [List.length_cons]
      omega
    · split <;> simp
theorem vtake_le (l : List UInt8) : (vtake l).2.1 ≤ l.length := by
 have := vtakeF_le (l.take 10) 0 0
 rw [List.length_take] at this
 unfold vtake
 omega
end Go.Proofs.YtimhagicagdkfaaGreat

/-
 Plain Lean: how an event is read from bytes,field by field; behind a field that is wrong none is read any more.
-/
namespace Go.Proofs.YtimhagicagdkfaaGreat
abbrev Sq := Nat × Int
def octS (bs : List UInt8) (lo hi : Int) (s : Sq) : Int × Sq :=
 if s.2 ≠ 0 then (0,s)
 else if bs.length ≤ s.1 then (0,(s.1,2))
 else if lo ≤ ((bs.getD s.1 0).toNat : Int) ∧ ((bs.getD s.1 0).toNat : Int) ≤ hi then (((bs.getD s.1 0).toNat : Int),(s.1 + 1,0))
 else (0,(s.1 + 1,3))
def numS (bs : List UInt8) (lo hi : Int) (s : Sq) : Int × Sq :=
 if s.2 ≠ 0 then (0,s)
 else if (vtake (bs.drop s.1)).2.2 ≠ 0 then (0,(s.1,(vtake (bs.drop s.1)).2.2))
 else if lo ≤ ((vtake (bs.drop s.1)).1 : Int) ∧ ((vtake (bs.drop s.1)).1 : Int) ≤ hi then (((vtake (bs.drop s.1)).1 : Int),(s.1 + (vtake (bs.drop s.1)).2.1,0))
 else (0,(s.1,3))
def cutB (bs : List UInt8) (u n : Nat) : ByteArray := ⟨((bs.drop u).take n).toArray⟩
def wordS (bs : List UInt8) (size : Int) (may : ByteArray → Int) (s : Sq) : ByteArray × Sq :=
 if s.2 ≠ 0 then (⟨#[]⟩,s)
 else if ((bs.length : Int) - s.1 < size) then (⟨#[]⟩,(s.1,2))
 else (cutB bs s.1 size.toNat,(s.1 + size.toNat,if may (cutB bs s.1 size.toNat) = 0 then 0 else 3))
def skipS (bs : List UInt8) (r : Int) (j : Nat) (s : Sq) : Int × Sq := if (j : Int) = r then (0,s) else numS bs 0 1048576 s
def Clk.put (c : Clk) (r v : Int) : Clk :=
 if r = 0 then { c with c0 := v } else if r = 1 then { c with c1 := v } else if r = 2 then { c with c2 := v } else if r = 3 then { c with c3 := v } else { c with c4 := v }
def Clk.setN (c : Clk) : Nat → Int → Clk
  | 0,v => { c with c0 := v }
  | 1,v => { c with c1 := v }
  | 2,v => { c with c2 := v }
  | 3,v => { c with c3 := v }
  | _,v => { c with c4 := v }
def clkAt (bs : List UInt8) (r : Int) (s : Sq) : Nat → Clk × Sq
  | 0 => (⟨0,0,0,0,0⟩,s)
  | j + 1 => ((clkAt bs r s j).1.setN j (skipS bs r j (clkAt bs r s j).2).1,(skipS bs r j (clkAt bs r s j).2).2)
def clockS (bs : List UInt8) (r : Int) (s : Sq) : Clk × Sq := clkAt bs r s 5
def fieldS (bs : List UInt8) (s : Sq) : Ev × Sq :=
 let k := octS bs 1 5 s
 let r := octS bs 0 4 k.2
 let n := numS bs 1 1048576 r.2
 let c := clockS bs r.1 n.2
 let h := numS bs 1 16777216 c.2
 let ks := octS bs 1 8 h.2
 let key := wordS bs ks.1 keyE ks.2
 if isLong k.1 then
  let l := octS bs 0 1 key.2
  let vs := octS bs 1 12 l.2
  let v := wordS bs vs.1 valueE vs.2
  (⟨r.1,n.1,c.1.put r.1 (n.1 - 1),h.1,k.1,key.1,l.1,v.1⟩,v.2)
 else (⟨r.1,n.1,c.1.put r.1 (n.1 - 1),h.1,k.1,key.1,0,⟨#[]⟩⟩,key.2)
theorem octS_le {bs : List UInt8} {lo hi : Int} {s : Sq} (h : s.1 ≤ bs.length) : (octS bs lo hi s).2.1 ≤ bs.length := by
 unfold octS; split; exact h; split; exact h; split <;> dsimp only <;> omega
theorem octS_range {bs : List UInt8} {lo hi : Int} {s : Sq} : (octS bs lo hi s).1 = 0 ∨ (lo ≤ (octS bs lo hi s).1 ∧ (octS bs lo hi s).1 ≤ hi) := by
 unfold octS
 split
 · exact Or.inl rfl
 · split
   · exact Or.inl rfl
   · split
     · rename_i h
       exact Or.inr h
     · exact Or.inl rfl
end Go.Proofs.YtimhagicagdkfaaGreat

/-
 What the makers of edits and events that may be compute (kithref05.Fit,kithref06.Fit).
-/
namespace Go.Proofs.YtimhagicagdkfaaGreat
open Go.RowKit
def sumB (l : List UInt8) : Nat := (l.map fun b => b.toNat).sum
def ks3 (n : Nat) : ByteArray := if (n : Int) % 3 = 0 then ⟨#[97,110,110]⟩ else if (n : Int) % 3 = 1 then ⟨#[98,111,98]⟩ else ⟨#[99,121]⟩
def vs4 (n : Nat) : ByteArray := if (n : Int) % 4 = 0 then ⟨#[49]⟩ else if (n : Int) % 4 = 1 then ⟨#[116,119,111]⟩ else if (n : Int) % 4 = 2 then ⟨#[0,255]⟩ else ⟨#[116,119,101,108,118,101,32,98,121,116,101,115]⟩
def andI (x m : Int) : Int := IntKind.i64.wrap ((BitVec.ofInt IntKind.i64.bits x &&& BitVec.ofInt IntKind.i64.bits m).toNat : Int)
def m5 (x : Int) : Int := (x.tmod 5 + 5) % 5
def fitEd (e : Ed) : Ed :=
 if 2 < 1 + m5 e.k then ⟨1 + m5 e.k,ks3 (sumB e.key.data.toList),andI e.l 1,vs4 (sumB e.v.data.toList)⟩ else ⟨1 + m5 e.k,ks3 (sumB e.key.data.toList),0,⟨#[]⟩⟩
theorem tmod5 (k : Int) : -5 < k.tmod 5 ∧ k.tmod 5 < 5 := by
 have h1 := Int.tmod_lt_of_pos k (show (0 : Int) < 5 by decide)
 have h2 := Int.lt_tmod_of_pos k (show (0 : Int) < 5 by decide)
 omega
theorem andI_low (x : Int) (m : Nat) (hm : m ≤ 4294967296) : 0 ≤ andI x (m : Int) ∧ andI x (m : Int) ≤ m := by
 have h : (BitVec.ofInt 64 x &&& BitVec.ofInt 64 (m : Int)).toNat ≤ m := by
  rw [BitVec.toNat_and,BitVec.ofInt_natCast,BitVec.toNat_ofNat]
  exact Nat.le_trans Nat.and_le_right (Nat.mod_le _ _)
 show 0 ≤ IntKind.i64.wrap ((BitVec.ofInt 64 x &&& BitVec.ofInt 64 (m : Int)).toNat : Int) ∧ IntKind.i64.wrap ((BitVec.ofInt 64 x &&& BitVec.ofInt 64 (m : Int)).toNat : Int) ≤ m
 rw [IntKind.wrap_i64]
 omega
theorem andI_24 (x : Int) : 0 ≤ andI x 16777215 ∧ andI x 16777215 ≤ 16777215 := andI_low x 16777215 (by omega)
theorem andI_1 (x : Int) : 0 ≤ andI x 1 ∧ andI x 1 ≤ 1 := andI_low x 1 (by omega)
theorem Rm.m3 {a : Int} {K : Int → Prop} (h : 0 ≤ a) (h0 : a % 3 = 0 → K 0) (h1 : a % 3 = 1 → K 1) (h2 : a % 3 = 2 → K 2) : Rm a 3 K := by
 refine .pos h (by omega) ?_
 rcases (show a % 3 = 0 ∨ a % 3 = 1 ∨ a % 3 = 2 by omega) with e | e | e
 · rw [e]; exact h0 e
 · rw [e]; exact h1 e
 · rw [e]; exact h2 e
theorem Rm.m4 {a : Int} {K : Int → Prop} (h : 0 ≤ a) (h0 : a % 4 = 0 → K 0) (h1 : a % 4 = 1 → K 1) (h2 : a % 4 = 2 → K 2) (h3 : a % 4 = 3 → K 3) : Rm a 4 K := by
 refine .pos h (by omega) ?_
 rcases (show a % 4 = 0 ∨ a % 4 = 1 ∨ a % 4 = 2 ∨ a % 4 = 3 by omega) with e | e | e | e
 · rw [e]; exact h0 e
 · rw [e]; exact h1 e
 · rw [e]; exact h2 e
 · rw [e]; exact h3 e
theorem Wr.a24 {x : Int} {K : Int → Prop} (h : K (1 + andI x 16777215)) : Wr (1 + IntKind.i64.wrap ((BitVec.ofInt IntKind.i64.bits x &&& BitVec.ofInt IntKind.i64.bits 16777215).toNat : Int)) K .i64 := by
 have := andI_24 x
 exact .i64 (show -9223372036854775808 ≤ 1 + andI x 16777215 by omega) (show 1 + andI x 16777215 ≤ 9223372036854775807 by omega) h
theorem Rm.m5 {a : Int} {K : Int → Prop} (h : 0 ≤ a) (h0 : a % 5 = 0 → K 0) (h1 : a % 5 = 1 → K 1) (h2 : a % 5 = 2 → K 2) (h3 : a % 5 = 3 → K 3) (h4 : a % 5 = 4 → K 4) : Rm a 5 K := by
 refine .pos h (by omega) ?_
 rcases (show a % 5 = 0 ∨ a % 5 = 1 ∨ a % 5 = 2 ∨ a % 5 = 3 ∨ a % 5 = 4 by omega) with e | e | e | e | e
 · rw [e]; exact h0 e
 · rw [e]; exact h1 e
 · rw [e]; exact h2 e
 · rw [e]; exact h3 e
 · rw [e]; exact h4 e
end Go.Proofs.YtimhagicagdkfaaGreat

/-
 Plain Lean: rows of strings sorted,each once.
-/
namespace Go.Proofs.YtimhagicagdkfaaGreat
open Go.Lib
abbrev Str := List UInt8
theorem str_le_of_lt {a b : Str} (h : a < b) : a ≤ b := List.le_of_lt h
theorem str_lt_irrefl (a : Str) : ¬ a < a := List.lt_irrefl a
theorem str_lt_of_le {a b : Str} (h : a ≤ b) (hn : a ≠ b) : a < b := by
 rcases List.le_iff_lt_or_eq.1 h with h | h
 · exact h
 · exact absurd h hn
theorem str_lt_of_le_lt {a b c : Str} (h : a ≤ b) (k : b < c) : a < c := List.lt_of_le_of_lt h k
theorem str_lt_trans {a b c : Str} (h : a < b) (k : b < c) : a < c := List.lt_of_le_of_lt (str_le_of_lt h) k
def uniq (l : List Str) : List Str := Lib.compact (l.mergeSort fun x y => decide (x ≤ y))
theorem compactUpTo_props (d : Array Str) (hs : ∀ i j,i ≤ j → j < d.size → d[i]! ≤ d[j]!) : ∀ m,m ≤ d.size → (compactUpTo d m).Pairwise (· < ·) ∧ (∀ x ∈ compactUpTo d m,∃ j,j < m ∧ x = d[j]!) ∧ ∀ j,j < m → d[j]! ∈ compactUpTo d m
  | 0,_ => by
    refine ⟨?_,fun x hx => ?_,fun j hj => absurd hj (Nat.not_lt_zero j)⟩
    · show (compactUpTo d 0).Pairwise _
      exact List.Pairwise.nil
    · exact absurd hx (by show x ∉ ([] : List Str); simp)
  | m + 1,hm => by
    obtain ⟨h1,h2,h3⟩ := compactUpTo_props d hs m (by omega)
    rw [compactUpTo_succ]
    by_cases hk : keeps d m = true
    · rw [if_pos hk]
      refine ⟨?_,fun x hx => ?_,fun j hj => ?_⟩
      · refine List.pairwise_append.2 ⟨h1,List.pairwise_singleton _ _,fun x hx y hy => ?_⟩
        rw [List.mem_singleton.1 hy]
        obtain ⟨j,hj,rfl⟩ := h2 x hx
        have hne : m = 0 ∨ d[m]! ≠ d[m - 1]! := of_decide_eq_true hk
        have hne : d[m]! ≠ d[m - 1]! := by
         rcases hne with h | h
         · omega
         · exact h
        exact str_lt_of_le_lt (hs j (m - 1) (by omega) (by omega)) (str_lt_of_le (hs (m - 1) m (by omega) (by omega)) fun e => hne e.symm)
      · rcases List.mem_append.1 hx with hx | hx
        · obtain ⟨j,hj,e⟩ := h2 x hx
          exact ⟨j,by omega,e⟩
        · exact ⟨m,by omega,List.mem_singleton.1 hx⟩
      · rcases Nat.lt_or_ge j m with h | h
        · exact List.mem_append.2 (.inl (h3 j h))
        · obtain rfl : j = m := by omega
          exact List.mem_append.2 (.inr (List.mem_singleton.2 rfl))
    · rw [if_neg hk,List.append_nil]
      refine ⟨h1,fun x hx => ?_,fun j hj => ?_⟩
      · obtain ⟨j,hj,e⟩ := h2 x hx
        exact ⟨j,by omega,e⟩
      · rcases Nat.lt_or_ge j m with h | h
        · exact h3 j h
        · obtain rfl : j = m := by omega
          have hk : ¬ (j = 0 ∨ d[j]! ≠ d[j - 1]!) := fun h => hk (decide_eq_true h)
          have e : d[j]! = d[j - 1]! := Classical.byContradiction fun h => hk (.inr h)
          rw [e]
          exact h3 (j - 1) (by have : j ≠ 0 := fun h => hk (.inl h); omega)
theorem sort_pairwise (l : List Str) : (l.mergeSort fun x y => decide (x ≤ y)).Pairwise (· ≤ ·) := by
 have tr : ∀ a b c : Str,decide (a ≤ b) = true → decide (b ≤ c) = true → decide (a ≤ c) = true := fun a b c h1 h2 => by simp only [decide_eq_true_eq] at *; exact List.le_trans h1 h2
 have to : ∀ a b : Str,(decide (a ≤ b) || decide (b ≤ a)) = true := fun a b => by simp only [Bool.or_eq_true,decide_eq_true_eq]; exact List.le_total a b
 exact (List.pairwise_mergeSort tr to l).imp fun h => of_decide_eq_true h
theorem str_le_refl (a : Str) : a ≤ a := List.le_refl a
theorem uniq_props (l : List Str) : (uniq l).Pairwise (· < ·) ∧ ∀ x,x ∈ uniq l ↔ x ∈ l := by
 have hp := sort_pairwise l
 have hm : ∀ x,x ∈ (l.mergeSort fun x y => decide (x ≤ y)) ↔ x ∈ l := fun x => List.mem_mergeSort
 unfold uniq
 generalize (l.mergeSort fun x y => decide (x ≤ y)) = s at hp hm
 have hg : ∀ i (h : i < s.length),s.toArray[i]! = s[i] := fun i h => by simp [h]
 obtain ⟨h1,h2,h3⟩ := compactUpTo_props s.toArray (fun i j hij hj => by
  have hj : j < s.length := hj
  rw [hg j hj,hg i (by omega)]
  rcases Nat.lt_or_ge i j with h | h
  · exact List.pairwise_iff_getElem.1 hp i j (by omega) hj h
  · obtain rfl : i = j := by omega
    exact str_le_refl _) s.length (Nat.le_refl _)
 refine ⟨h1,fun x => ?_⟩
 rw [← hm]
 constructor
 · intro hx
   obtain ⟨j,hj,rfl⟩ := h2 x hx
   rw [hg j hj]
   exact List.getElem_mem _
 · intro hx
   obtain ⟨j,hj,rfl⟩ := List.getElem_of_mem hx
   have := h3 j hj
   rw [hg j hj] at this
   exact this
theorem rising_eq : ∀ {a b : List Str},a.Pairwise (· < ·) → b.Pairwise (· < ·) → (∀ x,x ∈ a ↔ x ∈ b) → a = b
  | [],[],_,_,_ => rfl
  | [],y :: _,_,_,h => absurd ((h y).2 List.mem_cons_self) (by simp)
  | x :: _,[],_,_,h => absurd ((h x).1 List.mem_cons_self) (by simp)
  | x :: a,y :: b,ha,hb,h => by
    obtain ⟨ha1,ha2⟩ := List.pairwise_cons.1 ha
    obtain ⟨hb1,hb2⟩ := List.pairwise_cons.1 hb
    have e : x = y := by
     rcases List.mem_cons.1 ((h x).1 List.mem_cons_self) with e | hx
     · exact e
     · rcases List.mem_cons.1 ((h y).2 List.mem_cons_self) with e | hy
       · exact e.symm
       · exact absurd (str_lt_trans (hb1 x hx) (ha1 y hy)) (str_lt_irrefl _)
    subst e
    rw [rising_eq ha2 hb2 fun z => ⟨fun hz => ?_,fun hz => ?_⟩]
    · rcases List.mem_cons.1 ((h z).1 (List.mem_cons_of_mem _ hz)) with e | h'
      · exact absurd (e ▸ ha1 z hz) (str_lt_irrefl _)
      · exact h'
    · rcases List.mem_cons.1 ((h z).2 (List.mem_cons_of_mem _ hz)) with e | h'
      · exact absurd (e ▸ hb1 z hz) (str_lt_irrefl _)
      · exact h'
theorem uniq_of_mem {a b : List Str} (h : ∀ x,x ∈ a ↔ x ∈ b) : uniq a = uniq b :=
 rising_eq (uniq_props a).1 (uniq_props b).1 fun x => by rw [(uniq_props a).2,(uniq_props b).2,h]
theorem any_congr {α : Type} {p q : α → Bool} : ∀ {l : List α},(∀ x ∈ l,p x = q x) → l.any p = l.any q
  | [],_ => rfl
  | x :: l,h => by rw [List.any_cons,List.any_cons,h x List.mem_cons_self,any_congr fun y hy => h y (List.mem_cons_of_mem _ hy)]
end Go.Proofs.YtimhagicagdkfaaGreat

/-
 The reference's clocks: kithref03.Has.
-/
namespace Go.Proofs.YtimhagicagdkfaaGreat
open Go.RowKit
end Go.Proofs.YtimhagicagdkfaaGreat

/-
 The frame of every law's proof: if the call returns true and leaves all that was there as it was,the given statement holds; how the arguments of a law are opened,for the abstract machine.
-/
namespace Go.Proofs.YtimhagicagdkfaaGreat
open Go.ChangeShapes Go.WideShapes Go.ChangeAt Go.RowKit
theorem own : ownKnob Tryz.prog.godebug = none := by kernel_rfl
theorem laidOut : laidOutB Tryz.prog = true := by kernel_rfl
section
variable {H : Type} {enc : TypeId × Value → H}
theorem trodAll_below {W W' : World} (hb : Below W.heap.size W W') : ∀ (ts : List TypeId) (vs : List Value) (ds : List (DataW H)) (ps : List MemPlace),
  (∀ t ∈ ts,Tryz.prog.readableRec t = true ∧ t < Tryz.prog.types.size) → DataW.TrodAll enc Tryz.prog W 0 (fun _ => true) true ts vs ds ps → (∀ x ∈ ps,x.block < W.heap.size) →
  DataW.TrodAll enc Tryz.prog W' 0 (fun b => decide (b < W.heap.size)) true ts vs ds ps
  | [],vs,ds,ps,_,h,_ => by
    obtain ⟨rfl,rfl,rfl⟩ := trodAll_nil h
    exact trodAll_mk0
  | t :: ts,vs,ds,ps,ht,h,hlt => by
    obtain ⟨v,vs',d,ds',p,q,rfl,rfl,rfl,h0,h1⟩ := trodAll_cons h
    have hp := ht t (by simp)
    exact trodAll_cons_mk (Below.trod laidOut hp.1 hp.2 h0 hb (fun x hx => hlt x (by simp [hx]))) (trodAll_below hb ts vs' ds' q (fun u hu => ht u (by simp [hu])) h1 (fun x hx => hlt x (by simp [hx])))
set_option maxRecDepth 100000 in
theorem law_lifted (os : Os) (started : os.Started) (f : FuncId) (fn : Func) (s : ChangeSpec) (hvars : s.vars = []) (noInit : Tryz.prog.inits.idxOf? f = none) (hfn : Tryz.prog.funcs[f]? = some fn)
  (hres : fn.resultTypes = #[4]) (hparams : ∀ t ∈ fn.params.toList,Tryz.prog.readableRec t = true ∧ t < Tryz.prog.types.size)
  (hspec : ∀ ds : List (DataW H),ds.length = fn.params.toList.length → s.fn H ds = { results := [.lit (.bool true)],args := ds })
  (witness : ∃ (w : World) (tape : Tape) (i : Input),w.os = os ∧ (w.forCall tape i).Shaped Tryz.checked.prog ∧ i.vars = [] ∧ Input.okWide Tryz.checked.prog (w.forCall tape i) .any w.heap.size f i ∧
   s.pre6 enc Tryz.checked.prog fn [] false (w.forCall tape i).memory i.args ∧ ({} : Assume).holds Tryz.checked.prog (lone (Frame.enter Tryz.checked.prog f i.args .normal) [] (w.forCall tape i)))
  (walk : ∀ (W : World) (base : Nat) (args : Array Value) (ds : List (DataW H)) (p : List MemPlace),
   (∀ (j : Nat) t v,fn.params[j]? = some t → args[j]? = some v → Value.okWide Tryz.prog W .any base t v) →
   DataW.TrodAll enc Tryz.prog W 0 (fun _ => true) true fn.params.toList args.toList ds p →
   (DataW.weightsEach Tryz.prog fn.params.toList ds).all (· ≤ reachBytes) = true →
   Calls Tryz.prog f args W fun e W' => e = .returned (.bool true) ∧ Below W.heap.size W W') :
  ReturnsInHanded {} Tryz.checked os f .any (s.pre6 enc Tryz.prog fn [] false) (s.post enc Tryz.prog fn false true false false) := by
 refine returnsInHanded_of_change_sized (C := Tryz.checked) own started noInit hfn witness ?_
 intro W base args ds gs before hval0 hW _ hsz0 _
 have hval : ∀ (j : Nat) t v,fn.params[j]? = some t → args[j]? = some v → Value.okWide Tryz.prog W .any base t v := hval0
 have hW' := hW
 have hlt : ∀ x ∈ before,x.block < W.heap.size := fun x hx => by simpa using hW'.lt x hx
 obtain ⟨p,q,hA0,hV,rfl,hfz,hnd⟩ := hW
 have hA : DataW.TrodAll enc Tryz.prog W 0 (fun _ => true) true fn.params.toList args.toList ds p := hA0
 rw [hvars] at hV
 obtain ⟨rfl,rfl⟩ := trodVars_none hV
 simp only [List.append_nil] at hW' hlt
 have hsz : (DataW.weightsEach Tryz.prog fn.params.toList ds).all (· ≤ reachBytes) = true := by
  have h : (DataW.weightsEach Tryz.prog (fn.params.toList ++ s.plain.varTypes Tryz.prog) (ds ++ [])).all (· ≤ reachBytes) = true := hsz0
  have hv : s.plain.varTypes Tryz.prog = [] := by
   show s.vars.filterMap _ = []
   rw [hvars]; rfl
  simpa [hv] using h
 refine (walk W base args ds p hval hA hsz).mono fun e W' ⟨he,bel⟩ => ?_
 subst he
 have hlen : ds.length = fn.params.toList.length := trodAll_len fn.params.toList args.toList ds p hA
 have hsp := hspec ds hlen
 refine ⟨_,rfl,ds,[],p,[],p,[],hW',?_,?_,?_,bel.frame _,fun h => by cases h⟩
 · rw [List.append_nil,hsp,hres]
   exact trodAll_mk1 (shut_bool Tryz.underlying4 _)
 · rw [List.append_nil,hsp]
   exact trodAll_below bel _ _ _ _ hparams hA hlt
 · rw [hvars]
   rw [List.append_nil,hsp]
   rfl
where
 trodAll_len {W : World} : ∀ (ts : List TypeId) (vs : List Value) (ds : List (DataW H)) (ps : List MemPlace),DataW.TrodAll enc Tryz.prog W 0 (fun _ => true) true ts vs ds ps → ds.length = ts.length
   | [],vs,ds,ps,h => by
     obtain ⟨rfl,rfl,rfl⟩ := trodAll_nil h
     rfl
   | t :: ts,vs,ds,ps,h => by
     obtain ⟨v,vs',d,ds',p,q,rfl,rfl,rfl,h0,h1⟩ := trodAll_cons h
     simp [trodAll_len ts vs' ds' q h1]
end
abbrev allOf (w : World) : Nat → Prop := fun b => b < w.heap.size
structure Sh (t : TypeId) (S : List AV → Prop) : Prop where
 mk ::
 h : ∀ (H : Type) (enc : TypeId × Value → H) (w : World) (spare : Nat → Bool) (held : Bool) (fuel : Nat) (cs : List Value) (x : DataW H × List MemPlace),
  DataW.trod enc Tryz.prog w 0 spare held fuel t cs = some x → (∀ n ∈ x.1.weights Tryz.prog t,n ≤ reachBytes) → ∃ avs,All2 (PC w (allOf w)) avs cs ∧ S avs
theorem Sh.imp {t : TypeId} {S T : List AV → Prop} (h : Sh t S) (hi : ∀ avs,S avs → T avs) : Sh t T := ⟨fun _ _ _ _ _ _ _ _ h1 h2 => by
 obtain ⟨avs,h3,h4⟩ := h.h _ _ _ _ _ _ _ _ h1 h2
 exact ⟨avs,h3,hi avs h4⟩⟩
theorem sh_int {t : TypeId} {k : IntKind} (ht : Tryz.prog.underlying t = some (.int k)) : Sh t (fun avs => ∃ n : Int,avs = [.v (.int k n)] ∧ (Lit.int k n).wf = true) := ⟨fun _ _ _ _ _ _ _ _ h _ => by
 obtain ⟨n,rfl,rfl,hw⟩ := DataW.trod_int ht h
 exact ⟨_,All2.cons (PC.v _ rfl) All2.nil,n,rfl,hw⟩⟩
def Cat : List (List AV → Prop) → List AV → Prop
  | [],avs => avs = []
  | S :: Ss,avs => ∃ a b,avs = a ++ b ∧ S a ∧ Cat Ss b
def Contig : Nat → List Field → Nat → Prop
  | o,[],m => o = m
  | o,f :: fs,m => f.offset = o ∧ Contig (o + Tryz.prog.cellsOf f.type) fs m
def contigB (c : TypeId → Nat) : Nat → List Field → Nat → Bool
  | o,[],m => Nat.beq o m
  | o,f :: fs,m => Nat.beq f.offset o && contigB c (o + c f.type) fs m
theorem contig_of : ∀ {o : Nat} {fs : List Field} {m : Nat},contigB Tryz.prog.cellsOf o fs m = true → Contig o fs m
  | _,[],_,h => Nat.eq_of_beq_eq_true h
  | _,_ :: _,_,h => by
    simp only [contigB,Bool.and_eq_true] at h
    exact ⟨Nat.eq_of_beq_eq_true h.1,contig_of h.2⟩
inductive ShL : List TypeId → List (List AV → Prop) → Prop where
  | nil : ShL [] []
  | cons {t : TypeId} {S : List AV → Prop} {ts : List TypeId} {Ss : List (List AV → Prop)} (h : Sh t S) (hs : ShL ts Ss) : ShL (t :: ts) (S :: Ss)
theorem sh_fields {H : Type} {enc : TypeId × Value → H} {w : World} {spare : Nat → Bool} {held : Bool} {fuel : Nat} {cs : List Value} : ∀ (fs : List Field) (xs : List (DataW H × List MemPlace)) (Ss : List (List AV → Prop)) (o : Nat),Contig o fs cs.length → xs.length = fs.length →
  (∀ (i : Nat) (f : Field),fs[i]? = some f → DataW.trod enc Tryz.prog w 0 spare held fuel f.type ((cs.drop f.offset).take (Tryz.prog.cellsOf f.type)) = xs[i]?) → ShL (fs.map (·.type)) Ss → (∀ n ∈ DataW.weightsEach Tryz.prog (fs.map (·.type)) (xs.map (·.1)),n ≤ reachBytes) →
  ∃ avs,All2 (PC w (allOf w)) avs (cs.drop o) ∧ Cat Ss avs
  | [],xs,Ss,o,hc,hl,_,hs,_ => by
    cases hs
    refine ⟨[],?_,rfl⟩
    rw [List.drop_eq_nil_of_le (by simp only [Contig] at hc; omega)]
    exact All2.nil
  | f :: fs,xs,_,o,hc,hl,hg,hs,hw => by
    cases hs with
    | cons hS hs' =>
      cases xs with
      | nil => simp at hl
      | cons x xs =>
        obtain ⟨ho,hc'⟩ := hc
        have g0 := hg 0 f rfl
        rw [ho] at g0
        simp only [List.map_cons,DataW.weightsEach,List.mem_append] at hw
        obtain ⟨a,ha,hSa⟩ := hS.h _ _ _ _ _ _ _ _ g0 (fun n hn => hw n (.inl hn))
        obtain ⟨b,hb,hSb⟩ := sh_fields fs xs _ (o + Tryz.prog.cellsOf f.type) hc' (by simpa using hl) (fun i g hi => hg (i + 1) g (by simpa using hi)) hs' (fun n hn => hw n (.inr hn))
        refine ⟨a ++ b,?_,a,b,rfl,hSa,hSb⟩
        have e : cs.drop o = (cs.drop o).take (Tryz.prog.cellsOf f.type) ++ cs.drop (o + Tryz.prog.cellsOf f.type) := by
         rw [← List.drop_drop,List.take_append_drop]
        rw [e]
        exact All2.app ha hb
theorem sh_struct {t : TypeId} {fs : Array Field} {Ss : List (List AV → Prop)} (ht : Tryz.prog.underlying t = some (.struct fs)) (hc0 : contigB Tryz.prog.cellsOf 0 fs.toList (Tryz.prog.cellsOf t) = true) {ts : List TypeId} (hts : fs.toList.map (·.type) = ts) (hs : ShL ts Ss) : Sh t (Cat Ss) := ⟨fun _ _ _ _ _ _ _ _ h hw => by
 subst hts
 have hc := contig_of hc0
 obtain ⟨xs,m,_,rfl,hlen,hxl,hg⟩ := DataW.trod_struct ht h
 rw [← hlen] at hc
 obtain ⟨avs,h1,h2⟩ := sh_fields fs.toList xs Ss 0 hc (by simpa using hxl) (fun i f hf => hg i f (by simpa using hf)) hs (by simpa [DataW.weights,ht] using hw)
 exact ⟨avs,by simpa using h1,h2⟩⟩
theorem add_lit {b o j : Nat} : (⟨b,o,none⟩ : Addr).add j = ⟨b,o + j,none⟩ := by
 unfold Addr.add
 split
 · rename_i h; subst h; rfl
 · rfl
section
variable {H : Type} {enc : TypeId × Value → H} {w : World} {spare : Nat → Bool} {held : Bool} {v : Value} {d : DataW H} {p : List MemPlace} {r : Reach} {b0 : Nat}
theorem arg_one {t : TypeId} {S : List AV → Prop} (hs : Sh t S) (h1 : ∀ avs,S avs → avs.length = 1) (h : DataW.Trod enc Tryz.prog w 0 spare held t v d p) (hw : ∀ n ∈ d.weights Tryz.prog t,n ≤ reachBytes) (hv : v.cells.toList = [v]) : ∃ x,S [x] ∧ C1 ⟨w,allOf w,fun _ => undef⟩ x v := by
 obtain ⟨fuel,hf⟩ := h
 obtain ⟨avs,ha,hS⟩ := hs.h _ _ _ _ _ _ _ _ hf hw
 match avs,h1 avs hS with
 | [x],_ =>
   rw [hv] at ha
   exact ⟨x,hS,C1.of0 (C0.ofPC (X := ⟨w,allOf w,fun _ => undef⟩) (ha.2 0 x v rfl rfl))⟩
theorem arg_agg {t : TypeId} {S : List AV → Prop} (hs : Sh t S) (h : DataW.Trod enc Tryz.prog w 0 spare held t v d p) (hw : ∀ n ∈ d.weights Tryz.prog t,n ≤ reachBytes) (hv : ∃ cs,v = .agg cs) : ∃ xs,S xs ∧ C1 ⟨w,allOf w,fun _ => undef⟩ (.agg xs) v := by
 obtain ⟨cs,rfl⟩ := hv
 obtain ⟨fuel,hf⟩ := h
 obtain ⟨avs,ha,hS⟩ := hs.h _ _ _ _ _ _ _ _ hf hw
 exact ⟨avs,hS,cs.toList,rfl,(show All2 (PC w (allOf w)) avs cs.toList from ha).imp fun _ _ h => C0.ofPC (X := ⟨w,allOf w,fun _ => undef⟩) h⟩
end
theorem weights_at {H : Type} {ts : List TypeId} {ds : List (DataW H)} (h : (DataW.weightsEach Tryz.prog ts ds).all (· ≤ reachBytes) = true) {j : Nat} {t : TypeId} {d : DataW H} (ht : ts[j]? = some t) (hd : ds[j]? = some d) :
  ∀ n ∈ d.weights Tryz.prog t,n ≤ reachBytes := fun n hn => by
 simpa using List.all_eq_true.1 h _ (DataW.weights_mem_each ht hd n hn)
theorem walk_of {f : FuncId} {avs : List AV} (h : ASpec Tryz.prog f avs (.v (.bool true)) []) {W : World} {args : List Value} (ha : All2 (C1 ⟨W,allOf W,fun _ => undef⟩) avs args) :
  Calls Tryz.prog f args.toArray W fun e W' => e = .returned (.bool true) ∧ Below W.heap.size W W' :=
 (h.2 W (allOf W) args (fun _ hb => hb) ha).mono fun e W' ⟨u,ρ,h1,h2,h3,_⟩ => ⟨by rw [h1,show u = .bool true from h3],h2⟩
end Go.Proofs.YtimhagicagdkfaaGreat

/-
 Arguments that are events,rows of events,bytes.
-/
namespace Go.Proofs.YtimhagicagdkfaaGreat
open Go.ChangeShapes Go.WideShapes Go.ChangeAt Go.RowKit
def Ev.rng (e : Ev) : Prop := e.key.size ≤ 140737488355328 ∧ e.v.size ≤ 140737488355328
section
variable {H : Type} {enc : TypeId × Value → H} {w : World} {spare : Nat → Bool} {held : Bool} {v : Value} {d : DataW H} {p : List MemPlace} {r : Reach} {b0 : Nat}
end
end Go.Proofs.YtimhagicagdkfaaGreat

/-
 Arguments that are choices,rows of choices,whole numbers.
-/
namespace Go.Proofs.YtimhagicagdkfaaGreat
open Go.ChangeShapes Go.WideShapes Go.ChangeAt Go.RowKit
structure Ch0 where
 (r f : Int) (sy : Bool) (k : Int) (key : ByteArray) (l : Int) (v : ByteArray)
instance : Inhabited Ch0 := ⟨⟨0,0,false,0,⟨#[]⟩,0,⟨#[]⟩⟩⟩
def Ch0.cs (c : Ch0) : List AV := [.v (.int .u8 c.r), .v (.int .u8 c.f), .v (.bool c.sy), .v (.int .i64 c.k), .v (.string c.key), .v (.int .i64 c.l), .v (.string c.v)]
def Ch0.av (c : Ch0) : AV := .agg c.cs
def Ch0.rng (c : Ch0) : Prop := (0 ≤ c.r ∧ c.r ≤ 255) ∧ (0 ≤ c.f ∧ c.f ≤ 255) ∧ -9223372036854775808 ≤ c.k ∧ c.k ≤ 9223372036854775807 ∧ -9223372036854775808 ≤ c.l ∧ c.l ≤ 9223372036854775807 ∧ c.key.size ≤ 140737488355328 ∧ c.v.size ≤ 140737488355328
section
variable {H : Type} {enc : TypeId × Value → H} {w : World} {spare : Nat → Bool} {held : Bool} {v : Value} {d : DataW H} {p : List MemPlace} {r : Reach} {b0 : Nat}
set_option maxRecDepth 100000 in
theorem arg_int {t : TypeId} {k : IntKind} (ht : Tryz.prog.underlying t = some (.int k)) (hv : Value.okWide Tryz.prog w r b0 t v) (h : DataW.Trod enc Tryz.prog w 0 spare held t v d p) (hw : ∀ n ∈ d.weights Tryz.prog t,n ≤ reachBytes) : ∃ n : Int,(Lit.int k n).wf = true ∧ C1 ⟨w,allOf w,fun _ => undef⟩ (.v (.int k n)) v := by
 obtain ⟨n,rfl⟩ := okWide_int ht hv
 obtain ⟨x,⟨m,e,hm⟩,hc⟩ := arg_one (sh_int ht) (fun _ ⟨l,e,_⟩ => by rw [e]; rfl) h hw rfl
 cases e
 exact ⟨m,hm,hc⟩
end
end Go.Proofs.YtimhagicagdkfaaGreat

/-
 Makers of pasts: clocks joined and compared; how high; edits that may be.
-/
namespace Go.Proofs.YtimhagicagdkfaaGreat
open Go.RowKit
def mxI (a b : Int) : Int := if b > a then b else a
def Clk.join (a b : Clk) : Clk := ⟨mxI a.c0 b.c0,mxI a.c1 b.c1,mxI a.c2 b.c2,mxI a.c3 b.c3,mxI a.c4 b.c4⟩
def Clk.le (a b : Clk) : Bool := decide (a.c0 ≤ b.c0 ∧ a.c1 ≤ b.c1 ∧ a.c2 ≤ b.c2 ∧ a.c3 ≤ b.c3 ∧ a.c4 ≤ b.c4)
def hStep (c : Clk) (s : Int × Bool) (e : Ev) : Int × Bool := if (hasB c e.r e.n && (!s.2 || decide (s.1 < e.h))) = true then (e.h,true) else s
def hgtF (c : Clk) (l : List Ev) : Int × Bool := l.foldl (hStep c) (0,false)
def hgt (l : List Ev) (c : Clk) : Int := (hgtF c l).1 + 1
theorem fold_take {α β : Type} [Inhabited α] {f : β → α → β} {b : β} {l : List α} {j : Nat} (h : j < l.length) : (l.take (j + 1)).foldl f b = f ((l.take j).foldl f b) (l.getD j default) := by
 rw [List.take_add_one,List.getElem?_eq_getElem h,List.getD,List.getElem?_eq_getElem h,List.foldl_append]
 rfl
theorem hgtF_bnd {c : Clk} {M : Int} (hM : 0 ≤ M) : ∀ (l : List Ev),(∀ e ∈ l,0 ≤ e.h ∧ e.h ≤ M) → ∀ s : Int × Bool,0 ≤ s.1 ∧ s.1 ≤ M → 0 ≤ (l.foldl (hStep c) s).1 ∧ (l.foldl (hStep c) s).1 ≤ M
  | [],_,s,hs => hs
  | e :: l,h,s,hs => by
    rw [List.foldl_cons]
    refine hgtF_bnd hM l (fun x hx => h x (List.mem_cons_of_mem _ hx)) _ ?_
    unfold hStep
    split
    · exact h e List.mem_cons_self
    · exact hs
theorem hgt_bnd {c : Clk} {M : Int} (hM : 0 ≤ M) {l : List Ev} (h : ∀ e ∈ l,0 ≤ e.h ∧ e.h ≤ M) : 1 ≤ hgt l c ∧ hgt l c ≤ M + 1 := by
 have := hgtF_bnd (c := c) hM l h (0,false) ⟨by simp,hM⟩
 unfold hgt hgtF
 omega
end Go.Proofs.YtimhagicagdkfaaGreat

/-
 Which configs may be (layer 11,and its reference); how one is made such as may be.
-/
namespace Go.Proofs.YtimhagicagdkfaaGreat
open Go.RowKit
structure Cfg where
 (n w q h l p : Int)
def Cfg.cs (c : Cfg) : List AV := [.v (.int .i64 c.n), .v (.int .i64 c.w), .v (.int .i64 c.q), .v (.int .i64 c.h), .v (.int .i64 c.l), .v (.int .i64 c.p)]
def Cfg.av (c : Cfg) : AV := .agg c.cs
def inC (n m : Int) : Bool := decide (1 ≤ n) && decide (n ≤ m)
def mayC (c : Cfg) : Bool := inC c.n 5 && inC c.w 4 && inC c.q 8 && inC c.h 20 && inC c.l 4 && inC c.p 3
theorem upto_spec (n m : Int) : ASpec Tryz.prog 64 [.v (.int .i64 n), .v (.int .i64 m)] (.v (.bool (inC n m))) [] := by
 refine K1.E 0x13 Tryz.func64 ?_
 repeat' ((conv => whnf); first | refine K1.w ?_ | refine K1.u ?_ | refine ARet.hdI ?_ | refine K1.z ?_ | refine K1.y (fun _ => ?_) (fun _ => ?_) | fail)
 all_goals (conv => whnf)
 all_goals (refine AEqI.mk (AEq.of ?_))
 all_goals simp [inC, *]
theorem in11_spec (n m : Int) : ASpec Tryz.prog 28 [.v (.int .i64 n), .v (.int .i64 m)] (.v (.bool (inC n m))) [] := by
 refine K1.E 0x13 Tryz.func28 ?_
 repeat' ((conv => whnf); first | refine K1.w ?_ | refine K1.u ?_ | refine ARet.hdI ?_ | refine K1.z ?_ | refine K1.y (fun _ => ?_) (fun _ => ?_) | fail)
 all_goals (conv => whnf)
 all_goals (refine AEqI.mk (AEq.of ?_))
 all_goals simp [inC, *]
set_option maxRecDepth 100000 in
theorem mayC_spec (c : Cfg) : ASpec Tryz.prog 27 [c.av] (.v (.bool (mayC c))) [] := by
 obtain ⟨n,w,q,h,l,p⟩ := c
 dsimp only [Cfg.av,Cfg.cs]
 refine K1.E 0x7 Tryz.func27 ?_
 repeat' ((conv => whnf); first | refine K1.w ?_ | refine K1.u ?_ | refine K1.P1 (upto_spec _ _) rfl ?_ | refine ARet.hdI ?_ | refine K1.z ?_ | refine K1.y (fun _ => ?_) (fun _ => ?_) | fail)
 all_goals (conv => whnf)
 all_goals (refine AEqI.mk (AEq.of ?_))
 all_goals simp [mayC, *]
set_option maxRecDepth 100000 in
theorem may11_spec (c : Cfg) : ASpec Tryz.prog 10 [c.av] (.v (.bool (mayC c))) [] := by
 obtain ⟨n,w,q,h,l,p⟩ := c
 dsimp only [Cfg.av,Cfg.cs]
 refine K1.E 0x7 Tryz.func10 ?_
 repeat' ((conv => whnf); first | refine K1.w ?_ | refine K1.u ?_ | refine K1.P1 (in11_spec _ _) rfl ?_ | refine ARet.hdI ?_ | refine K1.z ?_ | refine K1.y (fun _ => ?_) (fun _ => ?_) | fail)
 all_goals (conv => whnf)
 all_goals (refine AEqI.mk (AEq.of ?_))
 all_goals simp [mayC, *]
end Go.Proofs.YtimhagicagdkfaaGreat
