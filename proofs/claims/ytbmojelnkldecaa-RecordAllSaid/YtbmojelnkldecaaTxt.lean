/-
  What package text and the small functions of package event compute.
-/
import Derived.Test.YtbmojelnkldecaaAmUse
import Derived.Test.YtbmojelnkldecaaPlain
import Derived.Test.YtbmojelnkldecaaAmA
import Derived.WalkSpells
import Derived.WalkLawsBesides
namespace Go.Proofs.Ytbmojelnkldecaa
open Go.RowKit

def Clk.cs (c : Clk) : List AV := [.v (.int .i64 c.c0), .v (.int .i64 c.c1), .v (.int .i64 c.c2), .v (.int .i64 c.c3), .v (.int .i64 c.c4)]
def Clk.av (c : Clk) : AV := .agg c.cs
def Ev.cs (e : Ev) : List AV := [.v (.int .i64 e.r), .v (.int .i64 e.n), .v (.int .i64 e.c.c0), .v (.int .i64 e.c.c1), .v (.int .i64 e.c.c2), .v (.int .i64 e.c.c3), .v (.int .i64 e.c.c4), .v (.int .i64 e.h), .v (.int .i64 e.k), .v (.string e.key), .v (.int .i64 e.l), .v (.string e.v)]
def Ev.av (e : Ev) : AV := .agg e.cs
def Ed.av (e : Ed) : AV := .agg [.v (.int .i64 e.k), .v (.string e.key), .v (.int .i64 e.l), .v (.string e.v)]

theorem lettersB_iff (s : ByteArray) : lettersB s = true ↔ ∀ i (h : i < s.size), 97 ≤ (s[i]'h).toNat ∧ (s[i]'h).toNat ≤ 122 := by
  unfold lettersB
  rw [List.all_eq_true]
  constructor
  · intro h i hi
    have := h s[i] (by
      show s.data[i]'hi ∈ s.data.toList
      exact Array.mem_toList_iff.2 (Array.getElem_mem _))
    simpa using this
  · intro h b hb
    obtain ⟨i, hi, rfl⟩ := Array.getElem_of_mem (Array.mem_toList_iff.1 hb)
    have h1 : 97 ≤ (s.data[i]'hi).toNat ∧ (s.data[i]'hi).toNat ≤ 122 := h i hi
    simpa using h1

theorem keyE_ok {s : ByteArray} (h1 : 1 ≤ s.size) (h2 : s.size ≤ 8) (h : ∀ i (h : i < s.size), 97 ≤ (s[i]'h).toNat ∧ (s[i]'h).toNat ≤ 122) : keyE s = 0 := by
  unfold keyE
  rw [if_pos ⟨h1, h2, (lettersB_iff s).2 h⟩]
theorem keyE_no {s : ByteArray} {i : Nat} (hi : i < s.size) (h : ¬ (97 ≤ (s[i]'hi).toNat ∧ (s[i]'hi).toNat ≤ 122)) : keyE s = 10 := by
  unfold keyE
  rw [if_neg (fun hh => h ((lettersB_iff s).1 hh.2.2 i hi))]
theorem keyE_size {s : ByteArray} (h : ¬ (1 ≤ s.size ∧ s.size ≤ 8)) : keyE s = 10 := by
  unfold keyE
  rw [if_neg (fun hh => h ⟨hh.1, hh.2.1⟩)]

set_option maxHeartbeats 1000000 in
theorem key_any (s : ByteArray) (w : World) :
    Calls Try.prog 74 #[.string s] w fun e w' => e = .returned (.int .i64 (keyE s)) ∧ Below w.heap.size w w' := by
  by_cases h1 : 1 ≤ s.size
  · by_cases h2 : s.size ≤ 8
    · go_enter Try.func74, Try.ntmps74
      go_wp2
      go_loopw [] (fun w' => ∃ pos : Nat, w' = w.iter s pos ∧ ∀ i (h : i < s.size), i < pos → 97 ≤ (s[i]'h).toNat ∧ (s[i]'h).toNat ≤ 122) (fun w' => s.size - w'.iterPos w.heap.size)
      case atStart => exact ⟨0, rfl, fun i _ h => by omega⟩
      case round =>
        obtain ⟨pos, rfl, hl⟩ := hrel
        have HL := Lib.hid hl
        clear hl
        by_cases hp : pos < s.size
        · by_cases ha : (s[pos]'hp).toNat < 128
          · have hnx : ∀ ty, (Instr.next (.pointer (some ⟨w.heap.size, 0, none⟩)) true ty).run Try.prog (w.iter s pos) = _ := fun ty => run_next_ascii w s pos ty hp ha
            by_cases h97 : 97 ≤ (s[pos]'hp).toNat
            · by_cases h122 : (s[pos]'hp).toNat ≤ 122
              · go_wp2
                go_roundw
                case rel =>
                  exact ⟨pos + 1, rfl, fun i h hi => by
                    by_cases e : i = pos
                    · subst e; exact ⟨h97, h122⟩
                    · exact HL.out i h (by omega)⟩
                case measure =>
                  simp
                  omega
              · go_wp2
                go_ret
                exact ⟨ret_int (keyE_no hp (fun hh => h122 hh.2)).symm, (Below.refl _ _).alloc (Nat.le_refl _) _⟩
            · go_wp2
              go_ret
              exact ⟨ret_int (keyE_no hp (fun hh => h97 hh.1)).symm, (Below.refl _ _).alloc (Nat.le_refl _) _⟩
          · have hnx : ∀ ty, (Instr.next (.pointer (some ⟨w.heap.size, 0, none⟩)) true ty).run Try.prog (w.iter s pos) = _ := fun ty => run_next_any w s pos ty hp
            have hd := (decode_high s pos hp (by omega)).1
            go_wp2
            go_ret
            exact ⟨ret_int (keyE_no hp (by omega)).symm, (Below.refl _ _).alloc (Nat.le_refl _) _⟩
        · have hnx : ∀ ty, (Instr.next (.pointer (some ⟨w.heap.size, 0, none⟩)) true ty).run Try.prog (w.iter s pos) = _ := fun ty => run_next_end w s pos ty hp
          go_wp2
          go_ret
          exact ⟨ret_int (keyE_ok h1 h2 (fun i h => HL.out i h (by omega))).symm, (Below.refl _ _).alloc (Nat.le_refl _) _⟩
    · go_enter Try.func74, Try.ntmps74
      go_wp2
      go_ret
      exact ⟨ret_int (keyE_size (by omega)).symm, Below.refl _ _⟩
  · go_enter Try.func74, Try.ntmps74
    go_wp2
    go_ret
    exact ⟨ret_int (keyE_size (by omega)).symm, Below.refl _ _⟩


theorem key_spec (s : ByteArray) : ASpec Try.prog 74 [.v (.string s)] (.v (.int .i64 (keyE s))) [] :=
  spec_plain (xs := [.string s]) ⟨_, _, Try.func74, rfl, rfl⟩ fun w => key_any s w

theorem label_spec (n : Int) : ASpec Try.prog 89 [.v (.int .i64 n)] (.v (.int .i64 (labelE n))) [] := by
  refine aspec_of lay_ok 261 Try.func89 rfl rfl rfl ?_
  repeat' ((conv => whnf); first | refine Spl.yes (by first | assumption | omega) ?_ | refine Spl.no (by first | assumption | omega) ?_ | refine Wr.i64 (by omega) (by omega) ?_ | refine Still.mk rfl rfl ?_ | refine InB.mk (inB_mk (by omega) (by omega)) ?_ | refine Req.mk (by omega) ?_ | refine Req.mk ⟨by first | omega | (dsimp only; omega), by first | omega | (dsimp only; omega)⟩ ?_ | refine Spl.mk (fun _ => ?_) (fun _ => ?_) | refine Wr.b64 ?_ | refine Wr.bu64 ?_ | refine Wr.bu32 ?_ | refine Wr.bu8 ?_ | refine Wr.u8 (by omega) (by omega) ?_ | refine Wr.u64 (by omega) (by omega) ?_ | refine Wr.u32 (by omega) (by omega) ?_ | refine Dv.pos (by omega) (by omega) ?_ | refine Rm.pos (by omega) (by omega) ?_ | refine ADraw.quiet follows_ok (by kernel_rfl) rfl ?_ | refine BSpl.decY (by first | assumption | omega) ?_ | refine BSpl.decN (by first | assumption | omega) ?_ | refine BSpl.dec (fun _ => ?_) (fun _ => ?_) | refine BSpl.yes (by assumption) ?_ | refine BSpl.no (by assumption) ?_ | refine BSpl.mk (fun _ => ?_) (fun _ => ?_))
  all_goals (refine ARet.int rfl ?_; unfold labelE; (first | rw [if_pos (by omega)] | rw [if_neg (by omega)]))

theorem value_spec (s : ByteArray) : ASpec Try.prog 75 [.v (.string s)] (.v (.int .i64 (valueE s))) [] := by
  refine aspec_of lay_ok 1029 Try.func75 rfl rfl rfl ?_
  repeat' ((conv => whnf); first | refine Spl.yes (by first | assumption | omega) ?_ | refine Spl.no (by first | assumption | omega) ?_ | refine Wr.i64 (by omega) (by omega) ?_ | refine Still.mk rfl rfl ?_ | refine InB.mk (inB_mk (by omega) (by omega)) ?_ | refine Req.mk (by omega) ?_ | refine Req.mk ⟨by first | omega | (dsimp only; omega), by first | omega | (dsimp only; omega)⟩ ?_ | refine Spl.mk (fun _ => ?_) (fun _ => ?_) | refine Wr.b64 ?_ | refine Wr.bu64 ?_ | refine Wr.bu32 ?_ | refine Wr.bu8 ?_ | refine Wr.u8 (by omega) (by omega) ?_ | refine Wr.u64 (by omega) (by omega) ?_ | refine Wr.u32 (by omega) (by omega) ?_ | refine Dv.pos (by omega) (by omega) ?_ | refine Rm.pos (by omega) (by omega) ?_ | refine ADraw.quiet follows_ok (by kernel_rfl) rfl ?_ | refine BSpl.decY (by first | assumption | omega) ?_ | refine BSpl.decN (by first | assumption | omega) ?_ | refine BSpl.dec (fun _ => ?_) (fun _ => ?_) | refine BSpl.yes (by assumption) ?_ | refine BSpl.no (by assumption) ?_ | refine BSpl.mk (fun _ => ?_) (fun _ => ?_))
  all_goals (refine ARet.int rfl ?_; unfold valueE; (first | rw [if_pos (by omega)] | rw [if_neg (by omega)]))

theorem size_zero {s : ByteArray} (h : s = ⟨#[]⟩) : s.size = 0 := by rw [h]; rfl
theorem size_pos {s : ByteArray} (h : ¬ s = ⟨#[]⟩) : s.size ≠ 0 := fun e => h (by
  cases s with
  | mk d =>
    have : d = #[] := Array.eq_empty_of_size_eq_zero e
    rw [this])

set_option maxRecDepth 100000 in
theorem edit_spec (e : Ed) : ASpec Try.prog 73 [e.av] (.v (.int .i64 (editE e))) [] := by
  refine aspec_of lay_ok 142338035743 Try.func73 rfl rfl rfl ?_
  repeat' ((conv => whnf); first | refine Spl.yes (by first | assumption | omega) ?_ | refine Spl.no (by first | assumption | omega) ?_ | refine Wr.i64 (by omega) (by omega) ?_ | refine Still.mk rfl rfl ?_ | refine InB.mk (inB_mk (by omega) (by omega)) ?_ | refine Req.mk (by omega) ?_ | refine Req.mk ⟨by first | omega | (dsimp only; omega), by first | omega | (dsimp only; omega)⟩ ?_ | refine ACall.plain _ _ (key_spec _) (SubL.cons (.eq _) .nil) rfl ?_ | refine ACall.plain _ _ (label_spec _) (SubL.cons (.eq _) .nil) rfl ?_ | refine ACall.plain _ _ (value_spec _) (SubL.cons (.eq _) .nil) rfl ?_ | refine Spl.mk (fun _ => ?_) (fun _ => ?_) | refine Wr.b64 ?_ | refine Wr.bu64 ?_ | refine Wr.bu32 ?_ | refine Wr.bu8 ?_ | refine Wr.u8 (by omega) (by omega) ?_ | refine Wr.u64 (by omega) (by omega) ?_ | refine Wr.u32 (by omega) (by omega) ?_ | refine Dv.pos (by omega) (by omega) ?_ | refine Rm.pos (by omega) (by omega) ?_ | refine ADraw.quiet follows_ok (by kernel_rfl) rfl ?_ | refine BSpl.decY (by first | assumption | omega) ?_ | refine BSpl.decN (by first | assumption | omega) ?_ | refine BSpl.dec (fun _ => ?_) (fun _ => ?_) | refine BSpl.yes (by assumption) ?_ | refine BSpl.no (by assumption) ?_ | refine BSpl.mk (fun _ => ?_) (fun _ => ?_))
  all_goals (refine ARet.int rfl ?_; unfold editE; try have h0 := size_pos ‹_›)
  all_goals grind [size_zero]

theorem within_spec (n a b : Int) : ASpec Try.prog 50 [.v (.int .i64 n), .v (.int .i64 a), .v (.int .i64 b)] (.v (.bool (decide (a ≤ n ∧ n ≤ b)))) [] := by
  refine aspec_of lay_ok 71 Try.func50 rfl rfl rfl ?_
  repeat' ((conv => whnf); first | refine Spl.yes (by first | assumption | omega) ?_ | refine Spl.no (by first | assumption | omega) ?_ | refine Wr.i64 (by omega) (by omega) ?_ | refine Still.mk rfl rfl ?_ | refine InB.mk (inB_mk (by omega) (by omega)) ?_ | refine Req.mk (by omega) ?_ | refine Req.mk ⟨by first | omega | (dsimp only; omega), by first | omega | (dsimp only; omega)⟩ ?_ | refine Spl.mk (fun _ => ?_) (fun _ => ?_) | refine Wr.b64 ?_ | refine Wr.bu64 ?_ | refine Wr.bu32 ?_ | refine Wr.bu8 ?_ | refine Wr.u8 (by omega) (by omega) ?_ | refine Wr.u64 (by omega) (by omega) ?_ | refine Wr.u32 (by omega) (by omega) ?_ | refine Dv.pos (by omega) (by omega) ?_ | refine Rm.pos (by omega) (by omega) ?_ | refine ADraw.quiet follows_ok (by kernel_rfl) rfl ?_ | refine BSpl.decY (by first | assumption | omega) ?_ | refine BSpl.decN (by first | assumption | omega) ?_ | refine BSpl.dec (fun _ => ?_) (fun _ => ?_) | refine BSpl.yes (by assumption) ?_ | refine BSpl.no (by assumption) ?_ | refine BSpl.mk (fun _ => ?_) (fun _ => ?_))
  all_goals (refine ARet.bool rfl ?_; simp [*])

theorem isLong_spec (k : Int) : ASpec Try.prog 48 [.v (.int .i64 k)] (.v (.bool (isLong k))) [] := by
  refine aspec_of lay_ok 5 Try.func48 rfl rfl rfl ?_
  repeat' ((conv => whnf); first | refine Spl.yes (by first | assumption | omega) ?_ | refine Spl.no (by first | assumption | omega) ?_ | refine Wr.i64 (by omega) (by omega) ?_ | refine Still.mk rfl rfl ?_ | refine InB.mk (inB_mk (by omega) (by omega)) ?_ | refine Req.mk (by omega) ?_ | refine Req.mk ⟨by first | omega | (dsimp only; omega), by first | omega | (dsimp only; omega)⟩ ?_ | refine Spl.mk (fun _ => ?_) (fun _ => ?_) | refine Wr.b64 ?_ | refine Wr.bu64 ?_ | refine Wr.bu32 ?_ | refine Wr.bu8 ?_ | refine Wr.u8 (by omega) (by omega) ?_ | refine Wr.u64 (by omega) (by omega) ?_ | refine Wr.u32 (by omega) (by omega) ?_ | refine Dv.pos (by omega) (by omega) ?_ | refine Rm.pos (by omega) (by omega) ?_ | refine ADraw.quiet follows_ok (by kernel_rfl) rfl ?_ | refine BSpl.decY (by first | assumption | omega) ?_ | refine BSpl.decN (by first | assumption | omega) ?_ | refine BSpl.dec (fun _ => ?_) (fun _ => ?_) | refine BSpl.yes (by assumption) ?_ | refine BSpl.no (by assumption) ?_ | refine BSpl.mk (fun _ => ?_) (fun _ => ?_))
  all_goals (refine ARet.bool rfl ?_; simp [isLong, *])


set_option maxRecDepth 100000 in
theorem may_spec (e : Ev) : ASpec Try.prog 45 [e.av] (.v (.int .i64 (mayE e))) [] := by
  obtain ⟨r, n, ⟨c0, c1, c2, c3, c4⟩, h, k, key, l, v⟩ := e
  dsimp only [Ev.av, Ev.cs]
  by_cases hr : 0 ≤ r ∧ r ≤ 4
  · rcases (show r = 0 ∨ r = 1 ∨ r = 2 ∨ r = 3 ∨ r = 4 by omega) with rfl | rfl | rfl | rfl | rfl
    all_goals
      refine aspec_of lay_ok 275176751127 Try.func45 rfl rfl rfl ?_
      repeat' ((conv => whnf); first | refine Spl.yes (by first | assumption | omega) ?_ | refine Spl.no (by first | assumption | omega) ?_ | refine Wr.i64 (by omega) (by omega) ?_ | refine Still.mk rfl rfl ?_ | refine InB.mk (inB_mk (by omega) (by omega)) ?_ | refine Req.mk (by omega) ?_ | refine Req.mk ⟨by first | omega | (dsimp only; omega), by first | omega | (dsimp only; omega)⟩ ?_ | refine ACall.plain _ _ (within_spec _ _ _) (SubL.cons (.eq _) (SubL.cons (.eq _) (SubL.cons (.eq _) .nil))) rfl ?_ | refine ACall.plain _ _ (edit_spec ⟨k, key, l, v⟩) (SubL.cons (.eq _) .nil) rfl ?_ | refine ALoop.rounds 6 ?_ | refine Spl.mk (fun _ => ?_) (fun _ => ?_) | refine Wr.b64 ?_ | refine Wr.bu64 ?_ | refine Wr.bu32 ?_ | refine Wr.bu8 ?_ | refine Wr.u8 (by omega) (by omega) ?_ | refine Wr.u64 (by omega) (by omega) ?_ | refine Wr.u32 (by omega) (by omega) ?_ | refine Dv.pos (by omega) (by omega) ?_ | refine Rm.pos (by omega) (by omega) ?_ | refine ADraw.quiet follows_ok (by kernel_rfl) rfl ?_ | refine BSpl.decY (by first | assumption | omega) ?_ | refine BSpl.decN (by first | assumption | omega) ?_ | refine BSpl.dec (fun _ => ?_) (fun _ => ?_) | refine BSpl.yes (by assumption) ?_ | refine BSpl.no (by assumption) ?_ | refine BSpl.mk (fun _ => ?_) (fun _ => ?_))
      all_goals refine ARet.int rfl ?_
      all_goals first | (simp [mayE, okN, withinB, Clk.get, Ev.ed, *]; done) | (simp [mayE, okN, withinB, Clk.get, Ev.ed, *]; omega)
  · refine aspec_of lay_ok 275176751127 Try.func45 rfl rfl rfl ?_
    repeat' ((conv => whnf); first | refine Spl.yes (by first | assumption | omega) ?_ | refine Spl.no (by first | assumption | omega) ?_ | refine Wr.i64 (by omega) (by omega) ?_ | refine Still.mk rfl rfl ?_ | refine InB.mk (inB_mk (by omega) (by omega)) ?_ | refine Req.mk (by omega) ?_ | refine Req.mk ⟨by first | omega | (dsimp only; omega), by first | omega | (dsimp only; omega)⟩ ?_ | refine ACall.plain _ _ (within_spec _ _ _) (SubL.cons (.eq _) (SubL.cons (.eq _) (SubL.cons (.eq _) .nil))) rfl ?_ | refine ACall.plain _ _ (edit_spec ⟨k, key, l, v⟩) (SubL.cons (.eq _) .nil) rfl ?_ | refine ALoop.rounds 6 ?_ | refine Spl.mk (fun _ => ?_) (fun _ => ?_) | refine Wr.b64 ?_ | refine Wr.bu64 ?_ | refine Wr.bu32 ?_ | refine Wr.bu8 ?_ | refine Wr.u8 (by omega) (by omega) ?_ | refine Wr.u64 (by omega) (by omega) ?_ | refine Wr.u32 (by omega) (by omega) ?_ | refine Dv.pos (by omega) (by omega) ?_ | refine Rm.pos (by omega) (by omega) ?_ | refine ADraw.quiet follows_ok (by kernel_rfl) rfl ?_ | refine BSpl.decY (by first | assumption | omega) ?_ | refine BSpl.decN (by first | assumption | omega) ?_ | refine BSpl.dec (fun _ => ?_) (fun _ => ?_) | refine BSpl.yes (by assumption) ?_ | refine BSpl.no (by assumption) ?_ | refine BSpl.mk (fun _ => ?_) (fun _ => ?_))
    all_goals refine ARet.int rfl ?_
    all_goals (simp [mayE, withinB]; omega)
end Go.Proofs.Ytbmojelnkldecaa
