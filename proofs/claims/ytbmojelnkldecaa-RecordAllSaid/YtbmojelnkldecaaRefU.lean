/-
  The reader of the reference of layer 6: a byte, a number, some bytes.
-/
import Derived.Test.YtbmojelnkldecaaRefT
import Derived.Test.YtbmojelnkldecaaTkE
import Derived.Test.YtbmojelnkldecaaTkF
namespace Go.Proofs.Ytbmojelnkldecaa
open Go.RowKit

def octR (bs : List UInt8) (lo hi : Int) (s : St) : Int × St :=
  if s.2 ≠ 0 then (0, s)
  else if bs.length ≤ s.1 then (0, (s.1, 2))
  else if lo ≤ ((bs.getD s.1 0).toNat : Int) ∧ ((bs.getD s.1 0).toNat : Int) ≤ hi then (((bs.getD s.1 0).toNat : Int), (s.1 + 1, 0))
  else (((bs.getD s.1 0).toNat : Int), (s.1 + 1, 3))
def numR (bs : List UInt8) (lo hi : Int) (s : St) : Int × St :=
  if s.2 ≠ 0 then (0, s)
  else if (rtake (bs.drop s.1)).2.2 ≠ 0 then (0, (s.1, (rtake (bs.drop s.1)).2.2))
  else if lo ≤ ((rtake (bs.drop s.1)).1 : Int) ∧ ((rtake (bs.drop s.1)).1 : Int) ≤ hi then (((rtake (bs.drop s.1)).1 : Int), (s.1 + (rtake (bs.drop s.1)).2.1, 0))
  else (0, (s.1 + (rtake (bs.drop s.1)).2.1, 3))
def wordR (bs : List UInt8) (sz : Int) (s : St) : ByteArray × St :=
  if s.2 ≠ 0 then (⟨#[]⟩, s)
  else if ((bs.length : Int) - s.1 < sz) then (⟨#[]⟩, (s.1, 2))
  else (cutB bs s.1 sz.toNat, (s.1 + sz.toNat, 0))

def rdT (bs : List UInt8) (s : St) : AO := .box 120 [.sl 1 bs.length true (bytesF bs), .v (.int .i64 (s.1 : Int)), .v (.int .i64 s.2)]

theorem OEq.rd {t : TypeId} {a : AV} {k l : IntKind} {x x' y y' : Int} (h : x = x') (h' : y = y') : OEq (.box t [a, .v (.int k x), .v (.int l y)]) (.box t [a, .v (.int k x'), .v (.int l y')]) := by rw [h, h']; exact OEq.refl _

set_option maxRecDepth 100000 in
theorem one_m (bs : List UInt8) (u : Nat) (x lo hi : Int) (hl : bs.length ≤ 1000000000) (hu : u ≤ bs.length) :
    MSpec Try.prog 93 [(0, rdT bs (u, x))] [.box 0 0, .v (.int .i64 lo), .v (.int .i64 hi)] (.v (.int .i64 (octR bs lo hi (u, x)).1)) [(0, rdT bs (octR bs lo hi (u, x)).2)] := by
  unfold rdT
  dsimp only
  refine mspec_of lay_ok 562949957619911 10 Try.func93 rfl rfl rfl ?_
  repeat' ((conv => whnf); first | refine Spl.yes (by first | assumption | omega) ?_ | refine Spl.no (by first | assumption | omega) ?_ | refine Wr.i64 (by omega) (by omega) ?_ | refine Still.mk rfl rfl ?_ | refine InB.mk (inB_mk (by omega) (by omega)) ?_ | refine Req.mk (by omega) ?_ | refine Req.mk ⟨by first | omega | (dsimp only; omega), by first | omega | (dsimp only; omega)⟩ ?_ | refine ACall.plain _ _ (rin_spec _ _ _) (SubL.cons (.eq _) (SubL.cons (.eq _) (SubL.cons (.eq _) .nil))) rfl ?_ | refine Spl.mk (fun _ => ?_) (fun _ => ?_) | refine Wr.b64 ?_ | refine Wr.bu64 ?_ | refine Wr.bu32 ?_ | refine Wr.bu8 ?_ | refine Wr.u8 (by omega) (by omega) ?_ | refine Wr.u64 (by omega) (by omega) ?_ | refine Wr.u32 (by omega) (by omega) ?_ | refine Dv.pos (by omega) (by omega) ?_ | refine Rm.pos (by omega) (by omega) ?_ | refine ADraw.quiet follows_ok (by kernel_rfl) rfl ?_ | refine BSpl.decY (by first | assumption | omega) ?_ | refine BSpl.decN (by first | assumption | omega) ?_ | refine BSpl.dec (fun _ => ?_) (fun _ => ?_) | refine BSpl.yes (by assumption) ?_ | refine BSpl.no (by assumption) ?_ | refine BSpl.mk (fun _ => ?_) (fun _ => ?_))
  all_goals (conv => whnf)
  all_goals (refine MRet.auto rfl rfl ⟨⟨_, rfl, OEq.rd ?_ ?_⟩, trivial⟩ rfl rfl (AEq.int ?_))
  all_goals (unfold octR; simp only [Int.toNat_natCast] at *; grind)

set_option maxRecDepth 100000 in
theorem number_m (bs : List UInt8) (u : Nat) (x lo hi : Int) (hl : bs.length ≤ 1000000000) (hu : u ≤ bs.length) (h0 : 0 ≤ lo) (h1 : lo ≤ hi) (h2 : hi ≤ 16777216) :
    MSpec Try.prog 94 [(0, rdT bs (u, x))] [.box 0 0, .v (.int .i64 lo), .v (.int .i64 hi)] (.v (.int .i64 (numR bs lo hi (u, x)).1)) [(0, rdT bs (numR bs lo hi (u, x)).2)] := by
  unfold rdT
  dsimp only
  have hv := rtake_le (bs.drop u)
  rw [List.length_drop] at hv
  have hs := rtake_spec (n := bs.length - u) (bs.drop u) ((IsB.bytes bs).drop u) (by simp) (by simp; omega)
  obtain ⟨⟨v, k, e⟩, hr⟩ : ∃ p, rtake (bs.drop u) = p := ⟨_, rfl⟩
  unfold numR
  rw [hr] at hv hs ⊢
  dsimp only at hv hs ⊢
  refine mspec_of lay_ok 9007200328500167 10 Try.func94 rfl rfl rfl ?_
  repeat' ((conv => whnf); first | refine Spl.yes (by first | assumption | omega) ?_ | refine Spl.no (by first | assumption | omega) ?_ | refine Wr.i64 (by omega) (by omega) ?_ | refine Still.mk rfl rfl ?_ | refine InB.mk (inB_mk (by omega) (by omega)) ?_ | refine Req.mk (by omega) ?_ | refine Req.mk ⟨by first | omega | (dsimp only; omega), by first | omega | (dsimp only; omega)⟩ ?_ | refine ACall.plain _ _ (hs) (SubL.cons (.eq _) .nil) rfl ?_ | refine Spl.mk (fun _ => ?_) (fun _ => ?_) | refine Wr.b64 ?_ | refine Wr.bu64 ?_ | refine Wr.bu32 ?_ | refine Wr.bu8 ?_ | refine Wr.u8 (by omega) (by omega) ?_ | refine Wr.u64 (by omega) (by omega) ?_ | refine Wr.u32 (by omega) (by omega) ?_ | refine Dv.pos (by omega) (by omega) ?_ | refine Rm.pos (by omega) (by omega) ?_ | refine ADraw.quiet follows_ok (by kernel_rfl) rfl ?_ | refine ADraw.sched (id := 3) lay_ok (awp_snd lay_ok _) [(0, none), (1, none), (2, none), (3, none), (4, none), (5, none), (6, none), (7, none), (8, none), (9, some [7, 5, 3, 1]), (10, none), (11, none), (12, none), (13, none), (14, none), (15, none), (16, none)] [(2, [1]), (3, [1]), (6, [5]), (7, [5]), (8, [7, 5, 3, 1]), (9, [7, 5, 3, 1]), (10, [7, 5, 3, 1]), (11, [7, 5, 3, 1]), (12, [7, 5, 3, 1]), (13, [7, 5, 3, 1]), (14, [7, 5, 3, 1]), (15, [7, 5, 3, 1]), (16, [7, 5, 3, 1])] follows_ok (by kernel_rfl) ?_ | refine BSpl.decY (by first | assumption | omega) ?_ | refine BSpl.decN (by first | assumption | omega) ?_ | refine BSpl.dec (fun _ => ?_) (fun _ => ?_) | refine BSpl.yes (by assumption) ?_ | refine BSpl.no (by assumption) ?_ | refine BSpl.mk (fun _ => ?_) (fun _ => ?_))
  all_goals (conv => whnf)
  all_goals (refine MRet.auto rfl rfl ⟨⟨_, rfl, OEq.rd ?_ ?_⟩, trivial⟩ rfl rfl (AEq.int ?_))
  all_goals (simp only [hr] at *; grind)

set_option maxRecDepth 100000 in
theorem words_m (bs : List UInt8) (u : Nat) (x sz : Int) (hl : bs.length ≤ 1000000000) (hu : u ≤ bs.length) (h0 : 0 ≤ sz) (h2 : sz ≤ 16777216) :
    MSpec Try.prog 95 [(0, rdT bs (u, x))] [.box 0 0, .v (.int .i64 sz)] (.v (.string (wordR bs sz (u, x)).1)) [(0, rdT bs (wordR bs sz (u, x)).2)] := by
  unfold rdT
  dsimp only
  obtain ⟨z, rfl⟩ := Int.eq_ofNat_of_zero_le h0
  refine mspec_of lay_ok 4195379 10 Try.func95 rfl rfl rfl ?_
  repeat' ((conv => whnf); first | refine Spl.yes (by first | assumption | omega) ?_ | refine Spl.no (by first | assumption | omega) ?_ | refine Wr.i64 (by omega) (by omega) ?_ | refine Still.mk rfl rfl ?_ | refine InB.mk (inB_mk (by omega) (by omega)) ?_ | refine Req.mk (by omega) ?_ | refine Req.mk ⟨by first | omega | (dsimp only; omega), by first | omega | (dsimp only; omega)⟩ ?_ | refine Bs.of ((bs.drop u).take z) (((IsB.bytes bs).drop u).take z) (by rw [List.length_take, List.length_drop]; omega) ?_ | refine Spl.mk (fun _ => ?_) (fun _ => ?_) | refine Wr.b64 ?_ | refine Wr.bu64 ?_ | refine Wr.bu32 ?_ | refine Wr.bu8 ?_ | refine Wr.u8 (by omega) (by omega) ?_ | refine Wr.u64 (by omega) (by omega) ?_ | refine Wr.u32 (by omega) (by omega) ?_ | refine Dv.pos (by omega) (by omega) ?_ | refine Rm.pos (by omega) (by omega) ?_ | refine ADraw.quiet follows_ok (by kernel_rfl) rfl ?_ | refine ADraw.sched (id := 6) lay_ok (awp_snd lay_ok _) [(0, none), (1, none), (2, none), (3, none), (4, none), (5, none), (6, none), (7, none), (8, none), (9, none), (10, none), (11, none), (12, none), (13, none), (14, none), (15, none), (16, none)] [] follows_ok (by kernel_rfl) ?_ | refine BSpl.decY (by first | assumption | omega) ?_ | refine BSpl.decN (by first | assumption | omega) ?_ | refine BSpl.dec (fun _ => ?_) (fun _ => ?_) | refine BSpl.yes (by assumption) ?_ | refine BSpl.no (by assumption) ?_ | refine BSpl.mk (fun _ => ?_) (fun _ => ?_))
  all_goals (conv => whnf)
  all_goals (refine MRet.auto rfl rfl ⟨⟨_, rfl, OEq.rd ?_ ?_⟩, trivial⟩ rfl rfl (AEq.str ?_))
  all_goals (unfold wordR; first | (simp only [cutB, Int.toNat_natCast] at *; grind) | grind)

theorem octR_z {bs : List UInt8} {lo hi c : Int} {s s' : St} (h : octR bs lo hi s = (c, s')) (h0 : s'.2 = 0) : s.2 = 0 ∧ lo ≤ c ∧ c ≤ hi := by
  unfold octR at h
  split at h
  · cases h
    exact absurd h0 ‹_›
  · split at h
    · cases h
      cases h0
    · split at h
      · cases h
        exact ⟨by omega, by assumption⟩
      · cases h
        cases h0
theorem numR_z {bs : List UInt8} {lo hi c : Int} {s s' : St} (h : numR bs lo hi s = (c, s')) (h0 : s'.2 = 0) : s.2 = 0 := by
  unfold numR at h
  split at h
  · cases h
    exact absurd h0 ‹_›
  · omega
theorem wordR_z {bs : List UInt8} {sz : Int} {c : ByteArray} {s s' : St} (h : wordR bs sz s = (c, s')) (h0 : s'.2 = 0) : s.2 = 0 := by
  unfold wordR at h
  split at h
  · cases h
    exact absurd h0 ‹_›
  · omega
theorem octR_to {bs : List UInt8} {lo hi c : Int} {s s' : St} (h : octR bs lo hi s = (c, s')) (hu : s.1 ≤ bs.length) : s'.1 ≤ bs.length ∧ (0 ≤ c ∧ c ≤ 255) := by
  have := UInt8.toNat_lt (bs.getD s.1 0)
  unfold octR at h
  split at h
  · cases h
    exact ⟨hu, by omega⟩
  · split at h
    · cases h
      exact ⟨hu, by omega⟩
    · split at h <;> cases h <;> exact ⟨by dsimp only; omega, by omega⟩
theorem numR_to {bs : List UInt8} {lo hi c : Int} {s s' : St} (h : numR bs lo hi s = (c, s')) (hu : s.1 ≤ bs.length) (_h0 : 0 ≤ lo) (h1 : 0 ≤ hi) : s'.1 ≤ bs.length ∧ (0 ≤ c ∧ c ≤ hi) := by
  have hv := rtake_le (bs.drop s.1)
  rw [List.length_drop] at hv
  unfold numR at h
  split at h
  · cases h
    exact ⟨hu, by omega⟩
  · split at h
    · cases h
      exact ⟨hu, by omega⟩
    · split at h
      · cases h
        exact ⟨by dsimp only; omega, by omega⟩
      · cases h
        exact ⟨by dsimp only; omega, by omega⟩
theorem wordR_to {bs : List UInt8} {sz : Int} {c : ByteArray} {s s' : St} (h : wordR bs sz s = (c, s')) (hu : s.1 ≤ bs.length) (_h0 : 0 ≤ sz) : s'.1 ≤ bs.length := by
  unfold wordR at h
  split at h
  · cases h
    exact hu
  · split at h
    · cases h
      exact hu
    · cases h
      dsimp only
      omega
theorem octR_of {bs : List UInt8} {lo hi c : Int} {s s' : St} (h : octS bs lo hi s = (c, s')) (h0 : s'.2 = 0) : octR bs lo hi s = (c, s') := by
  unfold octS at h
  unfold octR
  split at h
  · cases h
    exact absurd h0 ‹_›
  · rename_i h1
    rw [if_neg h1]
    split at h
    · cases h
      cases h0
    · rename_i h2
      rw [if_neg h2]
      split at h
      · rename_i h3
        rw [if_pos h3]
        exact h
      · cases h
        cases h0
theorem numR_of {bs : List UInt8} {lo hi c : Int} {s s' : St} (h : numS bs lo hi s = (c, s')) (h0 : s'.2 = 0) (hb : hi ≤ 4294967296) : numR bs lo hi s = (c, s') := by
  unfold numS at h
  unfold numR
  split at h
  · cases h
    exact absurd h0 ‹_›
  · rename_i h1
    rw [if_neg h1]
    obtain ⟨⟨m, k, e⟩, hv⟩ : ∃ p, vtake (bs.drop s.1) = p := ⟨_, rfl⟩
    rw [hv] at h
    dsimp only at h
    split at h
    · cases h
      exact absurd h0 ‹_›
    · rename_i h2
      obtain rfl : e = 0 := by omega
      split at h
      · rename_i h3
        obtain ⟨h4, h5, h6⟩ := vtake_ok hv
        have e1 : bs.drop s.1 = vput m ++ (bs.drop s.1).drop k := by rw [← h6, List.take_append_drop]
        rw [e1, rtake_put m _ (by omega), ← h4]
        dsimp only
        rw [if_neg (by omega), if_pos h3]
        exact h
      · cases h
        cases h0
theorem wordR_of {bs : List UInt8} {sz : Int} {may : ByteArray → Int} {c : ByteArray} {s s' : St} (h : wordS bs sz may s = (c, s')) (h0 : s'.2 = 0) : wordR bs sz s = (c, s') ∧ may c = 0 := by
  unfold wordS at h
  unfold wordR
  split at h
  · cases h
    exact absurd h0 ‹_›
  · rename_i h1
    rw [if_neg h1]
    split at h
    · cases h
      cases h0
    · rename_i h2
      rw [if_neg h2]
      cases h
      dsimp only at h0
      split at h0
      · rename_i h3
        exact ⟨by rw [if_pos h3], h3⟩
      · cases h0
theorem wordS_z' {bs : List UInt8} {sz : Int} {may : ByteArray → Int} {c : ByteArray} {s s' : St} (h : wordS bs sz may s = (c, s')) (h0 : s'.2 = 0) : s.2 = 0 := wordS_z h h0

theorem one_e (bs : List UInt8) (s s' : St) (lo hi c : Int) (h : octR bs lo hi s = (c, s')) (hl : bs.length ≤ 1000000000) (hu : s.1 ≤ bs.length) :
    MSpec Try.prog 93 [(0, .box 120 [.sl 1 bs.length true (bytesF bs), .v (.int .i64 (s.1 : Int)), .v (.int .i64 s.2)])] [.box 0 0, .v (.int .i64 lo), .v (.int .i64 hi)] (.v (.int .i64 c)) [(0, .box 120 [.sl 1 bs.length true (bytesF bs), .v (.int .i64 (s'.1 : Int)), .v (.int .i64 s'.2)])] := by
  have := one_m bs s.1 s.2 lo hi hl hu
  rw [show (s.1, s.2) = s from rfl, h] at this
  exact this
theorem num_e (bs : List UInt8) (s s' : St) (lo hi c : Int) (h : numR bs lo hi s = (c, s')) (hl : bs.length ≤ 1000000000) (hu : s.1 ≤ bs.length) (h0 : 0 ≤ lo) (h1 : lo ≤ hi) (h2 : hi ≤ 16777216) :
    MSpec Try.prog 94 [(0, .box 120 [.sl 1 bs.length true (bytesF bs), .v (.int .i64 (s.1 : Int)), .v (.int .i64 s.2)])] [.box 0 0, .v (.int .i64 lo), .v (.int .i64 hi)] (.v (.int .i64 c)) [(0, .box 120 [.sl 1 bs.length true (bytesF bs), .v (.int .i64 (s'.1 : Int)), .v (.int .i64 s'.2)])] := by
  have := number_m bs s.1 s.2 lo hi hl hu h0 h1 h2
  rw [show (s.1, s.2) = s from rfl, h] at this
  exact this
theorem wrd_e (bs : List UInt8) (s s' : St) (sz : Int) (c : ByteArray) (h : wordR bs sz s = (c, s')) (hl : bs.length ≤ 1000000000) (hu : s.1 ≤ bs.length) (h0 : 0 ≤ sz ∧ sz ≤ 255) :
    MSpec Try.prog 95 [(0, .box 120 [.sl 1 bs.length true (bytesF bs), .v (.int .i64 (s.1 : Int)), .v (.int .i64 s.2)])] [.box 0 0, .v (.int .i64 sz)] (.v (.string c)) [(0, .box 120 [.sl 1 bs.length true (bytesF bs), .v (.int .i64 (s'.1 : Int)), .v (.int .i64 s'.2)])] := by
  have := words_m bs s.1 s.2 sz hl hu h0.1 (by omega)
  rw [show (s.1, s.2) = s from rfl, h] at this
  exact this

def resR (s : St) (e : Ev) : Ev × Nat × Int := if s.2 = 0 then (e, s.1, 0) else (zeroEv, 0, s.2)
theorem resR_ok {s : St} {e : Ev} (h : s.2 = 0) : resR s e = (e, s.1, 0) := if_pos h
theorem resR_no {s : St} {e : Ev} (h : ¬ s.2 = 0) : resR s e = (zeroEv, 0, s.2) := if_neg h
theorem resR_le {bs : List UInt8} {s : St} {e : Ev} (h : s.1 ≤ bs.length) : (resR s e).2.1 ≤ bs.length := by
  unfold resR
  split
  · exact h
  · exact Nat.zero_le _
theorem clkAt_z {bs : List UInt8} {r : Int} {s : St} : ∀ j, (clkAt bs r s j).2.2 = 0 → s.2 = 0
  | 0, h => h
  | j + 1, h => by
    refine clkAt_z (bs := bs) (r := r) j ?_
    have h : (skipS bs r j (clkAt bs r s j).2).2.2 = 0 := h
    unfold skipS at h
    split at h
    · exact h
    · exact numS_z (rfl : numS bs 0 1048576 (clkAt bs r s j).2 = (_, _)) h
/-- What the reference tells of these bytes. -/
def RefE (bs : List UInt8) (p : Ev × Nat × Int) : Prop :=
  ASpec Try.prog 85 [.sl 1 bs.length true (bytesF bs)] (tkR p) [] ∧ p.2.1 ≤ bs.length ∧ ∀ e m, takeE bs = (e, m, 0) → p = (e, m, 0)

theorem takeE_field {bs : List UInt8} {e : Ev} {m : Nat} (h : takeE bs = (e, m, 0)) : fieldS bs (0, 0) = (e, (m, 0)) := by
  unfold takeE at h
  split at h
  · rename_i h1
    simp only [Prod.mk.injEq] at h
    exact absurd h.2.2 h1
  · rename_i h1
    obtain ⟨⟨a, b, c⟩, hf⟩ : ∃ p, fieldS bs (0, 0) = p := ⟨_, rfl⟩
    rw [hf] at h h1 ⊢
    dsimp only at h h1
    obtain rfl : c = 0 := by omega
    cases h
    rfl

end Go.Proofs.Ytbmojelnkldecaa
