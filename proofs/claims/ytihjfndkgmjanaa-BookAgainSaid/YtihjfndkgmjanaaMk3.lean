/-
  What the laws of layer 9 use beside: the first 40 choices, all that the others have, contacts but that of a key, where a contact stands.
-/
import Derived.Test.YtihjfndkgmjanaaBkI
import Derived.Test.YtihjfndkgmjanaaBkQ
namespace Go.Proofs.Ytihjfndkgmjanaa
open Go.RowKit

theorem short_spec (l : List Ch0) : ASpec Try.prog 23 [.sl 7 l.length true (chF l)] (.sl 7 (l.take 40).length true (chF (l.take 40))) [] := by
  have hn : (if (40 : Int) < (l.length : Int) then (40 : Int) else (l.length : Int)).toNat = (l.take 40).length := by
    rw [List.length_take]
    split <;> omega
  refine aspec_of lay_ok 5 Try.func23 rfl rfl rfl ?_
  repeat' ((conv => whnf); first | refine Spl.yes (by first | assumption | omega) ?_ | refine Spl.no (by first | assumption | omega) ?_ | refine Wr.i64 (by omega) (by omega) ?_ | refine Still.mk rfl rfl ?_ | refine InB.mk (inB_mk (by omega) (by omega)) ?_ | refine Req.mk (by omega) ?_ | refine Req.mk ⟨by first | omega | (dsimp only; omega), by first | omega | (dsimp only; omega)⟩ ?_ | refine InB.mk (inB_mk (by split <;> omega) (by split <;> omega)) ?_ | refine ARet.hdI ?_ | refine Spl.mk (fun _ => ?_) (fun _ => ?_) | refine InA.mk (inB_mk (by omega) (by omega)) ?_ | refine Wr.b64 ?_ | refine Wr.bu64 ?_ | refine Wr.bu32 ?_ | refine Wr.bu8 ?_ | refine Wr.u8 (by omega) (by omega) ?_ | refine Wr.u64 (by omega) (by omega) ?_ | refine Wr.u32 (by omega) (by omega) ?_ | refine Dv.pos (by omega) (by omega) ?_ | refine Rm.pos (by omega) (by omega) ?_ | refine ADraw.quiet follows_ok (by kernel_rfl) rfl ?_ | refine BSpl.decY (by first | assumption | omega) ?_ | refine BSpl.decN (by first | assumption | omega) ?_ | refine BSpl.dec (fun _ => ?_) (fun _ => ?_) | refine BSpl.yes (by assumption) ?_ | refine BSpl.no (by assumption) ?_ | refine BSpl.mk (fun _ => ?_) (fun _ => ?_))
  conv => whnf
  refine AEqI.mk ?_
  rw [hn]
  refine AEq.slF fun i hi => ?_
  rw [List.length_take] at hi
  show Ch0.cs _ = Ch0.cs _
  rw [List.getD, List.getD, List.getElem?_take_of_lt (by omega)]

def syn (f : Int) : Ch0 := ⟨0, f, true, 0, ⟨#[]⟩, 0, ⟨#[]⟩⟩
def everyL : List Ch0 := [syn 1, syn 2, syn 3, syn 4]
set_option maxRecDepth 100000 in
theorem every_spec : ASpec Try.prog 24 [] (.sl 7 4 true (chF everyL)) [] := by
  refine aspec_of lay_ok 1 Try.func24 rfl rfl rfl ?_
  repeat' ((conv => whnf); first | refine Spl.yes (by first | assumption | omega) ?_ | refine Spl.no (by first | assumption | omega) ?_ | refine Wr.i64 (by omega) (by omega) ?_ | refine Still.mk rfl rfl ?_ | refine InB.mk (inB_mk (by omega) (by omega)) ?_ | refine Req.mk (by omega) ?_ | refine Req.mk ⟨by first | omega | (dsimp only; omega), by first | omega | (dsimp only; omega)⟩ ?_ | refine ARet.hdI ?_ | refine Spl.mk (fun _ => ?_) (fun _ => ?_) | refine InA.mk (inB_mk (by omega) (by omega)) ?_ | refine Wr.b64 ?_ | refine Wr.bu64 ?_ | refine Wr.bu32 ?_ | refine Wr.bu8 ?_ | refine Wr.u8 (by omega) (by omega) ?_ | refine Wr.u64 (by omega) (by omega) ?_ | refine Wr.u32 (by omega) (by omega) ?_ | refine Dv.pos (by omega) (by omega) ?_ | refine Rm.pos (by omega) (by omega) ?_ | refine ADraw.quiet follows_ok (by kernel_rfl) rfl ?_ | refine BSpl.decY (by first | assumption | omega) ?_ | refine BSpl.decN (by first | assumption | omega) ?_ | refine BSpl.dec (fun _ => ?_) (fun _ => ?_) | refine BSpl.yes (by assumption) ?_ | refine BSpl.no (by assumption) ?_ | refine BSpl.mk (fun _ => ?_) (fun _ => ?_))
  conv => whnf
  refine AEqI.mk (AEq.slF (n := 4) fun i hi => ?_)
  have hi : i < 4 := hi
  rcases (show i = 0 ∨ i = 1 ∨ i = 2 ∨ i = 3 by omega) with rfl | rfl | rfl | rfl
  all_goals rfl

theorem filter_tk {α : Type} [Inhabited α] {p : α → Bool} {l : List α} {j : Nat} (hj : j < l.length) : (l.take (j + 1)).filter p = (l.take j).filter p ++ (if p (l.getD (j : Int).toNat default) = true then [l.getD (j : Int).toNat default] else []) := by
  rw [Int.toNat_natCast, List.take_add_one, List.getElem?_eq_getElem hj, List.getD, List.getElem?_eq_getElem hj, List.filter_append]
  congr 1
  show [l[j]].filter p = _
  rw [List.filter_cons]
  rfl
/-- A loop that takes what is wanted of a row. -/
abbrev Tk {α : Type} (p : α → Bool) (l : List α) : Type := { x : Nat × List α // x.1 ≤ l.length ∧ x.2 = (l.take x.1).filter p }
theorem tk_len {α : Type} {p : α → Bool} {l : List α} {j : Nat} {T : List α} (h : T = (l.take j).filter p) : T.length ≤ l.length := by
  have := List.length_filter_le p (l.take j)
  rw [List.length_take] at this
  rw [h]
  omega
theorem len_app {α : Type} {l : List α} {x : α} : l.length + 1 = (l ++ [x]).length := by rw [List.length_append, List.length_singleton]

def woP (key : ByteArray) (c : Cont) : Bool := !decide (c.key = key)
def woL (l : List Cont) (key : ByteArray) : List Cont := l.filter (woP key)
set_option maxHeartbeats 4000000 in
set_option maxRecDepth 100000 in
theorem without_spec (l : List Cont) (key : ByteArray) (hl : l.length ≤ 1000000000) :
    ASpec Try.prog 26 [.sl 7 l.length false (coF l), .v (.string key)] (.sl 7 (woL l key).length false (coF (woL l key))) [] := by
  refine aspec_of lay_ok 1050739 Try.func26 rfl rfl rfl ?_
  repeat' ((conv => whnf); first | refine Spl.yes (by first | assumption | omega) ?_ | refine Spl.no (by first | assumption | omega) ?_ | refine Wr.i64 (by omega) (by omega) ?_ | refine Still.mk rfl rfl ?_ | refine InB.mk (inB_mk (by omega) (by omega)) ?_ | refine Req.mk (by omega) ?_ | refine Req.mk ⟨by first | omega | (dsimp only; omega), by first | omega | (dsimp only; omega)⟩ ?_ | refine ARet.hdI ?_ | refine Spl.mk (fun _ => ?_) (fun _ => ?_) | refine InA.mk (inB_mk (by omega) (by omega)) ?_ | refine Wr.b64 ?_ | refine Wr.bu64 ?_ | refine Wr.bu32 ?_ | refine Wr.bu8 ?_ | refine Wr.u8 (by omega) (by omega) ?_ | refine Wr.u64 (by omega) (by omega) ?_ | refine Wr.u32 (by omega) (by omega) ?_ | refine Dv.pos (by omega) (by omega) ?_ | refine Rm.pos (by omega) (by omega) ?_ | refine ADraw.quiet follows_ok (by kernel_rfl) rfl ?_ | refine BSpl.decY (by first | assumption | omega) ?_ | refine BSpl.decN (by first | assumption | omega) ?_ | refine BSpl.dec (fun _ => ?_) (fun _ => ?_) | refine BSpl.yes (by assumption) ?_ | refine BSpl.no (by assumption) ?_ | refine BSpl.mk (fun _ => ?_) (fun _ => ?_))
  conv => whnf
  refine ALoop.mk (Tk (woP key) l) (fun x => ⟨[(0, .sl 7 l.length false (coF l)), (1, .v (.string key)), (5, .own 90), (6, .v (.int .i64 (x.1.1 : Int)))],
      [(90, .row 40 7 x.1.2.length false (coF x.1.2))], [], 92⟩) (fun x => l.length - x.1.1) ⟨(0, []), Nat.zero_le _, rfl⟩ _
    (LeR.mk' [(0, 90)] _ _ _ rfl ⟨AEq.refl _, AEq.refl _, AEq.refl _, AEq.int rfl, trivial⟩ ⟨⟨_, rfl, OEq.rowF rfl (fun i hi => absurd hi (Nat.not_lt_zero i))⟩, trivial⟩ rfl) ?_
  rintro ⟨⟨j, T⟩, hj, hT⟩
  dsimp only at hj hT ⊢
  have hTl := tk_len hT
  by_cases hjl : j < l.length
  · have hft := filter_tk (p := woP key) hjl
    rw [← hT] at hft
    have k1 : ¬ (l.getD (j : Int).toNat default).key = key → T ++ [l.getD (j : Int).toNat default] = (l.take (j + 1)).filter (woP key) := fun h => by
      rw [hft, if_pos (by unfold woP; rw [decide_eq_false h]; rfl)]
    have k2 : (l.getD (j : Int).toNat default).key = key → T = (l.take (j + 1)).filter (woP key) := fun h => by
      rw [hft, if_neg (by unfold woP; rw [decide_eq_true h]; simp), List.append_nil]
    clear hft hT
    repeat' ((conv => whnf); first | refine Spl.yes (by first | assumption | omega) ?_ | refine Spl.no (by first | assumption | omega) ?_ | refine Wr.i64 (by omega) (by omega) ?_ | refine Still.mk rfl rfl ?_ | refine InB.mk (inB_mk (by omega) (by omega)) ?_ | refine Req.mk (by omega) ?_ | refine Req.mk ⟨by first | omega | (dsimp only; omega), by first | omega | (dsimp only; omega)⟩ ?_ | refine ARet.hdI ?_ | refine Spl.mk (fun _ => ?_) (fun _ => ?_) | refine InA.mk (inB_mk (by omega) (by omega)) ?_ | refine Wr.b64 ?_ | refine Wr.bu64 ?_ | refine Wr.bu32 ?_ | refine Wr.bu8 ?_ | refine Wr.u8 (by omega) (by omega) ?_ | refine Wr.u64 (by omega) (by omega) ?_ | refine Wr.u32 (by omega) (by omega) ?_ | refine Dv.pos (by omega) (by omega) ?_ | refine Rm.pos (by omega) (by omega) ?_ | refine ADraw.quiet follows_ok (by kernel_rfl) rfl ?_ | refine BSpl.decY (by first | assumption | omega) ?_ | refine BSpl.decN (by first | assumption | omega) ?_ | refine BSpl.dec (fun _ => ?_) (fun _ => ?_) | refine BSpl.yes (by assumption) ?_ | refine BSpl.no (by assumption) ?_ | refine BSpl.mk (fun _ => ?_) (fun _ => ?_))
    all_goals (conv => whnf)
    all_goals first
      | (refine ⟨⟨(j + 1, _), hjl, k1 (by assumption)⟩, _, LeR.mk' [(93, 90)] _ _ _ rfl ⟨AEq.refl _, AEq.refl _, AEq.refl _, AEq.int rfl, trivial⟩ ⟨⟨_, rfl, OEq.row len_app (fun m hm => ?_)⟩, trivial⟩ rfl, Nat.sub_succ_lt_self _ _ hjl⟩
         exact els_app1 (c := Cont.cs) (l := T) rfl rfl m hm)
      | exact ⟨⟨(j + 1, _), hjl, k2 (by first | assumption | exact Classical.byContradiction (by assumption))⟩, _, LeR.mk' [] _ _ _ rfl ⟨AEq.refl _, AEq.refl _, AEq.refl _, AEq.int rfl, trivial⟩ ⟨⟨_, rfl, OEq.refl _⟩, trivial⟩ rfl, Nat.sub_succ_lt_self _ _ hjl⟩
  · rw [List.take_of_length_le (show l.length ≤ j by omega)] at hT
    have hR : woL l key = T := hT.symm
    rw [hR]
    repeat' ((conv => whnf); first | refine Spl.yes (by first | assumption | omega) ?_ | refine Spl.no (by first | assumption | omega) ?_ | refine Wr.i64 (by omega) (by omega) ?_ | refine Still.mk rfl rfl ?_ | refine InB.mk (inB_mk (by omega) (by omega)) ?_ | refine Req.mk (by omega) ?_ | refine Req.mk ⟨by first | omega | (dsimp only; omega), by first | omega | (dsimp only; omega)⟩ ?_ | refine ARet.hdI ?_ | refine Spl.mk (fun _ => ?_) (fun _ => ?_) | refine InA.mk (inB_mk (by omega) (by omega)) ?_ | refine Wr.b64 ?_ | refine Wr.bu64 ?_ | refine Wr.bu32 ?_ | refine Wr.bu8 ?_ | refine Wr.u8 (by omega) (by omega) ?_ | refine Wr.u64 (by omega) (by omega) ?_ | refine Wr.u32 (by omega) (by omega) ?_ | refine Dv.pos (by omega) (by omega) ?_ | refine Rm.pos (by omega) (by omega) ?_ | refine ADraw.quiet follows_ok (by kernel_rfl) rfl ?_ | refine BSpl.decY (by first | assumption | omega) ?_ | refine BSpl.decN (by first | assumption | omega) ?_ | refine BSpl.dec (fun _ => ?_) (fun _ => ?_) | refine BSpl.yes (by assumption) ?_ | refine BSpl.no (by assumption) ?_ | refine BSpl.mk (fun _ => ?_) (fun _ => ?_))
    conv => whnf
    exact AEqI.mk (AEq.refl _)

/-! ### Where a contact stands -/
def placeN (l : List Cont) (key : ByteArray) : Nat := l.findIdx fun c => decide (c.key = key)
def placeI (l : List Cont) (key : ByteArray) : Int := if placeN l key < l.length then (placeN l key : Int) else -1
theorem place_here {l : List Cont} {key : ByteArray} {j : Nat} (hj : j < l.length) (h : (l.getD j default).key = key) (hn : ∀ i, i < j → ¬ (l.getD i default).key = key) : placeI l key = (j : Int) := by
  have e : placeN l key = j := by
    refine (List.findIdx_eq hj).2 ⟨?_, fun i hi => ?_⟩
    · rw [List.getD, List.getElem?_eq_getElem hj] at h
      exact decide_eq_true h
    · have := hn i hi
      rw [List.getD, List.getElem?_eq_getElem (show i < l.length by omega)] at this
      exact decide_eq_false this
  rw [placeI, e, if_pos hj]
theorem place_not {l : List Cont} {key : ByteArray} (hn : ∀ i, i < l.length → ¬ (l.getD i default).key = key) : placeI l key = -1 := by
  have e : placeN l key = l.length := by
    refine List.findIdx_eq_length.2 fun x hx => ?_
    obtain ⟨i, hi, rfl⟩ := List.getElem_of_mem hx
    have := hn i hi
    rw [List.getD, List.getElem?_eq_getElem hi] at this
    exact decide_eq_false this
  rw [placeI, e, if_neg (by omega)]
set_option maxHeartbeats 4000000 in
set_option maxRecDepth 100000 in
theorem place_spec (l : List Cont) (key : ByteArray) (hl : l.length ≤ 1000000000) :
    ASpec Try.prog 25 [.sl 7 l.length false (coF l), .v (.string key)] (.v (.int .i64 (placeI l key))) [] := by
  have h1 := fun {j : Nat} => place_here (l := l) (key := key) (j := j)
  have h2 := place_not (l := l) (key := key)
  generalize placeI l key = R at h1 h2
  refine aspec_of lay_ok 262707 Try.func25 rfl rfl rfl ?_
  repeat' ((conv => whnf); first | refine Spl.yes (by first | assumption | omega) ?_ | refine Spl.no (by first | assumption | omega) ?_ | refine Wr.i64 (by omega) (by omega) ?_ | refine Still.mk rfl rfl ?_ | refine InB.mk (inB_mk (by omega) (by omega)) ?_ | refine Req.mk (by omega) ?_ | refine Req.mk ⟨by first | omega | (dsimp only; omega), by first | omega | (dsimp only; omega)⟩ ?_ | refine ARet.hdI ?_ | refine Spl.mk (fun _ => ?_) (fun _ => ?_) | refine InA.mk (inB_mk (by omega) (by omega)) ?_ | refine Wr.b64 ?_ | refine Wr.bu64 ?_ | refine Wr.bu32 ?_ | refine Wr.bu8 ?_ | refine Wr.u8 (by omega) (by omega) ?_ | refine Wr.u64 (by omega) (by omega) ?_ | refine Wr.u32 (by omega) (by omega) ?_ | refine Dv.pos (by omega) (by omega) ?_ | refine Rm.pos (by omega) (by omega) ?_ | refine ADraw.quiet follows_ok (by kernel_rfl) rfl ?_ | refine BSpl.decY (by first | assumption | omega) ?_ | refine BSpl.decN (by first | assumption | omega) ?_ | refine BSpl.dec (fun _ => ?_) (fun _ => ?_) | refine BSpl.yes (by assumption) ?_ | refine BSpl.no (by assumption) ?_ | refine BSpl.mk (fun _ => ?_) (fun _ => ?_))
  conv => whnf
  refine ALoop.mk { j : Nat // j ≤ l.length ∧ ∀ i, i < j → ¬ (l.getD i default).key = key } (fun j => ⟨[(0, .sl 7 l.length false (coF l)), (1, .v (.string key)), (5, .v (.int .i64 (j.1 : Int)))], [], [], 0⟩) (fun j => l.length - j.1) ⟨0, Nat.zero_le _, fun i h => absurd h (Nat.not_lt_zero i)⟩ _
    (LeR.mk' [] _ _ _ rfl ⟨AEq.refl _, AEq.refl _, AEq.int rfl, trivial⟩ trivial rfl) ?_
  rintro ⟨j, hj, hall⟩
  dsimp only
  by_cases hjl : j < l.length
  · by_cases hk : (l.getD (j : Int).toNat default).key = key
    · rw [h1 hjl hk hall]
      repeat' ((conv => whnf); first | refine Spl.yes (by first | assumption | omega) ?_ | refine Spl.no (by first | assumption | omega) ?_ | refine Wr.i64 (by omega) (by omega) ?_ | refine Still.mk rfl rfl ?_ | refine InB.mk (inB_mk (by omega) (by omega)) ?_ | refine Req.mk (by omega) ?_ | refine Req.mk ⟨by first | omega | (dsimp only; omega), by first | omega | (dsimp only; omega)⟩ ?_ | refine ARet.hdI ?_ | refine Spl.mk (fun _ => ?_) (fun _ => ?_) | refine InA.mk (inB_mk (by omega) (by omega)) ?_ | refine Wr.b64 ?_ | refine Wr.bu64 ?_ | refine Wr.bu32 ?_ | refine Wr.bu8 ?_ | refine Wr.u8 (by omega) (by omega) ?_ | refine Wr.u64 (by omega) (by omega) ?_ | refine Wr.u32 (by omega) (by omega) ?_ | refine Dv.pos (by omega) (by omega) ?_ | refine Rm.pos (by omega) (by omega) ?_ | refine ADraw.quiet follows_ok (by kernel_rfl) rfl ?_ | refine BSpl.decY (by first | assumption | omega) ?_ | refine BSpl.decN (by first | assumption | omega) ?_ | refine BSpl.dec (fun _ => ?_) (fun _ => ?_) | refine BSpl.yes (by assumption) ?_ | refine BSpl.no (by assumption) ?_ | refine BSpl.mk (fun _ => ?_) (fun _ => ?_))
      all_goals (conv => whnf)
      all_goals first
        | exact AEqI.mk (AEq.refl _)
        | exact absurd hk (by assumption)
    · have hup : ∀ i, i < j + 1 → ¬ (l.getD i default).key = key := fun i hi => by
        rcases Nat.lt_or_ge i j with h' | h'
        · exact hall i h'
        · obtain rfl : i = j := by omega
          exact hk
      repeat' ((conv => whnf); first | refine Spl.yes (by first | assumption | omega) ?_ | refine Spl.no (by first | assumption | omega) ?_ | refine Wr.i64 (by omega) (by omega) ?_ | refine Still.mk rfl rfl ?_ | refine InB.mk (inB_mk (by omega) (by omega)) ?_ | refine Req.mk (by omega) ?_ | refine Req.mk ⟨by first | omega | (dsimp only; omega), by first | omega | (dsimp only; omega)⟩ ?_ | refine ARet.hdI ?_ | refine Spl.mk (fun _ => ?_) (fun _ => ?_) | refine InA.mk (inB_mk (by omega) (by omega)) ?_ | refine Wr.b64 ?_ | refine Wr.bu64 ?_ | refine Wr.bu32 ?_ | refine Wr.bu8 ?_ | refine Wr.u8 (by omega) (by omega) ?_ | refine Wr.u64 (by omega) (by omega) ?_ | refine Wr.u32 (by omega) (by omega) ?_ | refine Dv.pos (by omega) (by omega) ?_ | refine Rm.pos (by omega) (by omega) ?_ | refine ADraw.quiet follows_ok (by kernel_rfl) rfl ?_ | refine BSpl.decY (by first | assumption | omega) ?_ | refine BSpl.decN (by first | assumption | omega) ?_ | refine BSpl.dec (fun _ => ?_) (fun _ => ?_) | refine BSpl.yes (by assumption) ?_ | refine BSpl.no (by assumption) ?_ | refine BSpl.mk (fun _ => ?_) (fun _ => ?_))
      all_goals (conv => whnf)
      all_goals first
        | exact ⟨⟨j + 1, hjl, hup⟩, _, LeR.mk' [] _ _ _ rfl ⟨AEq.refl _, AEq.refl _, AEq.int rfl, trivial⟩ trivial rfl, Nat.sub_succ_lt_self _ _ hjl⟩
        | exact absurd (by assumption) hk
  · rw [h2 fun i hi => hall i (by omega)]
    repeat' ((conv => whnf); first | refine Spl.yes (by first | assumption | omega) ?_ | refine Spl.no (by first | assumption | omega) ?_ | refine Wr.i64 (by omega) (by omega) ?_ | refine Still.mk rfl rfl ?_ | refine InB.mk (inB_mk (by omega) (by omega)) ?_ | refine Req.mk (by omega) ?_ | refine Req.mk ⟨by first | omega | (dsimp only; omega), by first | omega | (dsimp only; omega)⟩ ?_ | refine ARet.hdI ?_ | refine Spl.mk (fun _ => ?_) (fun _ => ?_) | refine InA.mk (inB_mk (by omega) (by omega)) ?_ | refine Wr.b64 ?_ | refine Wr.bu64 ?_ | refine Wr.bu32 ?_ | refine Wr.bu8 ?_ | refine Wr.u8 (by omega) (by omega) ?_ | refine Wr.u64 (by omega) (by omega) ?_ | refine Wr.u32 (by omega) (by omega) ?_ | refine Dv.pos (by omega) (by omega) ?_ | refine Rm.pos (by omega) (by omega) ?_ | refine ADraw.quiet follows_ok (by kernel_rfl) rfl ?_ | refine BSpl.decY (by first | assumption | omega) ?_ | refine BSpl.decN (by first | assumption | omega) ?_ | refine BSpl.dec (fun _ => ?_) (fun _ => ?_) | refine BSpl.yes (by assumption) ?_ | refine BSpl.no (by assumption) ?_ | refine BSpl.mk (fun _ => ?_) (fun _ => ?_))
    conv => whnf
    exact AEqI.mk (AEq.refl _)
end Go.Proofs.Ytihjfndkgmjanaa
