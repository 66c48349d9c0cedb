/-
  The reference of layer 9: what a past comes to: kithref09.Of.
-/
import Derived.Test.YtihjfndkgmjanaaBr4
namespace Go.Proofs.Ytihjfndkgmjanaa
open Go.RowKit

theorem OEq.boxC {t : TypeId} {cs ds : List AV} (hl : cs.length = ds.length) (h : ∀ (i : Nat) (x y : AV), cs[i]? = some x → ds[i]? = some y → ∀ (X : CX) (u : Value), C0 X x u → C0 X y u) : OEq (.box t cs) (.box t ds) := by
  rintro X id ⟨b, us, h1, h2, h3⟩
  exact ⟨b, us, h1, h2, by rw [← hl]; exact h3.1, fun i y u hy hu => by
    have hi : i < cs.length := by rw [hl]; exact (List.getElem?_eq_some_iff.1 hy).1
    exact h i _ y (List.getElem?_eq_getElem hi) hy X u (h3.2 i _ u (List.getElem?_eq_getElem hi) hu)⟩
/-- Cells that say no more. -/
inductive CImp : List AV → List AV → Prop where
  | nil : CImp [] []
  | same {x : AV} {xs ys : List AV} (h : CImp xs ys) : CImp (x :: xs) (x :: ys)
  | nilS {s : Nat} {sc : Bool} {f : Nat → List AV} {xs ys : List AV} (hs : 0 < s) (h : CImp xs ys) : CImp (.v (.slice none 0 0) :: xs) (.sl s 0 sc f :: ys)
theorem CImp.box {t : TypeId} {cs ds : List AV} (h : CImp cs ds) : OEq (.box t cs) (.box t ds) := by
  refine OEq.boxC ?_ ?_
  · induction h with
    | nil => rfl
    | same _ ih => simp [ih]
    | nilS _ _ ih => simp [ih]
  · induction h with
    | nil => intro i x y hx; cases hx
    | same _ ih =>
      intro i x y hx hy X u hu
      cases i with
      | zero => cases hx; cases hy; exact hu
      | succ i => exact ih i x y hx hy X u hu
    | nilS hs _ ih =>
      intro i x y hx hy X u hu
      cases i with
      | zero =>
        cases hx; cases hy
        exact C1.nilS (X := X) hs hu
      | succ i => exact ih i x y hx hy X u hu

def withAll (l : List Str) : List Str := l.foldl withL []
theorem withL_len (l : List Str) (s : Str) : (withL l s).length ≤ l.length + 1 := by
  unfold withL
  split
  · omega
  · rw [List.length_append, List.length_cons, List.length_take, List.length_drop]
    omega
theorem withAll_snoc (l : List Str) (s : Str) : withAll (l ++ [s]) = withL (withAll l) s := by rw [withAll, List.foldl_append]; rfl
theorem foldl_len : ∀ (l : List Str) (a : List Str), (l.foldl withL a).length ≤ a.length + l.length
  | [], a => Nat.le_refl _
  | x :: l, a => by
    have := foldl_len l (withL a x)
    have := withL_len a x
    rw [List.foldl_cons, List.length_cons]
    omega
theorem withAll_len (l : List Str) : (withAll l).length ≤ l.length := by
  have := foldl_len l []
  simpa [withAll] using this
/-- What a contact's events are, in a past. -/
def inP (l : List Ev) (key : ByteArray) (n : Int) (e : Ev) : Bool := countB l (livingB l) e && ofK key n e
def setsR (l : List Ev) (key : ByteArray) (n : Int) (w : List Ev) : List Ev := w.filter fun e => inP l key n e && decide (e.k = 3)
def addsR (l : List Ev) (key : ByteArray) (n : Int) (w : List Ev) : List Ev := w.filter fun e => inP l key n e && !decide (e.k = 3)
def valsR (l : List Ev) (key : ByteArray) (n : Int) (w : List Ev) : List Str := withAll ((addsR l key n w).map fun e => strL e.v)
def hasR (A : List Ev) : Bool := decide (0 ≤ lastR (A.map stampE))
def contactR (l : List Ev) (key : ByteArray) : Cont := ⟨key, hasF (setsR l key 0 l), hasF (setsR l key 1 l), fieldF (setsR l key 0 l), fieldF (setsR l key 1 l), valsR l key 0 l, valsR l key 1 l⟩
def keysR (l w : List Ev) : List Str := withAll ((w.filter (livesB l)).map fun e => strL e.key)
def ofR (l : List Ev) : List Cont := (keysR l l).map fun k => contactR l ⟨k.toArray⟩

set_option maxHeartbeats 16000000 in
set_option maxRecDepth 100000 in
theorem ofR_spec (l : List Ev) (hl : l.length ≤ 1000000) :
    ASpec Try.prog 19 [.sl 12 l.length true (evF l)] (.sl 7 (ofR l).length false (coF (ofR l))) [] := by
  refine aspec_of lay_ok 1298074225514039319834096107274237 Try.func19 rfl rfl rfl ?_
  repeat' ((conv => whnf); first | refine Spl.yes (by first | assumption | omega) ?_ | refine Spl.no (by first | assumption | omega) ?_ | refine Wr.i64 (by omega) (by omega) ?_ | refine Still.mk rfl rfl ?_ | refine InB.mk (inB_mk (by omega) (by omega)) ?_ | refine Req.mk (by omega) ?_ | refine Req.mk ⟨by first | omega | (dsimp only; omega), by first | omega | (dsimp only; omega)⟩ ?_ | refine ARet.hdI ?_ | refine Spl.mk (fun _ => ?_) (fun _ => ?_) | refine Wr.b64 ?_ | refine Wr.bu64 ?_ | refine Wr.bu32 ?_ | refine Wr.bu8 ?_ | refine Wr.u8 (by omega) (by omega) ?_ | refine Wr.u64 (by omega) (by omega) ?_ | refine Wr.u32 (by omega) (by omega) ?_ | refine Dv.pos (by omega) (by omega) ?_ | refine Rm.pos (by omega) (by omega) ?_ | refine ADraw.quiet follows_ok (by kernel_rfl) rfl ?_ | refine ADraw.sched (id := 21) lay_ok (awp_snd lay_ok _) [(0, none), (1, none), (2, none), (3, none), (4, none), (5, none), (6, none), (7, none), (8, none), (9, none), (10, none), (11, none), (12, none), (13, none), (14, none), (15, none), (16, some [6, 5, 1, 11, 9, 15]), (17, none), (18, none)] [(6, [5, 1]), (7, [6, 5, 1]), (8, [6, 5, 1]), (9, [6, 5, 1]), (10, [6, 5, 1]), (11, [6, 5, 1, 9]), (12, [11, 6, 5, 1, 9]), (13, [6, 5, 1, 11, 9]), (14, [6, 5, 1, 11, 9]), (15, [6, 5, 1, 11, 9]), (16, [6, 5, 1, 11, 9, 15]), (17, [6, 5, 1, 11, 9, 15]), (18, [6, 5, 1, 11, 9, 15])] follows_ok (by kernel_rfl) ?_ | refine ADraw.sched (id := 25) lay_ok (awp_snd lay_ok _) [(0, none), (1, none), (2, none), (3, none), (4, none), (5, none), (6, none), (8, none), (7, some [6, 4]), (9, none), (10, some [6, 4])] [(7, [6, 4]), (9, [6, 4]), (10, [6, 4])] follows_ok (by kernel_rfl) ?_ | refine BSpl.decY (by first | assumption | omega) ?_ | refine BSpl.decN (by first | assumption | omega) ?_ | refine BSpl.dec (fun _ => ?_) (fun _ => ?_) | refine BSpl.yes (by assumption) ?_ | refine BSpl.no (by assumption) ?_ | refine BSpl.mk (fun _ => ?_) (fun _ => ?_))
  conv => whnf
  refine ALoop.frz 0 rfl ?_
  conv => whnf
  refine ALoop.mk { j : Nat // j ≤ l.length } (fun j => ⟨[(0, .sl 12 l.length true (evF l)), (3, .sl 1 (keysR l (l.take j.1)).length true (strF (keysR l (l.take j.1)))), (4, .v (.int .i64 (j.1 : Int)))], [], [], 1⟩) (fun j => l.length - j.1) ⟨0, Nat.zero_le _⟩ _
    (LeR.mk' [] _ _ _ rfl ⟨AEq.refl _, AEq.sl rfl (fun i hi => absurd hi (Nat.not_lt_zero i)), AEq.int rfl, trivial⟩ trivial rfl) ?_
  rintro ⟨j, hj⟩
  dsimp only
  have hkl : (keysR l (l.take j)).length ≤ j := by
    have h1 := withAll_len (((l.take j).filter (livesB l)).map fun e => strL e.key)
    have h2 := List.length_filter_le (livesB l) (l.take j)
    rw [List.length_map] at h1
    rw [List.length_take] at h2
    unfold keysR
    omega
  by_cases hjl : j < l.length
  · have hv := livesR_spec l (l.getD (j : Int).toNat default) (by omega)
    have hwi := with_spec (keysR l (l.take j)) (l.getD (j : Int).toNat default).key (by omega)
    have hft : (l.take (j + 1)).filter (livesB l) = (l.take j).filter (livesB l) ++ (if livesB l (l.getD (j : Int).toNat default) = true then [l.getD (j : Int).toNat default] else []) := filter_take hjl
    have k1 : livesB l (l.getD (j : Int).toNat default) = true → withL (keysR l (l.take j)) (strL (l.getD (j : Int).toNat default).key) = keysR l (l.take (j + 1)) := fun h => by
      rw [keysR, keysR, hft, if_pos h, List.map_append, List.map_cons, List.map_nil, withAll_snoc]
    have k2 : livesB l (l.getD (j : Int).toNat default) = false → keysR l (l.take j) = keysR l (l.take (j + 1)) := fun h => by
      rw [keysR, keysR, hft, if_neg (by rw [h]; simp), List.append_nil]
    have eqL {X Y : List Str} (h : X = Y) : AEq (.sl 1 X.length true (strF X)) (.sl 1 Y.length true (strF Y)) := by rw [h]; exact AEq.refl _
    generalize withL (keysR l (l.take j)) (strL (l.getD (j : Int).toNat default).key) = W at hwi k1
    generalize keysR l (l.take j) = K at *
    generalize livesB l (l.getD (j : Int).toNat default) = q at *
    clear hft
    dsimp only [Ev.av, Ev.cs] at hv
    repeat' ((conv => whnf); first | refine Spl.yes (by first | assumption | omega) ?_ | refine Spl.no (by first | assumption | omega) ?_ | refine Wr.i64 (by omega) (by omega) ?_ | refine Still.mk rfl rfl ?_ | refine InB.mk (inB_mk (by omega) (by omega)) ?_ | refine Req.mk (by omega) ?_ | refine Req.mk ⟨by first | omega | (dsimp only; omega), by first | omega | (dsimp only; omega)⟩ ?_ | refine ACall.plain _ _ (hv) (SubL.cons (.eq _) (SubL.cons (.eq _) .nil)) rfl ?_ | refine ACall.plain _ _ (hwi) (SubL.cons (.eq _) (SubL.cons (.eq _) .nil)) rfl ?_ | refine ARet.hdI ?_ | refine Spl.mk (fun _ => ?_) (fun _ => ?_) | refine Wr.b64 ?_ | refine Wr.bu64 ?_ | refine Wr.bu32 ?_ | refine Wr.bu8 ?_ | refine Wr.u8 (by omega) (by omega) ?_ | refine Wr.u64 (by omega) (by omega) ?_ | refine Wr.u32 (by omega) (by omega) ?_ | refine Dv.pos (by omega) (by omega) ?_ | refine Rm.pos (by omega) (by omega) ?_ | refine ADraw.quiet follows_ok (by kernel_rfl) rfl ?_ | refine ADraw.sched (id := 21) lay_ok (awp_snd lay_ok _) [(0, none), (1, none), (2, none), (3, none), (4, none), (5, none), (6, none), (7, none), (8, none), (9, none), (10, none), (11, none), (12, none), (13, none), (14, none), (15, none), (16, some [6, 5, 1, 11, 9, 15]), (17, none), (18, none)] [(6, [5, 1]), (7, [6, 5, 1]), (8, [6, 5, 1]), (9, [6, 5, 1]), (10, [6, 5, 1]), (11, [6, 5, 1, 9]), (12, [11, 6, 5, 1, 9]), (13, [6, 5, 1, 11, 9]), (14, [6, 5, 1, 11, 9]), (15, [6, 5, 1, 11, 9]), (16, [6, 5, 1, 11, 9, 15]), (17, [6, 5, 1, 11, 9, 15]), (18, [6, 5, 1, 11, 9, 15])] follows_ok (by kernel_rfl) ?_ | refine ADraw.sched (id := 25) lay_ok (awp_snd lay_ok _) [(0, none), (1, none), (2, none), (3, none), (4, none), (5, none), (6, none), (8, none), (7, some [6, 4]), (9, none), (10, some [6, 4])] [(7, [6, 4]), (9, [6, 4]), (10, [6, 4])] follows_ok (by kernel_rfl) ?_ | refine BSpl.decY (by first | assumption | omega) ?_ | refine BSpl.decN (by first | assumption | omega) ?_ | refine BSpl.dec (fun _ => ?_) (fun _ => ?_) | refine BSpl.yes (by assumption) ?_ | refine BSpl.no (by assumption) ?_ | refine BSpl.mk (fun _ => ?_) (fun _ => ?_))
    all_goals (conv => whnf)
    all_goals first
      | exact ⟨⟨j + 1, hjl⟩, _, LeR.mk' [] _ _ _ rfl ⟨AEq.refl _, eqL (k1 (by assumption)), AEq.int rfl, trivial⟩ trivial rfl, Nat.sub_succ_lt_self _ _ hjl⟩
      | exact ⟨⟨j + 1, hjl⟩, _, LeR.mk' [] _ _ _ rfl ⟨AEq.refl _, eqL (k2 (by assumption)), AEq.int rfl, trivial⟩ trivial rfl, Nat.sub_succ_lt_self _ _ hjl⟩
  · rw [List.take_of_length_le (show l.length ≤ j by omega)] at hkl ⊢
    have hof : ofR l = (keysR l l).map fun k => contactR l ⟨k.toArray⟩ := rfl
    have hK : (keysR l l).length ≤ 1000000 := by omega
    generalize ofR l = O at hof ⊢
    generalize keysR l l = K at hof hK ⊢
    clear hkl
    repeat' ((conv => whnf); first | refine Spl.yes (by first | assumption | omega) ?_ | refine Spl.no (by first | assumption | omega) ?_ | refine Wr.i64 (by omega) (by omega) ?_ | refine Still.mk rfl rfl ?_ | refine InB.mk (inB_mk (by omega) (by omega)) ?_ | refine Req.mk (by omega) ?_ | refine Req.mk ⟨by first | omega | (dsimp only; omega), by first | omega | (dsimp only; omega)⟩ ?_ | refine ARet.hdI ?_ | refine Spl.mk (fun _ => ?_) (fun _ => ?_) | refine Wr.b64 ?_ | refine Wr.bu64 ?_ | refine Wr.bu32 ?_ | refine Wr.bu8 ?_ | refine Wr.u8 (by omega) (by omega) ?_ | refine Wr.u64 (by omega) (by omega) ?_ | refine Wr.u32 (by omega) (by omega) ?_ | refine Dv.pos (by omega) (by omega) ?_ | refine Rm.pos (by omega) (by omega) ?_ | refine ADraw.quiet follows_ok (by kernel_rfl) rfl ?_ | refine ADraw.sched (id := 21) lay_ok (awp_snd lay_ok _) [(0, none), (1, none), (2, none), (3, none), (4, none), (5, none), (6, none), (7, none), (8, none), (9, none), (10, none), (11, none), (12, none), (13, none), (14, none), (15, none), (16, some [6, 5, 1, 11, 9, 15]), (17, none), (18, none)] [(6, [5, 1]), (7, [6, 5, 1]), (8, [6, 5, 1]), (9, [6, 5, 1]), (10, [6, 5, 1]), (11, [6, 5, 1, 9]), (12, [11, 6, 5, 1, 9]), (13, [6, 5, 1, 11, 9]), (14, [6, 5, 1, 11, 9]), (15, [6, 5, 1, 11, 9]), (16, [6, 5, 1, 11, 9, 15]), (17, [6, 5, 1, 11, 9, 15]), (18, [6, 5, 1, 11, 9, 15])] follows_ok (by kernel_rfl) ?_ | refine ADraw.sched (id := 25) lay_ok (awp_snd lay_ok _) [(0, none), (1, none), (2, none), (3, none), (4, none), (5, none), (6, none), (8, none), (7, some [6, 4]), (9, none), (10, some [6, 4])] [(7, [6, 4]), (9, [6, 4]), (10, [6, 4])] follows_ok (by kernel_rfl) ?_ | refine BSpl.decY (by first | assumption | omega) ?_ | refine BSpl.decN (by first | assumption | omega) ?_ | refine BSpl.dec (fun _ => ?_) (fun _ => ?_) | refine BSpl.yes (by assumption) ?_ | refine BSpl.no (by assumption) ?_ | refine BSpl.mk (fun _ => ?_) (fun _ => ?_))
    conv => whnf
    refine ALoop.mk { i : Nat // i ≤ K.length } (fun i => ⟨[(0, .sl 12 l.length true (evF l)), (3, .sl 1 K.length true (strF K)), (5, .own 90), (6, .v (.int .i64 (i.1 : Int)))],
        [(90, .row 40 7 ((K.take i.1).map fun k => contactR l ⟨k.toArray⟩).length false (coF ((K.take i.1).map fun k => contactR l ⟨k.toArray⟩)))], [], 91⟩) (fun i => K.length - i.1) ⟨0, Nat.zero_le _⟩ _
      (LeR.mk' [(1, 90)] _ _ _ rfl ⟨AEq.refl _, AEq.refl _, AEq.refl _, AEq.int rfl, trivial⟩ ⟨⟨_, rfl, OEq.rowF rfl (fun i hi => absurd hi (Nat.not_lt_zero i))⟩, trivial⟩ rfl) ?_
    rintro ⟨i, hi⟩
    dsimp only
    have lo : ((K.take i).map fun k => contactR l ⟨k.toArray⟩).length = i := by rw [List.length_map, List.length_take]; omega
    by_cases hil : i < K.length
    · have hg : (K.take (i + 1)).map (fun k => contactR l ⟨k.toArray⟩) = (K.take i).map (fun k => contactR l ⟨k.toArray⟩) ++ [contactR l (⟨(K.getD (i : Int).toNat []).toArray⟩ : ByteArray)] := by
        rw [show K.getD (i : Int).toNat [] = K.getD i [] from rfl, List.getD, List.getElem?_eq_getElem hil, List.take_add_one, List.getElem?_eq_getElem hil, List.map_append]
        rfl
      generalize (K.take i).map (fun k => contactR l ⟨k.toArray⟩) = T at hg lo ⊢
      repeat' ((conv => whnf); first | refine Spl.yes (by first | assumption | omega) ?_ | refine Spl.no (by first | assumption | omega) ?_ | refine Wr.i64 (by omega) (by omega) ?_ | refine Still.mk rfl rfl ?_ | refine InB.mk (inB_mk (by omega) (by omega)) ?_ | refine Req.mk (by omega) ?_ | refine Req.mk ⟨by first | omega | (dsimp only; omega), by first | omega | (dsimp only; omega)⟩ ?_ | refine ARet.hdI ?_ | refine Spl.mk (fun _ => ?_) (fun _ => ?_) | refine Wr.b64 ?_ | refine Wr.bu64 ?_ | refine Wr.bu32 ?_ | refine Wr.bu8 ?_ | refine Wr.u8 (by omega) (by omega) ?_ | refine Wr.u64 (by omega) (by omega) ?_ | refine Wr.u32 (by omega) (by omega) ?_ | refine Dv.pos (by omega) (by omega) ?_ | refine Rm.pos (by omega) (by omega) ?_ | refine ADraw.quiet follows_ok (by kernel_rfl) rfl ?_ | refine ADraw.sched (id := 21) lay_ok (awp_snd lay_ok _) [(0, none), (1, none), (2, none), (3, none), (4, none), (5, none), (6, none), (7, none), (8, none), (9, none), (10, none), (11, none), (12, none), (13, none), (14, none), (15, none), (16, some [6, 5, 1, 11, 9, 15]), (17, none), (18, none)] [(6, [5, 1]), (7, [6, 5, 1]), (8, [6, 5, 1]), (9, [6, 5, 1]), (10, [6, 5, 1]), (11, [6, 5, 1, 9]), (12, [11, 6, 5, 1, 9]), (13, [6, 5, 1, 11, 9]), (14, [6, 5, 1, 11, 9]), (15, [6, 5, 1, 11, 9]), (16, [6, 5, 1, 11, 9, 15]), (17, [6, 5, 1, 11, 9, 15]), (18, [6, 5, 1, 11, 9, 15])] follows_ok (by kernel_rfl) ?_ | refine ADraw.sched (id := 25) lay_ok (awp_snd lay_ok _) [(0, none), (1, none), (2, none), (3, none), (4, none), (5, none), (6, none), (8, none), (7, some [6, 4]), (9, none), (10, some [6, 4])] [(7, [6, 4]), (9, [6, 4]), (10, [6, 4])] follows_ok (by kernel_rfl) ?_ | refine BSpl.decY (by first | assumption | omega) ?_ | refine BSpl.decN (by first | assumption | omega) ?_ | refine BSpl.dec (fun _ => ?_) (fun _ => ?_) | refine BSpl.yes (by assumption) ?_ | refine BSpl.no (by assumption) ?_ | refine BSpl.mk (fun _ => ?_) (fun _ => ?_))
      conv => whnf
      have hsl : ∀ n, (setsR l (⟨(K.getD (i : Int).toNat []).toArray⟩ : ByteArray) n l).length ≤ l.length := fun n => List.length_filter_le ..
      refine ALoop.mk { n : Nat // n ≤ 2 } (fun n => match n with
        | ⟨0, _⟩ => ⟨[(0, .sl 12 l.length true (evF l)), (3, .sl 1 K.length true (strF K)), (5, .own 90), (6, .v (.int .i64 (i : Int))), (7, .box 91 0), (8, .v (.int .i64 0))], [(91, .box 40 [.v (.string (⟨(K.getD (i : Int).toNat []).toArray⟩ : ByteArray)), .v (.bool false), .v (.bool false), .v (.string (⟨#[]⟩ : ByteArray)), .v (.string (⟨#[]⟩ : ByteArray)), .v (.slice none 0 0), .v (.slice none 0 0)]), (90, .row 40 7 T.length false (coF T))], [], 92⟩
        | ⟨1, _⟩ => ⟨[(0, .sl 12 l.length true (evF l)), (3, .sl 1 K.length true (strF K)), (5, .own 90), (6, .v (.int .i64 (i : Int))), (7, .box 91 0), (8, .v (.int .i64 1))], [(91, .box 40 [.v (.string (⟨(K.getD (i : Int).toNat []).toArray⟩ : ByteArray)), .v (.bool (hasF (setsR l (⟨(K.getD (i : Int).toNat []).toArray⟩ : ByteArray) 0 l))), .v (.bool false), .v (.string (fieldF (setsR l (⟨(K.getD (i : Int).toNat []).toArray⟩ : ByteArray) 0 l))), .v (.string (⟨#[]⟩ : ByteArray)), .sl 1 (valsR l (⟨(K.getD (i : Int).toNat []).toArray⟩ : ByteArray) 0 l).length true (strF (valsR l (⟨(K.getD (i : Int).toNat []).toArray⟩ : ByteArray) 0 l)), .v (.slice none 0 0)]), (90, .row 40 7 T.length false (coF T))], [], 92⟩
        | ⟨_ + 2, _⟩ => ⟨[(0, .sl 12 l.length true (evF l)), (3, .sl 1 K.length true (strF K)), (5, .own 90), (6, .v (.int .i64 (i : Int))), (7, .box 91 0), (8, .v (.int .i64 2))], [(91, .box 40 [.v (.string (⟨(K.getD (i : Int).toNat []).toArray⟩ : ByteArray)), .v (.bool (hasF (setsR l (⟨(K.getD (i : Int).toNat []).toArray⟩ : ByteArray) 0 l))), .v (.bool (hasF (setsR l (⟨(K.getD (i : Int).toNat []).toArray⟩ : ByteArray) 1 l))), .v (.string (fieldF (setsR l (⟨(K.getD (i : Int).toNat []).toArray⟩ : ByteArray) 0 l))), .v (.string (fieldF (setsR l (⟨(K.getD (i : Int).toNat []).toArray⟩ : ByteArray) 1 l))), .sl 1 (valsR l (⟨(K.getD (i : Int).toNat []).toArray⟩ : ByteArray) 0 l).length true (strF (valsR l (⟨(K.getD (i : Int).toNat []).toArray⟩ : ByteArray) 0 l)), .sl 1 (valsR l (⟨(K.getD (i : Int).toNat []).toArray⟩ : ByteArray) 1 l).length true (strF (valsR l (⟨(K.getD (i : Int).toNat []).toArray⟩ : ByteArray) 1 l))]), (90, .row 40 7 T.length false (coF T))], [], 92⟩) (fun n => 2 - n.1) ⟨0, Nat.zero_le _⟩ _
        (LeR.mk' [] _ _ _ rfl ⟨AEq.refl _, AEq.refl _, AEq.refl _, AEq.int rfl, AEq.refl _, AEq.int rfl, trivial⟩ ⟨⟨_, rfl, OEq.refl _⟩, ⟨_, rfl, OEq.refl _⟩, trivial⟩ rfl) ?_
      rintro ⟨n, hn⟩
      obtain rfl | rfl | rfl : n = 0 ∨ n = 1 ∨ n = 2 := by omega
      · repeat' ((conv => whnf); first | refine Spl.yes (by first | assumption | omega) ?_ | refine Spl.no (by first | assumption | omega) ?_ | refine Wr.i64 (by omega) (by omega) ?_ | refine Still.mk rfl rfl ?_ | refine InB.mk (inB_mk (by omega) (by omega)) ?_ | refine Req.mk (by omega) ?_ | refine Req.mk ⟨by first | omega | (dsimp only; omega), by first | omega | (dsimp only; omega)⟩ ?_ | refine ARet.hdI ?_ | refine Spl.mk (fun _ => ?_) (fun _ => ?_) | refine Wr.b64 ?_ | refine Wr.bu64 ?_ | refine Wr.bu32 ?_ | refine Wr.bu8 ?_ | refine Wr.u8 (by omega) (by omega) ?_ | refine Wr.u64 (by omega) (by omega) ?_ | refine Wr.u32 (by omega) (by omega) ?_ | refine Dv.pos (by omega) (by omega) ?_ | refine Rm.pos (by omega) (by omega) ?_ | refine ADraw.quiet follows_ok (by kernel_rfl) rfl ?_ | refine ADraw.sched (id := 21) lay_ok (awp_snd lay_ok _) [(0, none), (1, none), (2, none), (3, none), (4, none), (5, none), (6, none), (7, none), (8, none), (9, none), (10, none), (11, none), (12, none), (13, none), (14, none), (15, none), (16, some [6, 5, 1, 11, 9, 15]), (17, none), (18, none)] [(6, [5, 1]), (7, [6, 5, 1]), (8, [6, 5, 1]), (9, [6, 5, 1]), (10, [6, 5, 1]), (11, [6, 5, 1, 9]), (12, [11, 6, 5, 1, 9]), (13, [6, 5, 1, 11, 9]), (14, [6, 5, 1, 11, 9]), (15, [6, 5, 1, 11, 9]), (16, [6, 5, 1, 11, 9, 15]), (17, [6, 5, 1, 11, 9, 15]), (18, [6, 5, 1, 11, 9, 15])] follows_ok (by kernel_rfl) ?_ | refine ADraw.sched (id := 25) lay_ok (awp_snd lay_ok _) [(0, none), (1, none), (2, none), (3, none), (4, none), (5, none), (6, none), (8, none), (7, some [6, 4]), (9, none), (10, some [6, 4])] [(7, [6, 4]), (9, [6, 4]), (10, [6, 4])] follows_ok (by kernel_rfl) ?_ | refine BSpl.decY (by first | assumption | omega) ?_ | refine BSpl.decN (by first | assumption | omega) ?_ | refine BSpl.dec (fun _ => ?_) (fun _ => ?_) | refine BSpl.yes (by assumption) ?_ | refine BSpl.no (by assumption) ?_ | refine BSpl.mk (fun _ => ?_) (fun _ => ?_))
        conv => whnf
        refine ALoop.mk { k : Nat // k ≤ l.length } (fun k => ⟨[(0, .sl 12 l.length true (evF l)), (3, .sl 1 K.length true (strF K)), (5, .own 90), (6, .v (.int .i64 (i : Int))), (7, .box 91 0), (8, .v (.int .i64 0)), (9, .own 92), (10, .own 93), (11, .v (.int .i64 (k.1 : Int)))],
            [(91, .box 40 [.v (.string (⟨(K.getD (i : Int).toNat []).toArray⟩ : ByteArray)), .v (.bool false), .v (.bool false), .v (.string (⟨#[]⟩ : ByteArray)), .v (.string (⟨#[]⟩ : ByteArray)), .sl 1 (valsR l (⟨(K.getD (i : Int).toNat []).toArray⟩ : ByteArray) 0 (l.take k.1)).length true (strF (valsR l (⟨(K.getD (i : Int).toNat []).toArray⟩ : ByteArray) 0 (l.take k.1))), .v (.slice none 0 0)]), (92, .row 77 2 ((setsR l (⟨(K.getD (i : Int).toNat []).toArray⟩ : ByteArray) 0 (l.take k.1)).map stampE).length true (stF ((setsR l (⟨(K.getD (i : Int).toNat []).toArray⟩ : ByteArray) 0 (l.take k.1)).map stampE))), (93, .row 9 1 ((setsR l (⟨(K.getD (i : Int).toNat []).toArray⟩ : ByteArray) 0 (l.take k.1)).map fun e => strL e.v).length true (strF ((setsR l (⟨(K.getD (i : Int).toNat []).toArray⟩ : ByteArray) 0 (l.take k.1)).map fun e => strL e.v))), (90, .row 40 7 T.length false (coF T))], [], 94⟩) (fun k => l.length - k.1) ⟨0, Nat.zero_le _⟩ _
          (LeR.mk' [] _ _ _ rfl ⟨AEq.refl _, AEq.refl _, AEq.refl _, AEq.int rfl, AEq.refl _, AEq.int rfl, AEq.refl _, AEq.refl _, AEq.int rfl, trivial⟩
            ⟨⟨_, rfl, CImp.box (CImp.same (CImp.same (CImp.same (CImp.same (CImp.same (CImp.nilS (by omega) (CImp.same CImp.nil)))))))⟩, ⟨_, rfl, OEq.row rfl (fun i hi => absurd hi (Nat.not_lt_zero i))⟩, ⟨_, rfl, OEq.row rfl (fun i hi => absurd hi (Nat.not_lt_zero i))⟩, ⟨_, rfl, OEq.refl _⟩, trivial⟩ rfl) ?_
        rintro ⟨k, hk⟩
        dsimp only
        have hA : (setsR l (⟨(K.getD (i : Int).toNat []).toArray⟩ : ByteArray) 0 (l.take k)).length ≤ k := by
          have := List.length_filter_le (fun e => inP l (⟨(K.getD (i : Int).toNat []).toArray⟩ : ByteArray) 0 e && decide (e.k = 3)) (l.take k)
          rw [List.length_take] at this
          unfold setsR
          omega
        have hV : (valsR l (⟨(K.getD (i : Int).toNat []).toArray⟩ : ByteArray) 0 (l.take k)).length ≤ k := by
          have h1 := withAll_len ((addsR l (⟨(K.getD (i : Int).toNat []).toArray⟩ : ByteArray) 0 (l.take k)).map fun e => strL e.v)
          have h2 := List.length_filter_le (fun e => inP l (⟨(K.getD (i : Int).toNat []).toArray⟩ : ByteArray) 0 e && !decide (e.k = 3)) (l.take k)
          rw [List.length_map] at h1
          rw [List.length_take] at h2
          unfold valsR
          unfold addsR at h1 ⊢
          omega
        by_cases hkl : k < l.length
        · have hcs := countsR_spec l (l.getD (k : Int).toNat default) (by omega)
          have sA : setsR l (⟨(K.getD (i : Int).toNat []).toArray⟩ : ByteArray) 0 (l.take (k + 1)) = (setsR l (⟨(K.getD (i : Int).toNat []).toArray⟩ : ByteArray) 0 (l.take k)) ++ (if (inP l (⟨(K.getD (i : Int).toNat []).toArray⟩ : ByteArray) 0 (l.getD (k : Int).toNat default) && decide ((l.getD (k : Int).toNat default).k = 3)) = true then [(l.getD (k : Int).toNat default)] else []) := filter_take hkl
          have sB : addsR l (⟨(K.getD (i : Int).toNat []).toArray⟩ : ByteArray) 0 (l.take (k + 1)) = addsR l (⟨(K.getD (i : Int).toNat []).toArray⟩ : ByteArray) 0 (l.take k) ++ (if (inP l (⟨(K.getD (i : Int).toNat []).toArray⟩ : ByteArray) 0 (l.getD (k : Int).toNat default) && !decide ((l.getD (k : Int).toNat default).k = 3)) = true then [(l.getD (k : Int).toNat default)] else []) := filter_take hkl
          have hP : inP l (⟨(K.getD (i : Int).toNat []).toArray⟩ : ByteArray) 0 (l.getD (k : Int).toNat default) = (countB l (livingB l) (l.getD (k : Int).toNat default) && (decide ((l.getD (k : Int).toNat default).key = (⟨(K.getD (i : Int).toNat []).toArray⟩ : ByteArray)) && decide ((l.getD (k : Int).toNat default).l = 0))) := rfl
          rw [hP] at sA sB
          generalize countB l (livingB l) (l.getD (k : Int).toNat default) = q at hcs sA sB
          have o1 : ¬ (l.getD (k : Int).toNat default).key = (⟨(K.getD (i : Int).toNat []).toArray⟩ : ByteArray) → setsR l (⟨(K.getD (i : Int).toNat []).toArray⟩ : ByteArray) 0 (l.take (k + 1)) = (setsR l (⟨(K.getD (i : Int).toNat []).toArray⟩ : ByteArray) 0 (l.take k)) ∧ valsR l (⟨(K.getD (i : Int).toNat []).toArray⟩ : ByteArray) 0 (l.take (k + 1)) = (valsR l (⟨(K.getD (i : Int).toNat []).toArray⟩ : ByteArray) 0 (l.take k)) := fun h => by
            rw [valsR, valsR, sA, sB, decide_eq_false h]; simp
          have o2 : ¬ (l.getD (k : Int).toNat default).l = 0 → setsR l (⟨(K.getD (i : Int).toNat []).toArray⟩ : ByteArray) 0 (l.take (k + 1)) = (setsR l (⟨(K.getD (i : Int).toNat []).toArray⟩ : ByteArray) 0 (l.take k)) ∧ valsR l (⟨(K.getD (i : Int).toNat []).toArray⟩ : ByteArray) 0 (l.take (k + 1)) = (valsR l (⟨(K.getD (i : Int).toNat []).toArray⟩ : ByteArray) 0 (l.take k)) := fun h => by
            rw [valsR, valsR, sA, sB, decide_eq_false h]; simp
          have o3 : q = false → setsR l (⟨(K.getD (i : Int).toNat []).toArray⟩ : ByteArray) 0 (l.take (k + 1)) = (setsR l (⟨(K.getD (i : Int).toNat []).toArray⟩ : ByteArray) 0 (l.take k)) ∧ valsR l (⟨(K.getD (i : Int).toNat []).toArray⟩ : ByteArray) 0 (l.take (k + 1)) = (valsR l (⟨(K.getD (i : Int).toNat []).toArray⟩ : ByteArray) 0 (l.take k)) := fun h => by
            rw [valsR, valsR, sA, sB, h]; simp
          have o4 : (l.getD (k : Int).toNat default).key = (⟨(K.getD (i : Int).toNat []).toArray⟩ : ByteArray) → (l.getD (k : Int).toNat default).l = 0 → q = true → (l.getD (k : Int).toNat default).k = 3 → setsR l (⟨(K.getD (i : Int).toNat []).toArray⟩ : ByteArray) 0 (l.take (k + 1)) = (setsR l (⟨(K.getD (i : Int).toNat []).toArray⟩ : ByteArray) 0 (l.take k)) ++ [(l.getD (k : Int).toNat default)] ∧ valsR l (⟨(K.getD (i : Int).toNat []).toArray⟩ : ByteArray) 0 (l.take (k + 1)) = (valsR l (⟨(K.getD (i : Int).toNat []).toArray⟩ : ByteArray) 0 (l.take k)) := fun h1 h2 h3 h4 => by
            rw [valsR, valsR, sA, sB, decide_eq_true h1, decide_eq_true h2, h3, decide_eq_true h4]; simp
          have o5 : (l.getD (k : Int).toNat default).key = (⟨(K.getD (i : Int).toNat []).toArray⟩ : ByteArray) → (l.getD (k : Int).toNat default).l = 0 → q = true → ¬ (l.getD (k : Int).toNat default).k = 3 → setsR l (⟨(K.getD (i : Int).toNat []).toArray⟩ : ByteArray) 0 (l.take (k + 1)) = (setsR l (⟨(K.getD (i : Int).toNat []).toArray⟩ : ByteArray) 0 (l.take k)) ∧ valsR l (⟨(K.getD (i : Int).toNat []).toArray⟩ : ByteArray) 0 (l.take (k + 1)) = withL (valsR l (⟨(K.getD (i : Int).toNat []).toArray⟩ : ByteArray) 0 (l.take k)) (strL (l.getD (k : Int).toNat default).v) := fun h1 h2 h3 h4 => by
            rw [valsR, valsR, sA, sB, decide_eq_true h1, decide_eq_true h2, h3, decide_eq_false h4]
            refine ⟨by simp, ?_⟩
            rw [if_pos (by rfl), List.map_append, List.map_cons, List.map_nil, withAll_snoc]
          have hwi := with_spec (valsR l (⟨(K.getD (i : Int).toNat []).toArray⟩ : ByteArray) 0 (l.take k)) (l.getD (k : Int).toNat default).v (by omega)
          have eqB {X Y : List Str} (h : X = Y) : OEq (.box 40 [.v (.string (⟨(K.getD (i : Int).toNat []).toArray⟩ : ByteArray)), .v (.bool false), .v (.bool false), .v (.string (⟨#[]⟩ : ByteArray)), .v (.string (⟨#[]⟩ : ByteArray)), .sl 1 X.length true (strF X), .v (.slice none 0 0)]) (.box 40 [.v (.string (⟨(K.getD (i : Int).toNat []).toArray⟩ : ByteArray)), .v (.bool false), .v (.bool false), .v (.string (⟨#[]⟩ : ByteArray)), .v (.string (⟨#[]⟩ : ByteArray)), .sl 1 Y.length true (strF Y), .v (.slice none 0 0)]) := by rw [h]; exact OEq.refl _
          have eqS {X Y : List St} (h : X = Y) : OEq (.row 77 2 X.length true (stF X)) (.row 77 2 Y.length true (stF Y)) := by rw [h]; exact OEq.refl _
          have eqT {X Y : List Str} (h : X = Y) : OEq (.row 9 1 X.length true (strF X)) (.row 9 1 Y.length true (strF Y)) := by rw [h]; exact OEq.refl _
          clear sA sB hP
          generalize setsR l (⟨(K.getD (i : Int).toNat []).toArray⟩ : ByteArray) 0 (l.take k) = A at *
          generalize valsR l (⟨(K.getD (i : Int).toNat []).toArray⟩ : ByteArray) 0 (l.take k) = V at *
          have lA1 : (A.map stampE).length = A.length := List.length_map ..
          have lA2 : (A.map fun e => strL e.v).length = A.length := List.length_map ..
          generalize withL V (strL (l.getD (k : Int).toNat default).v) = W at *
          dsimp only [Ev.av, Ev.cs] at hcs
          repeat' ((conv => whnf); first | refine Spl.yes (by first | assumption | omega) ?_ | refine Spl.no (by first | assumption | omega) ?_ | refine Wr.i64 (by omega) (by omega) ?_ | refine Still.mk rfl rfl ?_ | refine InB.mk (inB_mk (by omega) (by omega)) ?_ | refine Req.mk (by omega) ?_ | refine Req.mk ⟨by first | omega | (dsimp only; omega), by first | omega | (dsimp only; omega)⟩ ?_ | refine ACall.plain _ _ (hcs) (SubL.cons (.eq _) (SubL.cons (.eq _) .nil)) rfl ?_ | refine ACall.plain _ _ (hwi) (SubL.cons (.eq _) (SubL.cons (.eq _) .nil)) rfl ?_ | refine ARet.hdI ?_ | refine Spl.mk (fun _ => ?_) (fun _ => ?_) | refine Wr.b64 ?_ | refine Wr.bu64 ?_ | refine Wr.bu32 ?_ | refine Wr.bu8 ?_ | refine Wr.u8 (by omega) (by omega) ?_ | refine Wr.u64 (by omega) (by omega) ?_ | refine Wr.u32 (by omega) (by omega) ?_ | refine Dv.pos (by omega) (by omega) ?_ | refine Rm.pos (by omega) (by omega) ?_ | refine ADraw.quiet follows_ok (by kernel_rfl) rfl ?_ | refine ADraw.sched (id := 21) lay_ok (awp_snd lay_ok _) [(0, none), (1, none), (2, none), (3, none), (4, none), (5, none), (6, none), (7, none), (8, none), (9, none), (10, none), (11, none), (12, none), (13, none), (14, none), (15, none), (16, some [6, 5, 1, 11, 9, 15]), (17, none), (18, none)] [(6, [5, 1]), (7, [6, 5, 1]), (8, [6, 5, 1]), (9, [6, 5, 1]), (10, [6, 5, 1]), (11, [6, 5, 1, 9]), (12, [11, 6, 5, 1, 9]), (13, [6, 5, 1, 11, 9]), (14, [6, 5, 1, 11, 9]), (15, [6, 5, 1, 11, 9]), (16, [6, 5, 1, 11, 9, 15]), (17, [6, 5, 1, 11, 9, 15]), (18, [6, 5, 1, 11, 9, 15])] follows_ok (by kernel_rfl) ?_ | refine ADraw.sched (id := 25) lay_ok (awp_snd lay_ok _) [(0, none), (1, none), (2, none), (3, none), (4, none), (5, none), (6, none), (8, none), (7, some [6, 4]), (9, none), (10, some [6, 4])] [(7, [6, 4]), (9, [6, 4]), (10, [6, 4])] follows_ok (by kernel_rfl) ?_ | refine BSpl.decY (by first | assumption | omega) ?_ | refine BSpl.decN (by first | assumption | omega) ?_ | refine BSpl.dec (fun _ => ?_) (fun _ => ?_) | refine BSpl.yes (by assumption) ?_ | refine BSpl.no (by assumption) ?_ | refine BSpl.mk (fun _ => ?_) (fun _ => ?_))
          all_goals (conv => whnf)
          all_goals first
            | (obtain ⟨e1, e2⟩ := o4 (by assumption) (by assumption) (by assumption) (by assumption)
               refine ⟨⟨k + 1, hkl⟩, _, LeR.mk' [(96, 92), (98, 93)] _ _ _ rfl ⟨AEq.refl _, AEq.refl _, AEq.refl _, AEq.int rfl, AEq.refl _, AEq.int rfl, AEq.refl _, AEq.refl _, AEq.int rfl, trivial⟩ ⟨⟨_, rfl, eqB e2.symm⟩, ⟨_, rfl, OEq.row ?_ (fun m hm => ?_)⟩, ⟨_, rfl, OEq.row ?_ (fun m hm => ?_)⟩, ⟨_, rfl, OEq.refl _⟩, trivial⟩ rfl, Nat.sub_succ_lt_self _ _ hkl⟩
               · show _ = ((setsR l (⟨(K.getD (i : Int).toNat []).toArray⟩ : ByteArray) 0 (l.take (k + 1))).map stampE).length
                 rw [e1, List.map_append, List.length_append]
                 rfl
               · show _ = stF ((setsR l (⟨(K.getD (i : Int).toNat []).toArray⟩ : ByteArray) 0 (l.take (k + 1))).map stampE) m
                 rw [e1, List.map_append]
                 exact els_app1 (c := stC) rfl rfl m hm
               · show _ = ((setsR l (⟨(K.getD (i : Int).toNat []).toArray⟩ : ByteArray) 0 (l.take (k + 1))).map fun e => strL e.v).length
                 rw [e1, List.map_append, List.length_append]
                 rfl
               · show _ = strF ((setsR l (⟨(K.getD (i : Int).toNat []).toArray⟩ : ByteArray) 0 (l.take (k + 1))).map fun e => strL e.v) m
                 rw [e1, List.map_append]
                 exact str_app1 (x := strL (l.getD (k : Int).toNat default).v) rfl (by rw [enc_strL]; rfl) m hm)
            | (obtain ⟨e1, e2⟩ := o5 (by assumption) (by assumption) (by assumption) (by assumption)
               exact ⟨⟨k + 1, hkl⟩, _, LeR.mk' [] _ _ _ rfl ⟨AEq.refl _, AEq.refl _, AEq.refl _, AEq.int rfl, AEq.refl _, AEq.int rfl, AEq.refl _, AEq.refl _, AEq.int rfl, trivial⟩ ⟨⟨_, rfl, eqB e2.symm⟩, ⟨_, rfl, eqS (by rw [e1])⟩, ⟨_, rfl, eqT (by rw [e1])⟩, ⟨_, rfl, OEq.refl _⟩, trivial⟩ rfl, Nat.sub_succ_lt_self _ _ hkl⟩)
            | (obtain ⟨e1, e2⟩ : setsR l (⟨(K.getD (i : Int).toNat []).toArray⟩ : ByteArray) 0 (l.take (k + 1)) = A ∧ valsR l (⟨(K.getD (i : Int).toNat []).toArray⟩ : ByteArray) 0 (l.take (k + 1)) = V := by first | exact o1 (by assumption) | exact o2 (by assumption) | exact o3 (by assumption)
               exact ⟨⟨k + 1, hkl⟩, _, LeR.mk' [] _ _ _ rfl ⟨AEq.refl _, AEq.refl _, AEq.refl _, AEq.int rfl, AEq.refl _, AEq.int rfl, AEq.refl _, AEq.refl _, AEq.int rfl, trivial⟩ ⟨⟨_, rfl, eqB e2.symm⟩, ⟨_, rfl, eqS (by rw [e1])⟩, ⟨_, rfl, eqT (by rw [e1])⟩, ⟨_, rfl, OEq.refl _⟩, trivial⟩ rfl, Nat.sub_succ_lt_self _ _ hkl⟩)
        · rw [List.take_of_length_le (show l.length ≤ k by omega)] at hA hV ⊢
          have hHF : hasF (setsR l (⟨(K.getD (i : Int).toNat []).toArray⟩ : ByteArray) 0 l) = !decide ((setsR l (⟨(K.getD (i : Int).toNat []).toArray⟩ : ByteArray) 0 l).length = 0) := rfl
          have hFF : fieldF (setsR l (⟨(K.getD (i : Int).toNat []).toArray⟩ : ByteArray) 0 l) = if (setsR l (⟨(K.getD (i : Int).toNat []).toArray⟩ : ByteArray) 0 l).length = 0 then ⟨#[]⟩ else ⟨(((setsR l (⟨(K.getD (i : Int).toNat []).toArray⟩ : ByteArray) 0 l).map fun e => strL e.v).getD (lastN ((setsR l (⟨(K.getD (i : Int).toNat []).toArray⟩ : ByteArray) 0 l).map stampE)) []).toArray⟩ := rfl
          have hls := lastR_spec ((setsR l (⟨(K.getD (i : Int).toNat []).toArray⟩ : ByteArray) 0 l).map stampE) (by rw [List.length_map]; omega)
          have hlr : lastR ((setsR l (⟨(K.getD (i : Int).toNat []).toArray⟩ : ByteArray) 0 l).map stampE) = if (setsR l (⟨(K.getD (i : Int).toNat []).toArray⟩ : ByteArray) 0 l).length = 0 then -1 else (lastN ((setsR l (⟨(K.getD (i : Int).toNat []).toArray⟩ : ByteArray) 0 l).map stampE) : Int) := by rw [lastR, List.length_map]
          have hlt : ¬ (setsR l (⟨(K.getD (i : Int).toNat []).toArray⟩ : ByteArray) 0 l).length = 0 → lastN ((setsR l (⟨(K.getD (i : Int).toNat []).toArray⟩ : ByteArray) 0 l).map stampE) < (setsR l (⟨(K.getD (i : Int).toNat []).toArray⟩ : ByteArray) 0 l).length := fun h => by
            have := last_lt (l := (setsR l (⟨(K.getD (i : Int).toNat []).toArray⟩ : ByteArray) 0 l).map stampE) (fun e => h (by rw [← List.length_map (f := stampE), e]; rfl))
            rwa [List.length_map] at this
          have lA2 : ((setsR l (⟨(K.getD (i : Int).toNat []).toArray⟩ : ByteArray) 0 l).map fun e => strL e.v).length = (setsR l (⟨(K.getD (i : Int).toNat []).toArray⟩ : ByteArray) 0 l).length := List.length_map ..
          by_cases h0 : (setsR l (⟨(K.getD (i : Int).toNat []).toArray⟩ : ByteArray) 0 l).length = 0
          · rw [if_pos h0] at hFF hlr
            rw [decide_eq_true h0] at hHF
            rw [hlr] at hls
            repeat' ((conv => whnf); first | refine Spl.yes (by first | assumption | omega) ?_ | refine Spl.no (by first | assumption | omega) ?_ | refine Wr.i64 (by omega) (by omega) ?_ | refine Still.mk rfl rfl ?_ | refine InB.mk (inB_mk (by omega) (by omega)) ?_ | refine Req.mk (by omega) ?_ | refine Req.mk ⟨by first | omega | (dsimp only; omega), by first | omega | (dsimp only; omega)⟩ ?_ | refine ACall.plain _ _ (hls) (SubL.cons (.eq _) .nil) rfl ?_ | refine ARet.hdI ?_ | refine Spl.mk (fun _ => ?_) (fun _ => ?_) | refine Wr.b64 ?_ | refine Wr.bu64 ?_ | refine Wr.bu32 ?_ | refine Wr.bu8 ?_ | refine Wr.u8 (by omega) (by omega) ?_ | refine Wr.u64 (by omega) (by omega) ?_ | refine Wr.u32 (by omega) (by omega) ?_ | refine Dv.pos (by omega) (by omega) ?_ | refine Rm.pos (by omega) (by omega) ?_ | refine ADraw.quiet follows_ok (by kernel_rfl) rfl ?_ | refine ADraw.sched (id := 21) lay_ok (awp_snd lay_ok _) [(0, none), (1, none), (2, none), (3, none), (4, none), (5, none), (6, none), (7, none), (8, none), (9, none), (10, none), (11, none), (12, none), (13, none), (14, none), (15, none), (16, some [6, 5, 1, 11, 9, 15]), (17, none), (18, none)] [(6, [5, 1]), (7, [6, 5, 1]), (8, [6, 5, 1]), (9, [6, 5, 1]), (10, [6, 5, 1]), (11, [6, 5, 1, 9]), (12, [11, 6, 5, 1, 9]), (13, [6, 5, 1, 11, 9]), (14, [6, 5, 1, 11, 9]), (15, [6, 5, 1, 11, 9]), (16, [6, 5, 1, 11, 9, 15]), (17, [6, 5, 1, 11, 9, 15]), (18, [6, 5, 1, 11, 9, 15])] follows_ok (by kernel_rfl) ?_ | refine ADraw.sched (id := 25) lay_ok (awp_snd lay_ok _) [(0, none), (1, none), (2, none), (3, none), (4, none), (5, none), (6, none), (8, none), (7, some [6, 4]), (9, none), (10, some [6, 4])] [(7, [6, 4]), (9, [6, 4]), (10, [6, 4])] follows_ok (by kernel_rfl) ?_ | refine BSpl.decY (by first | assumption | omega) ?_ | refine BSpl.decN (by first | assumption | omega) ?_ | refine BSpl.dec (fun _ => ?_) (fun _ => ?_) | refine BSpl.yes (by assumption) ?_ | refine BSpl.no (by assumption) ?_ | refine BSpl.mk (fun _ => ?_) (fun _ => ?_))
            conv => whnf
            refine ⟨⟨1, by omega⟩, _, LeR.mk' [] _ _ _ rfl ⟨AEq.refl _, AEq.refl _, AEq.refl _, AEq.int rfl, AEq.refl _, AEq.int rfl, trivial⟩ ⟨⟨_, rfl, ?_⟩, ⟨_, rfl, OEq.refl _⟩, trivial⟩ rfl, by show 2 - 1 < 2 - 0; omega⟩
            rw [hHF, hFF]
            exact OEq.refl _
          · rw [if_neg h0] at hFF hlr
            rw [decide_eq_false h0] at hHF
            rw [hlr] at hls
            have hlt2 := hlt h0
            clear hlt
            generalize lastN ((setsR l (⟨(K.getD (i : Int).toNat []).toArray⟩ : ByteArray) 0 l).map stampE) = m at *
            repeat' ((conv => whnf); first | refine Spl.yes (by first | assumption | omega) ?_ | refine Spl.no (by first | assumption | omega) ?_ | refine Wr.i64 (by omega) (by omega) ?_ | refine Still.mk rfl rfl ?_ | refine InB.mk (inB_mk (by omega) (by omega)) ?_ | refine Req.mk (by omega) ?_ | refine Req.mk ⟨by first | omega | (dsimp only; omega), by first | omega | (dsimp only; omega)⟩ ?_ | refine ACall.plain _ _ (hls) (SubL.cons (.eq _) .nil) rfl ?_ | refine ARet.hdI ?_ | refine Spl.mk (fun _ => ?_) (fun _ => ?_) | refine Wr.b64 ?_ | refine Wr.bu64 ?_ | refine Wr.bu32 ?_ | refine Wr.bu8 ?_ | refine Wr.u8 (by omega) (by omega) ?_ | refine Wr.u64 (by omega) (by omega) ?_ | refine Wr.u32 (by omega) (by omega) ?_ | refine Dv.pos (by omega) (by omega) ?_ | refine Rm.pos (by omega) (by omega) ?_ | refine ADraw.quiet follows_ok (by kernel_rfl) rfl ?_ | refine ADraw.sched (id := 21) lay_ok (awp_snd lay_ok _) [(0, none), (1, none), (2, none), (3, none), (4, none), (5, none), (6, none), (7, none), (8, none), (9, none), (10, none), (11, none), (12, none), (13, none), (14, none), (15, none), (16, some [6, 5, 1, 11, 9, 15]), (17, none), (18, none)] [(6, [5, 1]), (7, [6, 5, 1]), (8, [6, 5, 1]), (9, [6, 5, 1]), (10, [6, 5, 1]), (11, [6, 5, 1, 9]), (12, [11, 6, 5, 1, 9]), (13, [6, 5, 1, 11, 9]), (14, [6, 5, 1, 11, 9]), (15, [6, 5, 1, 11, 9]), (16, [6, 5, 1, 11, 9, 15]), (17, [6, 5, 1, 11, 9, 15]), (18, [6, 5, 1, 11, 9, 15])] follows_ok (by kernel_rfl) ?_ | refine ADraw.sched (id := 25) lay_ok (awp_snd lay_ok _) [(0, none), (1, none), (2, none), (3, none), (4, none), (5, none), (6, none), (8, none), (7, some [6, 4]), (9, none), (10, some [6, 4])] [(7, [6, 4]), (9, [6, 4]), (10, [6, 4])] follows_ok (by kernel_rfl) ?_ | refine BSpl.decY (by first | assumption | omega) ?_ | refine BSpl.decN (by first | assumption | omega) ?_ | refine BSpl.dec (fun _ => ?_) (fun _ => ?_) | refine BSpl.yes (by assumption) ?_ | refine BSpl.no (by assumption) ?_ | refine BSpl.mk (fun _ => ?_) (fun _ => ?_))
            rotate_left
            · exact absurd (show Nat.ble _ _ = false by assumption) (by rw [Bool.not_eq_false, Nat.ble_eq]; omega)
            conv => whnf
            refine ⟨⟨1, by omega⟩, _, LeR.mk' [] _ _ _ rfl ⟨AEq.refl _, AEq.refl _, AEq.refl _, AEq.int rfl, AEq.refl _, AEq.int rfl, trivial⟩ ⟨⟨_, rfl, ?_⟩, ⟨_, rfl, OEq.refl _⟩, trivial⟩ rfl, by show 2 - 1 < 2 - 0; omega⟩
            rw [hHF, hFF]
            exact OEq.refl _
      · repeat' ((conv => whnf); first | refine Spl.yes (by first | assumption | omega) ?_ | refine Spl.no (by first | assumption | omega) ?_ | refine Wr.i64 (by omega) (by omega) ?_ | refine Still.mk rfl rfl ?_ | refine InB.mk (inB_mk (by omega) (by omega)) ?_ | refine Req.mk (by omega) ?_ | refine Req.mk ⟨by first | omega | (dsimp only; omega), by first | omega | (dsimp only; omega)⟩ ?_ | refine ARet.hdI ?_ | refine Spl.mk (fun _ => ?_) (fun _ => ?_) | refine Wr.b64 ?_ | refine Wr.bu64 ?_ | refine Wr.bu32 ?_ | refine Wr.bu8 ?_ | refine Wr.u8 (by omega) (by omega) ?_ | refine Wr.u64 (by omega) (by omega) ?_ | refine Wr.u32 (by omega) (by omega) ?_ | refine Dv.pos (by omega) (by omega) ?_ | refine Rm.pos (by omega) (by omega) ?_ | refine ADraw.quiet follows_ok (by kernel_rfl) rfl ?_ | refine ADraw.sched (id := 21) lay_ok (awp_snd lay_ok _) [(0, none), (1, none), (2, none), (3, none), (4, none), (5, none), (6, none), (7, none), (8, none), (9, none), (10, none), (11, none), (12, none), (13, none), (14, none), (15, none), (16, some [6, 5, 1, 11, 9, 15]), (17, none), (18, none)] [(6, [5, 1]), (7, [6, 5, 1]), (8, [6, 5, 1]), (9, [6, 5, 1]), (10, [6, 5, 1]), (11, [6, 5, 1, 9]), (12, [11, 6, 5, 1, 9]), (13, [6, 5, 1, 11, 9]), (14, [6, 5, 1, 11, 9]), (15, [6, 5, 1, 11, 9]), (16, [6, 5, 1, 11, 9, 15]), (17, [6, 5, 1, 11, 9, 15]), (18, [6, 5, 1, 11, 9, 15])] follows_ok (by kernel_rfl) ?_ | refine ADraw.sched (id := 25) lay_ok (awp_snd lay_ok _) [(0, none), (1, none), (2, none), (3, none), (4, none), (5, none), (6, none), (8, none), (7, some [6, 4]), (9, none), (10, some [6, 4])] [(7, [6, 4]), (9, [6, 4]), (10, [6, 4])] follows_ok (by kernel_rfl) ?_ | refine BSpl.decY (by first | assumption | omega) ?_ | refine BSpl.decN (by first | assumption | omega) ?_ | refine BSpl.dec (fun _ => ?_) (fun _ => ?_) | refine BSpl.yes (by assumption) ?_ | refine BSpl.no (by assumption) ?_ | refine BSpl.mk (fun _ => ?_) (fun _ => ?_))
        conv => whnf
        refine ALoop.mk { k : Nat // k ≤ l.length } (fun k => ⟨[(0, .sl 12 l.length true (evF l)), (3, .sl 1 K.length true (strF K)), (5, .own 90), (6, .v (.int .i64 (i : Int))), (7, .box 91 0), (8, .v (.int .i64 1)), (9, .own 92), (10, .own 93), (11, .v (.int .i64 (k.1 : Int)))],
            [(91, .box 40 [.v (.string (⟨(K.getD (i : Int).toNat []).toArray⟩ : ByteArray)), .v (.bool (hasF (setsR l (⟨(K.getD (i : Int).toNat []).toArray⟩ : ByteArray) 0 l))), .v (.bool false), .v (.string (fieldF (setsR l (⟨(K.getD (i : Int).toNat []).toArray⟩ : ByteArray) 0 l))), .v (.string (⟨#[]⟩ : ByteArray)), .sl 1 (valsR l (⟨(K.getD (i : Int).toNat []).toArray⟩ : ByteArray) 0 l).length true (strF (valsR l (⟨(K.getD (i : Int).toNat []).toArray⟩ : ByteArray) 0 l)), .sl 1 (valsR l (⟨(K.getD (i : Int).toNat []).toArray⟩ : ByteArray) 1 (l.take k.1)).length true (strF (valsR l (⟨(K.getD (i : Int).toNat []).toArray⟩ : ByteArray) 1 (l.take k.1)))]), (92, .row 77 2 ((setsR l (⟨(K.getD (i : Int).toNat []).toArray⟩ : ByteArray) 1 (l.take k.1)).map stampE).length true (stF ((setsR l (⟨(K.getD (i : Int).toNat []).toArray⟩ : ByteArray) 1 (l.take k.1)).map stampE))), (93, .row 9 1 ((setsR l (⟨(K.getD (i : Int).toNat []).toArray⟩ : ByteArray) 1 (l.take k.1)).map fun e => strL e.v).length true (strF ((setsR l (⟨(K.getD (i : Int).toNat []).toArray⟩ : ByteArray) 1 (l.take k.1)).map fun e => strL e.v))), (90, .row 40 7 T.length false (coF T))], [], 94⟩) (fun k => l.length - k.1) ⟨0, Nat.zero_le _⟩ _
          (LeR.mk' [] _ _ _ rfl ⟨AEq.refl _, AEq.refl _, AEq.refl _, AEq.int rfl, AEq.refl _, AEq.int rfl, AEq.refl _, AEq.refl _, AEq.int rfl, trivial⟩
            ⟨⟨_, rfl, CImp.box (CImp.same (CImp.same (CImp.same (CImp.same (CImp.same (CImp.same (CImp.nilS (by omega) CImp.nil)))))))⟩, ⟨_, rfl, OEq.row rfl (fun i hi => absurd hi (Nat.not_lt_zero i))⟩, ⟨_, rfl, OEq.row rfl (fun i hi => absurd hi (Nat.not_lt_zero i))⟩, ⟨_, rfl, OEq.refl _⟩, trivial⟩ rfl) ?_
        rintro ⟨k, hk⟩
        dsimp only
        have hA : (setsR l (⟨(K.getD (i : Int).toNat []).toArray⟩ : ByteArray) 1 (l.take k)).length ≤ k := by
          have := List.length_filter_le (fun e => inP l (⟨(K.getD (i : Int).toNat []).toArray⟩ : ByteArray) 1 e && decide (e.k = 3)) (l.take k)
          rw [List.length_take] at this
          unfold setsR
          omega
        have hV : (valsR l (⟨(K.getD (i : Int).toNat []).toArray⟩ : ByteArray) 1 (l.take k)).length ≤ k := by
          have h1 := withAll_len ((addsR l (⟨(K.getD (i : Int).toNat []).toArray⟩ : ByteArray) 1 (l.take k)).map fun e => strL e.v)
          have h2 := List.length_filter_le (fun e => inP l (⟨(K.getD (i : Int).toNat []).toArray⟩ : ByteArray) 1 e && !decide (e.k = 3)) (l.take k)
          rw [List.length_map] at h1
          rw [List.length_take] at h2
          unfold valsR
          unfold addsR at h1 ⊢
          omega
        by_cases hkl : k < l.length
        · have hcs := countsR_spec l (l.getD (k : Int).toNat default) (by omega)
          have sA : setsR l (⟨(K.getD (i : Int).toNat []).toArray⟩ : ByteArray) 1 (l.take (k + 1)) = (setsR l (⟨(K.getD (i : Int).toNat []).toArray⟩ : ByteArray) 1 (l.take k)) ++ (if (inP l (⟨(K.getD (i : Int).toNat []).toArray⟩ : ByteArray) 1 (l.getD (k : Int).toNat default) && decide ((l.getD (k : Int).toNat default).k = 3)) = true then [(l.getD (k : Int).toNat default)] else []) := filter_take hkl
          have sB : addsR l (⟨(K.getD (i : Int).toNat []).toArray⟩ : ByteArray) 1 (l.take (k + 1)) = addsR l (⟨(K.getD (i : Int).toNat []).toArray⟩ : ByteArray) 1 (l.take k) ++ (if (inP l (⟨(K.getD (i : Int).toNat []).toArray⟩ : ByteArray) 1 (l.getD (k : Int).toNat default) && !decide ((l.getD (k : Int).toNat default).k = 3)) = true then [(l.getD (k : Int).toNat default)] else []) := filter_take hkl
          have hP : inP l (⟨(K.getD (i : Int).toNat []).toArray⟩ : ByteArray) 1 (l.getD (k : Int).toNat default) = (countB l (livingB l) (l.getD (k : Int).toNat default) && (decide ((l.getD (k : Int).toNat default).key = (⟨(K.getD (i : Int).toNat []).toArray⟩ : ByteArray)) && decide ((l.getD (k : Int).toNat default).l = 1))) := rfl
          rw [hP] at sA sB
          generalize countB l (livingB l) (l.getD (k : Int).toNat default) = q at hcs sA sB
          have o1 : ¬ (l.getD (k : Int).toNat default).key = (⟨(K.getD (i : Int).toNat []).toArray⟩ : ByteArray) → setsR l (⟨(K.getD (i : Int).toNat []).toArray⟩ : ByteArray) 1 (l.take (k + 1)) = (setsR l (⟨(K.getD (i : Int).toNat []).toArray⟩ : ByteArray) 1 (l.take k)) ∧ valsR l (⟨(K.getD (i : Int).toNat []).toArray⟩ : ByteArray) 1 (l.take (k + 1)) = (valsR l (⟨(K.getD (i : Int).toNat []).toArray⟩ : ByteArray) 1 (l.take k)) := fun h => by
            rw [valsR, valsR, sA, sB, decide_eq_false h]; simp
          have o2 : ¬ (l.getD (k : Int).toNat default).l = 1 → setsR l (⟨(K.getD (i : Int).toNat []).toArray⟩ : ByteArray) 1 (l.take (k + 1)) = (setsR l (⟨(K.getD (i : Int).toNat []).toArray⟩ : ByteArray) 1 (l.take k)) ∧ valsR l (⟨(K.getD (i : Int).toNat []).toArray⟩ : ByteArray) 1 (l.take (k + 1)) = (valsR l (⟨(K.getD (i : Int).toNat []).toArray⟩ : ByteArray) 1 (l.take k)) := fun h => by
            rw [valsR, valsR, sA, sB, decide_eq_false h]; simp
          have o3 : q = false → setsR l (⟨(K.getD (i : Int).toNat []).toArray⟩ : ByteArray) 1 (l.take (k + 1)) = (setsR l (⟨(K.getD (i : Int).toNat []).toArray⟩ : ByteArray) 1 (l.take k)) ∧ valsR l (⟨(K.getD (i : Int).toNat []).toArray⟩ : ByteArray) 1 (l.take (k + 1)) = (valsR l (⟨(K.getD (i : Int).toNat []).toArray⟩ : ByteArray) 1 (l.take k)) := fun h => by
            rw [valsR, valsR, sA, sB, h]; simp
          have o4 : (l.getD (k : Int).toNat default).key = (⟨(K.getD (i : Int).toNat []).toArray⟩ : ByteArray) → (l.getD (k : Int).toNat default).l = 1 → q = true → (l.getD (k : Int).toNat default).k = 3 → setsR l (⟨(K.getD (i : Int).toNat []).toArray⟩ : ByteArray) 1 (l.take (k + 1)) = (setsR l (⟨(K.getD (i : Int).toNat []).toArray⟩ : ByteArray) 1 (l.take k)) ++ [(l.getD (k : Int).toNat default)] ∧ valsR l (⟨(K.getD (i : Int).toNat []).toArray⟩ : ByteArray) 1 (l.take (k + 1)) = (valsR l (⟨(K.getD (i : Int).toNat []).toArray⟩ : ByteArray) 1 (l.take k)) := fun h1 h2 h3 h4 => by
            rw [valsR, valsR, sA, sB, decide_eq_true h1, decide_eq_true h2, h3, decide_eq_true h4]; simp
          have o5 : (l.getD (k : Int).toNat default).key = (⟨(K.getD (i : Int).toNat []).toArray⟩ : ByteArray) → (l.getD (k : Int).toNat default).l = 1 → q = true → ¬ (l.getD (k : Int).toNat default).k = 3 → setsR l (⟨(K.getD (i : Int).toNat []).toArray⟩ : ByteArray) 1 (l.take (k + 1)) = (setsR l (⟨(K.getD (i : Int).toNat []).toArray⟩ : ByteArray) 1 (l.take k)) ∧ valsR l (⟨(K.getD (i : Int).toNat []).toArray⟩ : ByteArray) 1 (l.take (k + 1)) = withL (valsR l (⟨(K.getD (i : Int).toNat []).toArray⟩ : ByteArray) 1 (l.take k)) (strL (l.getD (k : Int).toNat default).v) := fun h1 h2 h3 h4 => by
            rw [valsR, valsR, sA, sB, decide_eq_true h1, decide_eq_true h2, h3, decide_eq_false h4]
            refine ⟨by simp, ?_⟩
            rw [if_pos (by rfl), List.map_append, List.map_cons, List.map_nil, withAll_snoc]
          have hwi := with_spec (valsR l (⟨(K.getD (i : Int).toNat []).toArray⟩ : ByteArray) 1 (l.take k)) (l.getD (k : Int).toNat default).v (by omega)
          have eqB {X Y : List Str} (h : X = Y) : OEq (.box 40 [.v (.string (⟨(K.getD (i : Int).toNat []).toArray⟩ : ByteArray)), .v (.bool (hasF (setsR l (⟨(K.getD (i : Int).toNat []).toArray⟩ : ByteArray) 0 l))), .v (.bool false), .v (.string (fieldF (setsR l (⟨(K.getD (i : Int).toNat []).toArray⟩ : ByteArray) 0 l))), .v (.string (⟨#[]⟩ : ByteArray)), .sl 1 (valsR l (⟨(K.getD (i : Int).toNat []).toArray⟩ : ByteArray) 0 l).length true (strF (valsR l (⟨(K.getD (i : Int).toNat []).toArray⟩ : ByteArray) 0 l)), .sl 1 X.length true (strF X)]) (.box 40 [.v (.string (⟨(K.getD (i : Int).toNat []).toArray⟩ : ByteArray)), .v (.bool (hasF (setsR l (⟨(K.getD (i : Int).toNat []).toArray⟩ : ByteArray) 0 l))), .v (.bool false), .v (.string (fieldF (setsR l (⟨(K.getD (i : Int).toNat []).toArray⟩ : ByteArray) 0 l))), .v (.string (⟨#[]⟩ : ByteArray)), .sl 1 (valsR l (⟨(K.getD (i : Int).toNat []).toArray⟩ : ByteArray) 0 l).length true (strF (valsR l (⟨(K.getD (i : Int).toNat []).toArray⟩ : ByteArray) 0 l)), .sl 1 Y.length true (strF Y)]) := by rw [h]; exact OEq.refl _
          have eqS {X Y : List St} (h : X = Y) : OEq (.row 77 2 X.length true (stF X)) (.row 77 2 Y.length true (stF Y)) := by rw [h]; exact OEq.refl _
          have eqT {X Y : List Str} (h : X = Y) : OEq (.row 9 1 X.length true (strF X)) (.row 9 1 Y.length true (strF Y)) := by rw [h]; exact OEq.refl _
          clear sA sB hP
          generalize setsR l (⟨(K.getD (i : Int).toNat []).toArray⟩ : ByteArray) 1 (l.take k) = A at *
          generalize valsR l (⟨(K.getD (i : Int).toNat []).toArray⟩ : ByteArray) 1 (l.take k) = V at *
          have lA1 : (A.map stampE).length = A.length := List.length_map ..
          have lA2 : (A.map fun e => strL e.v).length = A.length := List.length_map ..
          generalize withL V (strL (l.getD (k : Int).toNat default).v) = W at *
          dsimp only [Ev.av, Ev.cs] at hcs
          repeat' ((conv => whnf); first | refine Spl.yes (by first | assumption | omega) ?_ | refine Spl.no (by first | assumption | omega) ?_ | refine Wr.i64 (by omega) (by omega) ?_ | refine Still.mk rfl rfl ?_ | refine InB.mk (inB_mk (by omega) (by omega)) ?_ | refine Req.mk (by omega) ?_ | refine Req.mk ⟨by first | omega | (dsimp only; omega), by first | omega | (dsimp only; omega)⟩ ?_ | refine ACall.plain _ _ (hcs) (SubL.cons (.eq _) (SubL.cons (.eq _) .nil)) rfl ?_ | refine ACall.plain _ _ (hwi) (SubL.cons (.eq _) (SubL.cons (.eq _) .nil)) rfl ?_ | refine ARet.hdI ?_ | refine Spl.mk (fun _ => ?_) (fun _ => ?_) | refine Wr.b64 ?_ | refine Wr.bu64 ?_ | refine Wr.bu32 ?_ | refine Wr.bu8 ?_ | refine Wr.u8 (by omega) (by omega) ?_ | refine Wr.u64 (by omega) (by omega) ?_ | refine Wr.u32 (by omega) (by omega) ?_ | refine Dv.pos (by omega) (by omega) ?_ | refine Rm.pos (by omega) (by omega) ?_ | refine ADraw.quiet follows_ok (by kernel_rfl) rfl ?_ | refine ADraw.sched (id := 21) lay_ok (awp_snd lay_ok _) [(0, none), (1, none), (2, none), (3, none), (4, none), (5, none), (6, none), (7, none), (8, none), (9, none), (10, none), (11, none), (12, none), (13, none), (14, none), (15, none), (16, some [6, 5, 1, 11, 9, 15]), (17, none), (18, none)] [(6, [5, 1]), (7, [6, 5, 1]), (8, [6, 5, 1]), (9, [6, 5, 1]), (10, [6, 5, 1]), (11, [6, 5, 1, 9]), (12, [11, 6, 5, 1, 9]), (13, [6, 5, 1, 11, 9]), (14, [6, 5, 1, 11, 9]), (15, [6, 5, 1, 11, 9]), (16, [6, 5, 1, 11, 9, 15]), (17, [6, 5, 1, 11, 9, 15]), (18, [6, 5, 1, 11, 9, 15])] follows_ok (by kernel_rfl) ?_ | refine ADraw.sched (id := 25) lay_ok (awp_snd lay_ok _) [(0, none), (1, none), (2, none), (3, none), (4, none), (5, none), (6, none), (8, none), (7, some [6, 4]), (9, none), (10, some [6, 4])] [(7, [6, 4]), (9, [6, 4]), (10, [6, 4])] follows_ok (by kernel_rfl) ?_ | refine BSpl.decY (by first | assumption | omega) ?_ | refine BSpl.decN (by first | assumption | omega) ?_ | refine BSpl.dec (fun _ => ?_) (fun _ => ?_) | refine BSpl.yes (by assumption) ?_ | refine BSpl.no (by assumption) ?_ | refine BSpl.mk (fun _ => ?_) (fun _ => ?_))
          all_goals (conv => whnf)
          all_goals first
            | (obtain ⟨e1, e2⟩ := o4 (by assumption) (by assumption) (by assumption) (by assumption)
               refine ⟨⟨k + 1, hkl⟩, _, LeR.mk' [(96, 92), (98, 93)] _ _ _ rfl ⟨AEq.refl _, AEq.refl _, AEq.refl _, AEq.int rfl, AEq.refl _, AEq.int rfl, AEq.refl _, AEq.refl _, AEq.int rfl, trivial⟩ ⟨⟨_, rfl, eqB e2.symm⟩, ⟨_, rfl, OEq.row ?_ (fun m hm => ?_)⟩, ⟨_, rfl, OEq.row ?_ (fun m hm => ?_)⟩, ⟨_, rfl, OEq.refl _⟩, trivial⟩ rfl, Nat.sub_succ_lt_self _ _ hkl⟩
               · show _ = ((setsR l (⟨(K.getD (i : Int).toNat []).toArray⟩ : ByteArray) 1 (l.take (k + 1))).map stampE).length
                 rw [e1, List.map_append, List.length_append]
                 rfl
               · show _ = stF ((setsR l (⟨(K.getD (i : Int).toNat []).toArray⟩ : ByteArray) 1 (l.take (k + 1))).map stampE) m
                 rw [e1, List.map_append]
                 exact els_app1 (c := stC) rfl rfl m hm
               · show _ = ((setsR l (⟨(K.getD (i : Int).toNat []).toArray⟩ : ByteArray) 1 (l.take (k + 1))).map fun e => strL e.v).length
                 rw [e1, List.map_append, List.length_append]
                 rfl
               · show _ = strF ((setsR l (⟨(K.getD (i : Int).toNat []).toArray⟩ : ByteArray) 1 (l.take (k + 1))).map fun e => strL e.v) m
                 rw [e1, List.map_append]
                 exact str_app1 (x := strL (l.getD (k : Int).toNat default).v) rfl (by rw [enc_strL]; rfl) m hm)
            | (obtain ⟨e1, e2⟩ := o5 (by assumption) (by assumption) (by assumption) (by assumption)
               exact ⟨⟨k + 1, hkl⟩, _, LeR.mk' [] _ _ _ rfl ⟨AEq.refl _, AEq.refl _, AEq.refl _, AEq.int rfl, AEq.refl _, AEq.int rfl, AEq.refl _, AEq.refl _, AEq.int rfl, trivial⟩ ⟨⟨_, rfl, eqB e2.symm⟩, ⟨_, rfl, eqS (by rw [e1])⟩, ⟨_, rfl, eqT (by rw [e1])⟩, ⟨_, rfl, OEq.refl _⟩, trivial⟩ rfl, Nat.sub_succ_lt_self _ _ hkl⟩)
            | (obtain ⟨e1, e2⟩ : setsR l (⟨(K.getD (i : Int).toNat []).toArray⟩ : ByteArray) 1 (l.take (k + 1)) = A ∧ valsR l (⟨(K.getD (i : Int).toNat []).toArray⟩ : ByteArray) 1 (l.take (k + 1)) = V := by first | exact o1 (by assumption) | exact o2 (by assumption) | exact o3 (by assumption)
               exact ⟨⟨k + 1, hkl⟩, _, LeR.mk' [] _ _ _ rfl ⟨AEq.refl _, AEq.refl _, AEq.refl _, AEq.int rfl, AEq.refl _, AEq.int rfl, AEq.refl _, AEq.refl _, AEq.int rfl, trivial⟩ ⟨⟨_, rfl, eqB e2.symm⟩, ⟨_, rfl, eqS (by rw [e1])⟩, ⟨_, rfl, eqT (by rw [e1])⟩, ⟨_, rfl, OEq.refl _⟩, trivial⟩ rfl, Nat.sub_succ_lt_self _ _ hkl⟩)
        · rw [List.take_of_length_le (show l.length ≤ k by omega)] at hA hV ⊢
          have hHF : hasF (setsR l (⟨(K.getD (i : Int).toNat []).toArray⟩ : ByteArray) 1 l) = !decide ((setsR l (⟨(K.getD (i : Int).toNat []).toArray⟩ : ByteArray) 1 l).length = 0) := rfl
          have hFF : fieldF (setsR l (⟨(K.getD (i : Int).toNat []).toArray⟩ : ByteArray) 1 l) = if (setsR l (⟨(K.getD (i : Int).toNat []).toArray⟩ : ByteArray) 1 l).length = 0 then ⟨#[]⟩ else ⟨(((setsR l (⟨(K.getD (i : Int).toNat []).toArray⟩ : ByteArray) 1 l).map fun e => strL e.v).getD (lastN ((setsR l (⟨(K.getD (i : Int).toNat []).toArray⟩ : ByteArray) 1 l).map stampE)) []).toArray⟩ := rfl
          have hls := lastR_spec ((setsR l (⟨(K.getD (i : Int).toNat []).toArray⟩ : ByteArray) 1 l).map stampE) (by rw [List.length_map]; omega)
          have hlr : lastR ((setsR l (⟨(K.getD (i : Int).toNat []).toArray⟩ : ByteArray) 1 l).map stampE) = if (setsR l (⟨(K.getD (i : Int).toNat []).toArray⟩ : ByteArray) 1 l).length = 0 then -1 else (lastN ((setsR l (⟨(K.getD (i : Int).toNat []).toArray⟩ : ByteArray) 1 l).map stampE) : Int) := by rw [lastR, List.length_map]
          have hlt : ¬ (setsR l (⟨(K.getD (i : Int).toNat []).toArray⟩ : ByteArray) 1 l).length = 0 → lastN ((setsR l (⟨(K.getD (i : Int).toNat []).toArray⟩ : ByteArray) 1 l).map stampE) < (setsR l (⟨(K.getD (i : Int).toNat []).toArray⟩ : ByteArray) 1 l).length := fun h => by
            have := last_lt (l := (setsR l (⟨(K.getD (i : Int).toNat []).toArray⟩ : ByteArray) 1 l).map stampE) (fun e => h (by rw [← List.length_map (f := stampE), e]; rfl))
            rwa [List.length_map] at this
          have lA2 : ((setsR l (⟨(K.getD (i : Int).toNat []).toArray⟩ : ByteArray) 1 l).map fun e => strL e.v).length = (setsR l (⟨(K.getD (i : Int).toNat []).toArray⟩ : ByteArray) 1 l).length := List.length_map ..
          by_cases h0 : (setsR l (⟨(K.getD (i : Int).toNat []).toArray⟩ : ByteArray) 1 l).length = 0
          · rw [if_pos h0] at hFF hlr
            rw [decide_eq_true h0] at hHF
            rw [hlr] at hls
            repeat' ((conv => whnf); first | refine Spl.yes (by first | assumption | omega) ?_ | refine Spl.no (by first | assumption | omega) ?_ | refine Wr.i64 (by omega) (by omega) ?_ | refine Still.mk rfl rfl ?_ | refine InB.mk (inB_mk (by omega) (by omega)) ?_ | refine Req.mk (by omega) ?_ | refine Req.mk ⟨by first | omega | (dsimp only; omega), by first | omega | (dsimp only; omega)⟩ ?_ | refine ACall.plain _ _ (hls) (SubL.cons (.eq _) .nil) rfl ?_ | refine ARet.hdI ?_ | refine Spl.mk (fun _ => ?_) (fun _ => ?_) | refine Wr.b64 ?_ | refine Wr.bu64 ?_ | refine Wr.bu32 ?_ | refine Wr.bu8 ?_ | refine Wr.u8 (by omega) (by omega) ?_ | refine Wr.u64 (by omega) (by omega) ?_ | refine Wr.u32 (by omega) (by omega) ?_ | refine Dv.pos (by omega) (by omega) ?_ | refine Rm.pos (by omega) (by omega) ?_ | refine ADraw.quiet follows_ok (by kernel_rfl) rfl ?_ | refine ADraw.sched (id := 21) lay_ok (awp_snd lay_ok _) [(0, none), (1, none), (2, none), (3, none), (4, none), (5, none), (6, none), (7, none), (8, none), (9, none), (10, none), (11, none), (12, none), (13, none), (14, none), (15, none), (16, some [6, 5, 1, 11, 9, 15]), (17, none), (18, none)] [(6, [5, 1]), (7, [6, 5, 1]), (8, [6, 5, 1]), (9, [6, 5, 1]), (10, [6, 5, 1]), (11, [6, 5, 1, 9]), (12, [11, 6, 5, 1, 9]), (13, [6, 5, 1, 11, 9]), (14, [6, 5, 1, 11, 9]), (15, [6, 5, 1, 11, 9]), (16, [6, 5, 1, 11, 9, 15]), (17, [6, 5, 1, 11, 9, 15]), (18, [6, 5, 1, 11, 9, 15])] follows_ok (by kernel_rfl) ?_ | refine ADraw.sched (id := 25) lay_ok (awp_snd lay_ok _) [(0, none), (1, none), (2, none), (3, none), (4, none), (5, none), (6, none), (8, none), (7, some [6, 4]), (9, none), (10, some [6, 4])] [(7, [6, 4]), (9, [6, 4]), (10, [6, 4])] follows_ok (by kernel_rfl) ?_ | refine BSpl.decY (by first | assumption | omega) ?_ | refine BSpl.decN (by first | assumption | omega) ?_ | refine BSpl.dec (fun _ => ?_) (fun _ => ?_) | refine BSpl.yes (by assumption) ?_ | refine BSpl.no (by assumption) ?_ | refine BSpl.mk (fun _ => ?_) (fun _ => ?_))
            conv => whnf
            refine ⟨⟨2, by omega⟩, _, LeR.mk' [] _ _ _ rfl ⟨AEq.refl _, AEq.refl _, AEq.refl _, AEq.int rfl, AEq.refl _, AEq.int rfl, trivial⟩ ⟨⟨_, rfl, ?_⟩, ⟨_, rfl, OEq.refl _⟩, trivial⟩ rfl, by show 2 - 2 < 2 - 1; omega⟩
            rw [hHF, hFF]
            exact OEq.refl _
          · rw [if_neg h0] at hFF hlr
            rw [decide_eq_false h0] at hHF
            rw [hlr] at hls
            have hlt2 := hlt h0
            clear hlt
            generalize lastN ((setsR l (⟨(K.getD (i : Int).toNat []).toArray⟩ : ByteArray) 1 l).map stampE) = m at *
            repeat' ((conv => whnf); first | refine Spl.yes (by first | assumption | omega) ?_ | refine Spl.no (by first | assumption | omega) ?_ | refine Wr.i64 (by omega) (by omega) ?_ | refine Still.mk rfl rfl ?_ | refine InB.mk (inB_mk (by omega) (by omega)) ?_ | refine Req.mk (by omega) ?_ | refine Req.mk ⟨by first | omega | (dsimp only; omega), by first | omega | (dsimp only; omega)⟩ ?_ | refine ACall.plain _ _ (hls) (SubL.cons (.eq _) .nil) rfl ?_ | refine ARet.hdI ?_ | refine Spl.mk (fun _ => ?_) (fun _ => ?_) | refine Wr.b64 ?_ | refine Wr.bu64 ?_ | refine Wr.bu32 ?_ | refine Wr.bu8 ?_ | refine Wr.u8 (by omega) (by omega) ?_ | refine Wr.u64 (by omega) (by omega) ?_ | refine Wr.u32 (by omega) (by omega) ?_ | refine Dv.pos (by omega) (by omega) ?_ | refine Rm.pos (by omega) (by omega) ?_ | refine ADraw.quiet follows_ok (by kernel_rfl) rfl ?_ | refine ADraw.sched (id := 21) lay_ok (awp_snd lay_ok _) [(0, none), (1, none), (2, none), (3, none), (4, none), (5, none), (6, none), (7, none), (8, none), (9, none), (10, none), (11, none), (12, none), (13, none), (14, none), (15, none), (16, some [6, 5, 1, 11, 9, 15]), (17, none), (18, none)] [(6, [5, 1]), (7, [6, 5, 1]), (8, [6, 5, 1]), (9, [6, 5, 1]), (10, [6, 5, 1]), (11, [6, 5, 1, 9]), (12, [11, 6, 5, 1, 9]), (13, [6, 5, 1, 11, 9]), (14, [6, 5, 1, 11, 9]), (15, [6, 5, 1, 11, 9]), (16, [6, 5, 1, 11, 9, 15]), (17, [6, 5, 1, 11, 9, 15]), (18, [6, 5, 1, 11, 9, 15])] follows_ok (by kernel_rfl) ?_ | refine ADraw.sched (id := 25) lay_ok (awp_snd lay_ok _) [(0, none), (1, none), (2, none), (3, none), (4, none), (5, none), (6, none), (8, none), (7, some [6, 4]), (9, none), (10, some [6, 4])] [(7, [6, 4]), (9, [6, 4]), (10, [6, 4])] follows_ok (by kernel_rfl) ?_ | refine BSpl.decY (by first | assumption | omega) ?_ | refine BSpl.decN (by first | assumption | omega) ?_ | refine BSpl.dec (fun _ => ?_) (fun _ => ?_) | refine BSpl.yes (by assumption) ?_ | refine BSpl.no (by assumption) ?_ | refine BSpl.mk (fun _ => ?_) (fun _ => ?_))
            rotate_left
            · exact absurd (show Nat.ble _ _ = false by assumption) (by rw [Bool.not_eq_false, Nat.ble_eq]; omega)
            conv => whnf
            refine ⟨⟨2, by omega⟩, _, LeR.mk' [] _ _ _ rfl ⟨AEq.refl _, AEq.refl _, AEq.refl _, AEq.int rfl, AEq.refl _, AEq.int rfl, trivial⟩ ⟨⟨_, rfl, ?_⟩, ⟨_, rfl, OEq.refl _⟩, trivial⟩ rfl, by show 2 - 2 < 2 - 1; omega⟩
            rw [hHF, hFF]
            exact OEq.refl _
      · repeat' ((conv => whnf); first | refine Spl.yes (by first | assumption | omega) ?_ | refine Spl.no (by first | assumption | omega) ?_ | refine Wr.i64 (by omega) (by omega) ?_ | refine Still.mk rfl rfl ?_ | refine InB.mk (inB_mk (by omega) (by omega)) ?_ | refine Req.mk (by omega) ?_ | refine Req.mk ⟨by first | omega | (dsimp only; omega), by first | omega | (dsimp only; omega)⟩ ?_ | refine ARet.hdI ?_ | refine Spl.mk (fun _ => ?_) (fun _ => ?_) | refine Wr.b64 ?_ | refine Wr.bu64 ?_ | refine Wr.bu32 ?_ | refine Wr.bu8 ?_ | refine Wr.u8 (by omega) (by omega) ?_ | refine Wr.u64 (by omega) (by omega) ?_ | refine Wr.u32 (by omega) (by omega) ?_ | refine Dv.pos (by omega) (by omega) ?_ | refine Rm.pos (by omega) (by omega) ?_ | refine ADraw.quiet follows_ok (by kernel_rfl) rfl ?_ | refine ADraw.sched (id := 21) lay_ok (awp_snd lay_ok _) [(0, none), (1, none), (2, none), (3, none), (4, none), (5, none), (6, none), (7, none), (8, none), (9, none), (10, none), (11, none), (12, none), (13, none), (14, none), (15, none), (16, some [6, 5, 1, 11, 9, 15]), (17, none), (18, none)] [(6, [5, 1]), (7, [6, 5, 1]), (8, [6, 5, 1]), (9, [6, 5, 1]), (10, [6, 5, 1]), (11, [6, 5, 1, 9]), (12, [11, 6, 5, 1, 9]), (13, [6, 5, 1, 11, 9]), (14, [6, 5, 1, 11, 9]), (15, [6, 5, 1, 11, 9]), (16, [6, 5, 1, 11, 9, 15]), (17, [6, 5, 1, 11, 9, 15]), (18, [6, 5, 1, 11, 9, 15])] follows_ok (by kernel_rfl) ?_ | refine ADraw.sched (id := 25) lay_ok (awp_snd lay_ok _) [(0, none), (1, none), (2, none), (3, none), (4, none), (5, none), (6, none), (8, none), (7, some [6, 4]), (9, none), (10, some [6, 4])] [(7, [6, 4]), (9, [6, 4]), (10, [6, 4])] follows_ok (by kernel_rfl) ?_ | refine BSpl.decY (by first | assumption | omega) ?_ | refine BSpl.decN (by first | assumption | omega) ?_ | refine BSpl.dec (fun _ => ?_) (fun _ => ?_) | refine BSpl.yes (by assumption) ?_ | refine BSpl.no (by assumption) ?_ | refine BSpl.mk (fun _ => ?_) (fun _ => ?_))
        conv => whnf
        refine ⟨⟨i + 1, hil⟩, _, LeR.mk' [(93, 90)] _ _ _ rfl ⟨AEq.refl _, AEq.refl _, AEq.refl _, AEq.int rfl, trivial⟩ ⟨⟨_, rfl, OEq.rowF ?_ (fun m hm => ?_)⟩, trivial⟩ rfl, Nat.sub_succ_lt_self _ _ hil⟩
        · show _ = ((K.take (i + 1)).map fun k => contactR l ⟨k.toArray⟩).length
          rw [hg, List.length_append]
          rfl
        · show _ = coF ((K.take (i + 1)).map fun k => contactR l ⟨k.toArray⟩) m
          rw [hg]
          exact els_app1 (c := Cont.cs) rfl rfl m hm
    · rw [List.take_of_length_le (show K.length ≤ i by omega)] at lo ⊢
      rw [hof]
      repeat' ((conv => whnf); first | refine Spl.yes (by first | assumption | omega) ?_ | refine Spl.no (by first | assumption | omega) ?_ | refine Wr.i64 (by omega) (by omega) ?_ | refine Still.mk rfl rfl ?_ | refine InB.mk (inB_mk (by omega) (by omega)) ?_ | refine Req.mk (by omega) ?_ | refine Req.mk ⟨by first | omega | (dsimp only; omega), by first | omega | (dsimp only; omega)⟩ ?_ | refine ARet.hdI ?_ | refine Spl.mk (fun _ => ?_) (fun _ => ?_) | refine Wr.b64 ?_ | refine Wr.bu64 ?_ | refine Wr.bu32 ?_ | refine Wr.bu8 ?_ | refine Wr.u8 (by omega) (by omega) ?_ | refine Wr.u64 (by omega) (by omega) ?_ | refine Wr.u32 (by omega) (by omega) ?_ | refine Dv.pos (by omega) (by omega) ?_ | refine Rm.pos (by omega) (by omega) ?_ | refine ADraw.quiet follows_ok (by kernel_rfl) rfl ?_ | refine ADraw.sched (id := 21) lay_ok (awp_snd lay_ok _) [(0, none), (1, none), (2, none), (3, none), (4, none), (5, none), (6, none), (7, none), (8, none), (9, none), (10, none), (11, none), (12, none), (13, none), (14, none), (15, none), (16, some [6, 5, 1, 11, 9, 15]), (17, none), (18, none)] [(6, [5, 1]), (7, [6, 5, 1]), (8, [6, 5, 1]), (9, [6, 5, 1]), (10, [6, 5, 1]), (11, [6, 5, 1, 9]), (12, [11, 6, 5, 1, 9]), (13, [6, 5, 1, 11, 9]), (14, [6, 5, 1, 11, 9]), (15, [6, 5, 1, 11, 9]), (16, [6, 5, 1, 11, 9, 15]), (17, [6, 5, 1, 11, 9, 15]), (18, [6, 5, 1, 11, 9, 15])] follows_ok (by kernel_rfl) ?_ | refine ADraw.sched (id := 25) lay_ok (awp_snd lay_ok _) [(0, none), (1, none), (2, none), (3, none), (4, none), (5, none), (6, none), (8, none), (7, some [6, 4]), (9, none), (10, some [6, 4])] [(7, [6, 4]), (9, [6, 4]), (10, [6, 4])] follows_ok (by kernel_rfl) ?_ | refine BSpl.decY (by first | assumption | omega) ?_ | refine BSpl.decN (by first | assumption | omega) ?_ | refine BSpl.dec (fun _ => ?_) (fun _ => ?_) | refine BSpl.yes (by assumption) ?_ | refine BSpl.no (by assumption) ?_ | refine BSpl.mk (fun _ => ?_) (fun _ => ?_))
      conv => whnf
      exact AEqI.mk (AEq.refl _)
end Go.Proofs.Ytihjfndkgmjanaa
