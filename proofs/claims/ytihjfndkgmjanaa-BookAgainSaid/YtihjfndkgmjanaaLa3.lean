/-
  BookLast: the walk.
-/
import Derived.Test.YtihjfndkgmjanaaLa2
import Derived.Test.YtihjfndkgmjanaaPs3
import Derived.Test.YtihjfndkgmjanaaAp2
namespace Go.Proofs.Ytihjfndkgmjanaa
open Go.RowKit

theorem AEq.isE {α : Type} [Inhabited α] {c : α → List AV} {s n : Nat} {sc : Bool} {F : Nat → List AV} {l : List α} (h : IsE c F l) (hn : n = l.length) : AEq (.sl s n sc F) (.sl s l.length sc (elsF c l)) :=
  AEq.sl hn fun i hi => h i (by omega)
theorem make_isE {Z : List Ch0} (hl : Z.length ≤ 100000) (hr : ∀ c ∈ Z, c.rng) {n : Nat} {F : Nat → List AV} (h : IsE Ch0.cs F Z) (hn : n = Z.length) :
    ASpec Try.prog 22 [.sl 7 n true F] (.sl 12 (makeL Z).length true (evF (makeL Z))) [] :=
  (make_spec Z hl hr).args (.of (fun X u hu => AEq.isE h hn X u hu) .nil)
theorem every_rng : ∀ c ∈ everyL, c.rng := fun c hc => by
  have : ∀ f : Int, 0 ≤ f → f ≤ 255 → (syn f).rng := fun f h0 h1 => by
    unfold syn Ch0.rng
    simp only
    have : (⟨#[]⟩ : ByteArray).size = 0 := rfl
    omega
  simp only [everyL, List.mem_cons, List.not_mem_nil, or_false] at hc
  rcases hc with rfl | rfl | rfl | rfl <;> exact this _ (by omega) (by omega)
def lastC (x : Ch0) : Ch0 := ⟨0, x.f, false, x.k, x.key, x.l, x.v⟩
theorem IsE.one {α : Type} [Inhabited α] {c : α → List AV} {G : Nat → List AV} {x : α} (h : G 0 = c x) : IsE c G [x] := fun i hi => by
  have hi : i < 1 := hi
  obtain rfl : i = 0 := by omega
  exact h
theorem make_last {S : List Ch0} {x : Ch0} (hS : S.length ≤ 40) (hr : ∀ c ∈ S, c.rng) (hx : x.rng) {n1 n2 n3 n : Nat} {F0 G : Nat → List AV} (e1 : n1 = 0) (e2 : n2 = S.length) (e3 : n3 = S.length + 4) (e4 : n = S.length + 5) (hG : G 0 = Ch0.cs (lastC x)) :
    ASpec Try.prog 22 [.sl 7 n true (appF n3 (appF n2 (appF n1 F0 (chF S)) (chF everyL)) G)] (.sl 12 (makeL (S ++ everyL ++ [lastC x])).length true (evF (makeL (S ++ everyL ++ [lastC x])))) [] := by
  have hE : IsE Ch0.cs (appF n3 (appF n2 (appF n1 F0 (chF S)) (chF everyL)) G) ([] ++ S ++ everyL ++ [lastC x]) :=
    (((IsE.nil _).app (IsE.refl S) e1).app (IsE.refl everyL) (by simpa using e2)).app (IsE.one hG) (by simp [everyL]; exact e3)
  rw [List.nil_append] at hE
  refine make_isE (by simp [everyL]; omega) (fun c hc => ?_) hE (by simp [everyL]; omega)
  rcases List.mem_append.1 hc with hc | hc
  · rcases List.mem_append.1 hc with hc | hc
    · exact hr c hc
    · exact every_rng c hc
  · rw [List.mem_singleton.1 hc]
    obtain ⟨_, h2, h3⟩ := hx
    exact ⟨⟨by unfold lastC; simp, by unfold lastC; simp⟩, h2, h3⟩
def isP (v : ByteArray) (y : Str) : Bool := decide ((⟨y.toArray⟩ : ByteArray) = v)
theorem any_tk {v : ByteArray} {l : List Str} {j : Nat} (h : j < l.length) : (l.take (j + 1)).any (isP v) = ((l.take j).any (isP v) || isP v (l.getD (j : Int).toNat [])) := by
  rw [Int.toNat_natCast, List.take_add_one, List.getElem?_eq_getElem h, List.getD, List.getElem?_eq_getElem h, List.any_append]
  simp
theorem any_mem {v : ByteArray} {l : List Str} : l.any (isP v) = decide (strL v ∈ l) := by
  rw [Bool.eq_iff_iff, List.any_eq_true, decide_eq_true_eq]
  constructor
  · rintro ⟨x, hx, h⟩
    have h : (⟨x.toArray⟩ : ByteArray) = v := of_decide_eq_true h
    rw [← h]
    exact hx
  · intro h
    exact ⟨_, h, decide_eq_true (arrS v)⟩
/-- What the walk asks of an event, of what was, and of what is. -/
structure LastW (W V : List Ev) (A B : List Cont) (E : Ev) (I K : Int) (O : List Cont) : Prop where
  len : V.length = W.length + 1
  small : V.length ≤ 41
  k : 1 ≤ E.k ∧ E.k ≤ 5
  l : E.l = 0 ∨ E.l = 1
  two : E.k = 2 → K = -1
  one : E.k = 1 → 0 ≤ K
  more : 3 ≤ E.k → (I = -1 ∧ K = -1) ∨ (0 ≤ I ∧ I < (A.length : Int) ∧ 0 ≤ K ∧ K < (B.length : Int) ∧ CR E (A.getD I.toNat default) (B.getD K.toNat default))
  few : A.length ≤ 40 ∧ B.length ≤ 41
  sets : ∀ i, (B.getD i default).s0.length ≤ 41 ∧ (B.getD i default).s1.length ≤ 41
  setsA : ∀ i, (A.getD i default).s0.length ≤ 41 ∧ (A.getD i default).s1.length ≤ 41
theorem sets_get (w : List Ev) (hw : w.length ≤ 41) (i : Nat) : ((ofB w).getD i default).s0.length ≤ 41 ∧ ((ofB w).getD i default).s1.length ≤ 41 := by
  by_cases h : i < (ofB w).length
  · have := of_sets w ((ofB w).getD i default) (by rw [getC h]; exact List.getElem_mem h)
    omega
  · rw [List.getD, List.getElem?_eq_none (by omega)]
    exact ⟨Nat.zero_le _, Nat.zero_le _⟩

set_option maxHeartbeats 16000000 in
set_option maxRecDepth 100000 in
theorem last_walk (S : List Ch0) (l : List Ch0) (x : Ch0) (hS : S = l.take 40) (hr : ∀ c ∈ S, c.rng) (hx : x.rng) (W V : List Ev) (A B O : List Cont) (I K : Int)
    (hW : makeL S = W) (hV : makeL (S ++ everyL ++ [lastC x]) = V) (hA : ofB W = A) (hB : ofB V = B)
    (hI : placeI A (V.getD (W.length : Int).toNat default).key = I) (hK : placeI B (V.getD (W.length : Int).toNat default).key = K)
    (hOA : woL A (V.getD (W.length : Int).toNat default).key = O) (hOB : woL B (V.getD (W.length : Int).toNat default).key = O)
    (hL : LastW W V A B (V.getD (W.length : Int).toNat default) I K O) :
    ASpec Try.prog 7 [.sl 7 l.length true (chF l), x.av] (.v (.bool true)) [] := by
  obtain ⟨hlen, hsm, hk, hl, htwo, hone, hmore, hfew, hsets, hsetsA⟩ := hL
  have hSl : S.length ≤ 40 := by rw [hS, List.length_take]; omega
  have hsh := shown_spec
  have hst := short_spec l
  rw [← hS] at hst
  have hev := every_spec
  have hmw := make_spec S (by omega) hr
  rw [hW] at hmw
  have hmv := fun {n1 n2 n3 n : Nat} {F0 G : Nat → List AV} => make_last (S := S) (x := x) hSl hr hx (n1 := n1) (n2 := n2) (n3 := n3) (n := n) (F0 := F0) (G := G)
  rw [hV] at hmv
  have hofW := of_spec W (by omega)
  have hofV := of_spec V (by omega)
  rw [hA] at hofW
  rw [hB] at hofV
  have hpA := place_spec A (V.getD (W.length : Int).toNat default).key (by omega)
  have hpB := place_spec B (V.getD (W.length : Int).toNat default).key (by omega)
  rw [hI] at hpA
  rw [hK] at hpB
  have hwA := without_spec A (V.getD (W.length : Int).toNat default).key (by omega)
  have hwB := without_spec B (V.getD (W.length : Int).toNat default).key (by omega)
  rw [hOA] at hwA
  rw [hOB] at hwB
  have hOl : O.length ≤ 40 := by
    have : (woL A (V.getD (W.length : Int).toNat default).key).length ≤ A.length := List.length_filter_le ..
    rw [hOA] at this
    omega
  have hOs : ∀ c ∈ O, c.s0.length ≤ 140737488355328 ∧ c.s1.length ≤ 140737488355328 := fun c hc => by
    rw [← hOA] at hc
    obtain ⟨i, hi, rfl⟩ := List.getElem_of_mem (List.mem_filter.1 hc).1
    have := hsetsA i
    rw [getC hi] at this
    omega
  have hsa := same_spec O O false false true (by simp) (by omega) hOs
  obtain ⟨xr, xf, xs, xk, xkey, xl, xv⟩ := x
  clear hW hV hA hB hI hK hOA hOB hr hx hS hOs
  dsimp only [Ch0.av, Ch0.cs]
  rcases (show (V.getD (W.length : Int).toNat default).k = 2 ∨ (V.getD (W.length : Int).toNat default).k = 1 ∨ 3 ≤ (V.getD (W.length : Int).toNat default).k by omega) with k2 | k1 | k3
  · have hK := htwo k2
    clear hone hmore hsets hsetsA
    refine aspec_of lay_ok 803469022129495160072069185605246744249140544134031667625979 Try.func7 rfl rfl rfl ?_
    repeat' ((conv => whnf); first | refine Spl.yes (by first | assumption | omega) ?_ | refine Spl.no (by first | assumption | omega) ?_ | refine Wr.i64 (by omega) (by omega) ?_ | refine Still.mk rfl rfl ?_ | refine InB.mk (inB_mk (by omega) (by omega)) ?_ | refine Req.mk (by omega) ?_ | refine Req.mk ⟨by first | omega | (dsimp only; omega), by first | omega | (dsimp only; omega)⟩ ?_ | refine ACall.plain _ _ (hsh) .nil rfl ?_ | refine ACall.plain _ _ (hst) (SubL.cons (.eq _) .nil) rfl ?_ | refine ACall.plain _ _ (hev) .nil rfl ?_ | refine ACall.plain _ _ (hmw) (SubL.cons (.eq _) .nil) rfl ?_ | refine ACall.plain _ _ (hmv (by omega) (by omega) (by omega) (by omega) (by rfl)) (SubL.cons (.eq _) .nil) rfl ?_ | refine ACall.plain _ _ (hofW) (SubL.cons (.eq _) .nil) rfl ?_ | refine ACall.plain _ _ (hofV) (SubL.cons (.eq _) .nil) rfl ?_ | refine ACall.plain _ _ (hpA) (SubL.cons (.eq _) (SubL.cons (.eq _) .nil)) rfl ?_ | refine ACall.plain _ _ (hpB) (SubL.cons (.eq _) (SubL.cons (.eq _) .nil)) rfl ?_ | refine ACall.plain _ _ (hwA) (SubL.cons (.eq _) (SubL.cons (.eq _) .nil)) rfl ?_ | refine ACall.plain _ _ (hwB) (SubL.cons (.eq _) (SubL.cons (.eq _) .nil)) rfl ?_ | refine ACall.plain _ _ (hsa) (SubL.cons (.eq _) (SubL.cons (.eq _) .nil)) rfl ?_ | refine ARet.hdI ?_ | refine Spl.mk (fun _ => ?_) (fun _ => ?_) | refine InA.mk (inB_mk (by omega) (by omega)) ?_ | refine Wr.b64 ?_ | refine Wr.bu64 ?_ | refine Wr.bu32 ?_ | refine Wr.bu8 ?_ | refine Wr.u8 (by omega) (by omega) ?_ | refine Wr.u64 (by omega) (by omega) ?_ | refine Wr.u32 (by omega) (by omega) ?_ | refine Dv.pos (by omega) (by omega) ?_ | refine Rm.pos (by omega) (by omega) ?_ | refine ADraw.quiet follows_ok (by kernel_rfl) rfl ?_ | refine ADraw.sched (id := 16) lay_ok (awp_snd lay_ok _) [(0, none), (1, none), (2, none), (4, none), (5, none), (6, none), (3, some [2]), (7, some [2, 6]), (8, some [2, 6]), (9, none), (10, none), (11, none), (12, none), (13, none), (14, none), (15, none), (16, none), (17, none), (18, none)] [(3, [2]), (7, [2, 6]), (8, [2, 6]), (9, [2, 6]), (10, [2, 6]), (11, [2, 6]), (12, [2, 6]), (13, [2, 6]), (14, [2, 6]), (15, [2, 6]), (16, [2, 6]), (17, [2, 6]), (18, [2, 6])] follows_ok (by kernel_rfl) ?_ | refine ADraw.sched (id := 17) lay_ok (awp_snd lay_ok _) [(0, none), (1, none), (2, none), (3, none), (4, none), (6, none), (7, none), (8, none), (5, some [4]), (9, some [4, 8]), (10, some [4, 8]), (11, none), (12, none)] [(5, [4]), (9, [4, 8]), (10, [4, 8]), (11, [4, 8]), (12, [4, 8])] follows_ok (by kernel_rfl) ?_ | refine BSpl.decY (by first | assumption | omega) ?_ | refine BSpl.decN (by first | assumption | omega) ?_ | refine BSpl.dec (fun _ => ?_) (fun _ => ?_) | refine BSpl.yes (by assumption) ?_ | refine BSpl.no (by assumption) ?_ | refine BSpl.mk (fun _ => ?_) (fun _ => ?_))
    all_goals (conv => whnf)
    all_goals exact AEqI.mk (AEq.refl _)
  · have hK := hone k1
    clear htwo hmore hsets hsetsA
    refine aspec_of lay_ok 803469022129495160072069185605246744249140544134031667625979 Try.func7 rfl rfl rfl ?_
    repeat' ((conv => whnf); first | refine Spl.yes (by first | assumption | omega) ?_ | refine Spl.no (by first | assumption | omega) ?_ | refine Wr.i64 (by omega) (by omega) ?_ | refine Still.mk rfl rfl ?_ | refine InB.mk (inB_mk (by omega) (by omega)) ?_ | refine Req.mk (by omega) ?_ | refine Req.mk ⟨by first | omega | (dsimp only; omega), by first | omega | (dsimp only; omega)⟩ ?_ | refine ACall.plain _ _ (hsh) .nil rfl ?_ | refine ACall.plain _ _ (hst) (SubL.cons (.eq _) .nil) rfl ?_ | refine ACall.plain _ _ (hev) .nil rfl ?_ | refine ACall.plain _ _ (hmw) (SubL.cons (.eq _) .nil) rfl ?_ | refine ACall.plain _ _ (hmv (by omega) (by omega) (by omega) (by omega) (by rfl)) (SubL.cons (.eq _) .nil) rfl ?_ | refine ACall.plain _ _ (hofW) (SubL.cons (.eq _) .nil) rfl ?_ | refine ACall.plain _ _ (hofV) (SubL.cons (.eq _) .nil) rfl ?_ | refine ACall.plain _ _ (hpA) (SubL.cons (.eq _) (SubL.cons (.eq _) .nil)) rfl ?_ | refine ACall.plain _ _ (hpB) (SubL.cons (.eq _) (SubL.cons (.eq _) .nil)) rfl ?_ | refine ACall.plain _ _ (hwA) (SubL.cons (.eq _) (SubL.cons (.eq _) .nil)) rfl ?_ | refine ACall.plain _ _ (hwB) (SubL.cons (.eq _) (SubL.cons (.eq _) .nil)) rfl ?_ | refine ACall.plain _ _ (hsa) (SubL.cons (.eq _) (SubL.cons (.eq _) .nil)) rfl ?_ | refine ARet.hdI ?_ | refine Spl.mk (fun _ => ?_) (fun _ => ?_) | refine InA.mk (inB_mk (by omega) (by omega)) ?_ | refine Wr.b64 ?_ | refine Wr.bu64 ?_ | refine Wr.bu32 ?_ | refine Wr.bu8 ?_ | refine Wr.u8 (by omega) (by omega) ?_ | refine Wr.u64 (by omega) (by omega) ?_ | refine Wr.u32 (by omega) (by omega) ?_ | refine Dv.pos (by omega) (by omega) ?_ | refine Rm.pos (by omega) (by omega) ?_ | refine ADraw.quiet follows_ok (by kernel_rfl) rfl ?_ | refine ADraw.sched (id := 16) lay_ok (awp_snd lay_ok _) [(0, none), (1, none), (2, none), (4, none), (5, none), (6, none), (3, some [2]), (7, some [2, 6]), (8, some [2, 6]), (9, none), (10, none), (11, none), (12, none), (13, none), (14, none), (15, none), (16, none), (17, none), (18, none)] [(3, [2]), (7, [2, 6]), (8, [2, 6]), (9, [2, 6]), (10, [2, 6]), (11, [2, 6]), (12, [2, 6]), (13, [2, 6]), (14, [2, 6]), (15, [2, 6]), (16, [2, 6]), (17, [2, 6]), (18, [2, 6])] follows_ok (by kernel_rfl) ?_ | refine ADraw.sched (id := 17) lay_ok (awp_snd lay_ok _) [(0, none), (1, none), (2, none), (3, none), (4, none), (6, none), (7, none), (8, none), (5, some [4]), (9, some [4, 8]), (10, some [4, 8]), (11, none), (12, none)] [(5, [4]), (9, [4, 8]), (10, [4, 8]), (11, [4, 8]), (12, [4, 8])] follows_ok (by kernel_rfl) ?_ | refine BSpl.decY (by first | assumption | omega) ?_ | refine BSpl.decN (by first | assumption | omega) ?_ | refine BSpl.dec (fun _ => ?_) (fun _ => ?_) | refine BSpl.yes (by assumption) ?_ | refine BSpl.no (by assumption) ?_ | refine BSpl.mk (fun _ => ?_) (fun _ => ?_))
    all_goals (conv => whnf)
    all_goals exact AEqI.mk (AEq.refl _)
  · rcases hmore k3 with ⟨hI, hK⟩ | ⟨i0, i1, j0, j1, cr⟩
    · clear htwo hone hmore hsets hsetsA
      refine aspec_of lay_ok 803469022129495160072069185605246744249140544134031667625979 Try.func7 rfl rfl rfl ?_
      repeat' ((conv => whnf); first | refine Spl.yes (by first | assumption | omega) ?_ | refine Spl.no (by first | assumption | omega) ?_ | refine Wr.i64 (by omega) (by omega) ?_ | refine Still.mk rfl rfl ?_ | refine InB.mk (inB_mk (by omega) (by omega)) ?_ | refine Req.mk (by omega) ?_ | refine Req.mk ⟨by first | omega | (dsimp only; omega), by first | omega | (dsimp only; omega)⟩ ?_ | refine ACall.plain _ _ (hsh) .nil rfl ?_ | refine ACall.plain _ _ (hst) (SubL.cons (.eq _) .nil) rfl ?_ | refine ACall.plain _ _ (hev) .nil rfl ?_ | refine ACall.plain _ _ (hmw) (SubL.cons (.eq _) .nil) rfl ?_ | refine ACall.plain _ _ (hmv (by omega) (by omega) (by omega) (by omega) (by rfl)) (SubL.cons (.eq _) .nil) rfl ?_ | refine ACall.plain _ _ (hofW) (SubL.cons (.eq _) .nil) rfl ?_ | refine ACall.plain _ _ (hofV) (SubL.cons (.eq _) .nil) rfl ?_ | refine ACall.plain _ _ (hpA) (SubL.cons (.eq _) (SubL.cons (.eq _) .nil)) rfl ?_ | refine ACall.plain _ _ (hpB) (SubL.cons (.eq _) (SubL.cons (.eq _) .nil)) rfl ?_ | refine ACall.plain _ _ (hwA) (SubL.cons (.eq _) (SubL.cons (.eq _) .nil)) rfl ?_ | refine ACall.plain _ _ (hwB) (SubL.cons (.eq _) (SubL.cons (.eq _) .nil)) rfl ?_ | refine ACall.plain _ _ (hsa) (SubL.cons (.eq _) (SubL.cons (.eq _) .nil)) rfl ?_ | refine ARet.hdI ?_ | refine Spl.mk (fun _ => ?_) (fun _ => ?_) | refine InA.mk (inB_mk (by omega) (by omega)) ?_ | refine Wr.b64 ?_ | refine Wr.bu64 ?_ | refine Wr.bu32 ?_ | refine Wr.bu8 ?_ | refine Wr.u8 (by omega) (by omega) ?_ | refine Wr.u64 (by omega) (by omega) ?_ | refine Wr.u32 (by omega) (by omega) ?_ | refine Dv.pos (by omega) (by omega) ?_ | refine Rm.pos (by omega) (by omega) ?_ | refine ADraw.quiet follows_ok (by kernel_rfl) rfl ?_ | refine ADraw.sched (id := 16) lay_ok (awp_snd lay_ok _) [(0, none), (1, none), (2, none), (4, none), (5, none), (6, none), (3, some [2]), (7, some [2, 6]), (8, some [2, 6]), (9, none), (10, none), (11, none), (12, none), (13, none), (14, none), (15, none), (16, none), (17, none), (18, none)] [(3, [2]), (7, [2, 6]), (8, [2, 6]), (9, [2, 6]), (10, [2, 6]), (11, [2, 6]), (12, [2, 6]), (13, [2, 6]), (14, [2, 6]), (15, [2, 6]), (16, [2, 6]), (17, [2, 6]), (18, [2, 6])] follows_ok (by kernel_rfl) ?_ | refine ADraw.sched (id := 17) lay_ok (awp_snd lay_ok _) [(0, none), (1, none), (2, none), (3, none), (4, none), (6, none), (7, none), (8, none), (5, some [4]), (9, some [4, 8]), (10, some [4, 8]), (11, none), (12, none)] [(5, [4]), (9, [4, 8]), (10, [4, 8]), (11, [4, 8]), (12, [4, 8])] follows_ok (by kernel_rfl) ?_ | refine BSpl.decY (by first | assumption | omega) ?_ | refine BSpl.decN (by first | assumption | omega) ?_ | refine BSpl.dec (fun _ => ?_) (fun _ => ?_) | refine BSpl.yes (by assumption) ?_ | refine BSpl.no (by assumption) ?_ | refine BSpl.mk (fun _ => ?_) (fun _ => ?_))
      all_goals (conv => whnf)
      all_goals exact AEqI.mk (AEq.refl _)
    · have sB := hsets K.toNat
      have sA := hsetsA I.toNat
      clear htwo hone hmore hsets hsetsA
      obtain ⟨lab0, lab1, set0, set1, oth, in0, in1⟩ := cr
      refine aspec_of lay_ok 803469022129495160072069185605246744249140544134031667625979 Try.func7 rfl rfl rfl ?_
      rcases hl with hl | hl
      · have hlo : 1 - (V.getD (W.length : Int).toNat default).l = ((1 : Nat) : Int) := by omega
        obtain ⟨n1, n2, n3⟩ := lab0 hl
        have set0 := fun h => set0 h hl
        have in0 := fun h => in0 h hl
        repeat' ((conv => whnf); first | refine Spl.yes (by first | assumption | omega) ?_ | refine Spl.no (by first | assumption | omega) ?_ | refine Wr.i64 (by omega) (by omega) ?_ | refine Still.mk rfl rfl ?_ | refine InB.mk (inB_mk (by omega) (by omega)) ?_ | refine Req.mk (by omega) ?_ | refine Req.mk ⟨by first | omega | (dsimp only; omega), by first | omega | (dsimp only; omega)⟩ ?_ | refine ACall.plain _ _ (hsh) .nil rfl ?_ | refine ACall.plain _ _ (hst) (SubL.cons (.eq _) .nil) rfl ?_ | refine ACall.plain _ _ (hev) .nil rfl ?_ | refine ACall.plain _ _ (hmw) (SubL.cons (.eq _) .nil) rfl ?_ | refine ACall.plain _ _ (hmv (by omega) (by omega) (by omega) (by omega) (by rfl)) (SubL.cons (.eq _) .nil) rfl ?_ | refine ACall.plain _ _ (hofW) (SubL.cons (.eq _) .nil) rfl ?_ | refine ACall.plain _ _ (hofV) (SubL.cons (.eq _) .nil) rfl ?_ | refine ACall.plain _ _ (hpA) (SubL.cons (.eq _) (SubL.cons (.eq _) .nil)) rfl ?_ | refine ACall.plain _ _ (hpB) (SubL.cons (.eq _) (SubL.cons (.eq _) .nil)) rfl ?_ | refine ACall.plain _ _ (hwA) (SubL.cons (.eq _) (SubL.cons (.eq _) .nil)) rfl ?_ | refine ACall.plain _ _ (hwB) (SubL.cons (.eq _) (SubL.cons (.eq _) .nil)) rfl ?_ | refine ACall.plain _ _ (hsa) (SubL.cons (.eq _) (SubL.cons (.eq _) .nil)) rfl ?_ | refine InA.lit 0 hl rfl ?_ | refine InA.lit 1 hlo rfl ?_ | refine ARet.hdI ?_ | refine Spl.mk (fun _ => ?_) (fun _ => ?_) | refine InA.mk (inB_mk (by omega) (by omega)) ?_ | refine Wr.b64 ?_ | refine Wr.bu64 ?_ | refine Wr.bu32 ?_ | refine Wr.bu8 ?_ | refine Wr.u8 (by omega) (by omega) ?_ | refine Wr.u64 (by omega) (by omega) ?_ | refine Wr.u32 (by omega) (by omega) ?_ | refine Dv.pos (by omega) (by omega) ?_ | refine Rm.pos (by omega) (by omega) ?_ | refine ADraw.quiet follows_ok (by kernel_rfl) rfl ?_ | refine ADraw.sched (id := 16) lay_ok (awp_snd lay_ok _) [(0, none), (1, none), (2, none), (4, none), (5, none), (6, none), (3, some [2]), (7, some [2, 6]), (8, some [2, 6]), (9, none), (10, none), (11, none), (12, none), (13, none), (14, none), (15, none), (16, none), (17, none), (18, none)] [(3, [2]), (7, [2, 6]), (8, [2, 6]), (9, [2, 6]), (10, [2, 6]), (11, [2, 6]), (12, [2, 6]), (13, [2, 6]), (14, [2, 6]), (15, [2, 6]), (16, [2, 6]), (17, [2, 6]), (18, [2, 6])] follows_ok (by kernel_rfl) ?_ | refine ADraw.sched (id := 17) lay_ok (awp_snd lay_ok _) [(0, none), (1, none), (2, none), (3, none), (4, none), (6, none), (7, none), (8, none), (5, some [4]), (9, some [4, 8]), (10, some [4, 8]), (11, none), (12, none)] [(5, [4]), (9, [4, 8]), (10, [4, 8]), (11, [4, 8]), (12, [4, 8])] follows_ok (by kernel_rfl) ?_ | refine BSpl.decY (by first | assumption | omega) ?_ | refine BSpl.decN (by first | assumption | omega) ?_ | refine BSpl.dec (fun _ => ?_) (fun _ => ?_) | refine BSpl.yes (by assumption) ?_ | refine BSpl.no (by assumption) ?_ | refine BSpl.mk (fun _ => ?_) (fun _ => ?_))
        conv => whnf
        clear hsh hst hev hmw hmv hofW hofV hpA hpB hwA hwB hsa lab0 lab1 set1 in1
        refine ALoop.mk { x : Nat × Bool // x.1 ≤ (B.getD K.toNat default).s0.length ∧ ((B.getD K.toNat default).s0.take x.1).any (isP (V.getD (W.length : Int).toNat default).v) = x.2 } (fun x => ⟨[(5, .v (.bool true)), (9, .box 90 0), (14, .box 91 0), (15, .box 92 0), (16, .v (.bool x.1.2)), (17, .v (.int .i64 (x.1.1 : Int)))],
            [(90, .box 32 (V.getD (W.length : Int).toNat default).cs), (91, .box 40 (A.getD I.toNat default).cs), (92, .box 40 (B.getD K.toNat default).cs)], [], 93⟩) (fun x => (B.getD K.toNat default).s0.length - x.1.1) ⟨(0, false), Nat.zero_le _, rfl⟩ _
          (LeR.mk' [(6, 90), (7, 91), (8, 92)] _ _ _ rfl ⟨AEq.refl _, AEq.refl _, AEq.refl _, AEq.refl _, AEq.refl _, AEq.int rfl, trivial⟩ ⟨⟨_, rfl, OEq.refl _⟩, ⟨_, rfl, OEq.refl _⟩, ⟨_, rfl, OEq.refl _⟩, trivial⟩ rfl) ?_
        rintro ⟨⟨j, q⟩, hj, hq⟩
        dsimp only at hj hq ⊢
        by_cases hjl : j < (B.getD K.toNat default).s0.length
        · have hft := any_tk (v := (V.getD (W.length : Int).toNat default).v) hjl
          rw [hq] at hft
          have k1 : q = true → ((B.getD K.toNat default).s0.take (j + 1)).any (isP (V.getD (W.length : Int).toNat default).v) = true := fun h => by rw [hft, h]; rfl
          have k2 : (⟨((B.getD K.toNat default).s0.getD (j : Int).toNat []).toArray⟩ : ByteArray) = (V.getD (W.length : Int).toNat default).v → ((B.getD K.toNat default).s0.take (j + 1)).any (isP (V.getD (W.length : Int).toNat default).v) = true := fun h => by rw [hft, isP, decide_eq_true h]; simp
          have k3 : q = false → ¬ (⟨((B.getD K.toNat default).s0.getD (j : Int).toNat []).toArray⟩ : ByteArray) = (V.getD (W.length : Int).toNat default).v → ((B.getD K.toNat default).s0.take (j + 1)).any (isP (V.getD (W.length : Int).toNat default).v) = false := fun h h' => by rw [hft, isP, decide_eq_false h', h]; rfl
          clear hft hq set0 in0 oth n1 n2 n3
          dsimp only [Ev.cs, Cont.cs]
          repeat' ((conv => whnf); first | refine Spl.yes (by first | assumption | omega) ?_ | refine Spl.no (by first | assumption | omega) ?_ | refine Wr.i64 (by omega) (by omega) ?_ | refine Still.mk rfl rfl ?_ | refine InB.mk (inB_mk (by omega) (by omega)) ?_ | refine Req.mk (by omega) ?_ | refine Req.mk ⟨by first | omega | (dsimp only; omega), by first | omega | (dsimp only; omega)⟩ ?_ | refine InA.lit 0 hl rfl ?_ | refine InA.lit 1 hlo rfl ?_ | refine ARet.hdI ?_ | refine Spl.mk (fun _ => ?_) (fun _ => ?_) | refine InA.mk (inB_mk (by omega) (by omega)) ?_ | refine Wr.b64 ?_ | refine Wr.bu64 ?_ | refine Wr.bu32 ?_ | refine Wr.bu8 ?_ | refine Wr.u8 (by omega) (by omega) ?_ | refine Wr.u64 (by omega) (by omega) ?_ | refine Wr.u32 (by omega) (by omega) ?_ | refine Dv.pos (by omega) (by omega) ?_ | refine Rm.pos (by omega) (by omega) ?_ | refine ADraw.quiet follows_ok (by kernel_rfl) rfl ?_ | refine ADraw.sched (id := 16) lay_ok (awp_snd lay_ok _) [(0, none), (1, none), (2, none), (4, none), (5, none), (6, none), (3, some [2]), (7, some [2, 6]), (8, some [2, 6]), (9, none), (10, none), (11, none), (12, none), (13, none), (14, none), (15, none), (16, none), (17, none), (18, none)] [(3, [2]), (7, [2, 6]), (8, [2, 6]), (9, [2, 6]), (10, [2, 6]), (11, [2, 6]), (12, [2, 6]), (13, [2, 6]), (14, [2, 6]), (15, [2, 6]), (16, [2, 6]), (17, [2, 6]), (18, [2, 6])] follows_ok (by kernel_rfl) ?_ | refine ADraw.sched (id := 17) lay_ok (awp_snd lay_ok _) [(0, none), (1, none), (2, none), (3, none), (4, none), (6, none), (7, none), (8, none), (5, some [4]), (9, some [4, 8]), (10, some [4, 8]), (11, none), (12, none)] [(5, [4]), (9, [4, 8]), (10, [4, 8]), (11, [4, 8]), (12, [4, 8])] follows_ok (by kernel_rfl) ?_ | refine BSpl.decY (by first | assumption | omega) ?_ | refine BSpl.decN (by first | assumption | omega) ?_ | refine BSpl.dec (fun _ => ?_) (fun _ => ?_) | refine BSpl.yes (by assumption) ?_ | refine BSpl.no (by assumption) ?_ | refine BSpl.mk (fun _ => ?_) (fun _ => ?_))
          all_goals (conv => whnf)
          all_goals first
            | exact ⟨⟨(j + 1, true), hjl, by first | exact k1 (by assumption) | exact k2 (by assumption)⟩, _, LeR.mk' [] _ _ _ rfl ⟨AEq.refl _, AEq.refl _, AEq.refl _, AEq.refl _, AEq.refl _, AEq.int rfl, trivial⟩ ⟨⟨_, rfl, OEq.refl _⟩, ⟨_, rfl, OEq.refl _⟩, ⟨_, rfl, OEq.refl _⟩, trivial⟩ rfl, Nat.sub_succ_lt_self _ _ hjl⟩
            | exact ⟨⟨(j + 1, false), hjl, k3 (by assumption) (by assumption)⟩, _, LeR.mk' [] _ _ _ rfl ⟨AEq.refl _, AEq.refl _, AEq.refl _, AEq.refl _, AEq.refl _, AEq.int rfl, trivial⟩ ⟨⟨_, rfl, OEq.refl _⟩, ⟨_, rfl, OEq.refl _⟩, ⟨_, rfl, OEq.refl _⟩, trivial⟩ rfl, Nat.sub_succ_lt_self _ _ hjl⟩
        · rw [List.take_of_length_le (show (B.getD K.toNat default).s0.length ≤ j by omega), any_mem] at hq
          obtain ⟨w1, hw1⟩ : ∃ w, (B.getD K.toNat default).h1 = w := ⟨_, rfl⟩
          rw [hw1] at n1
          rcases (show (V.getD (W.length : Int).toNat default).k = 3 ∨ (V.getD (W.length : Int).toNat default).k = 4 ∨ (V.getD (W.length : Int).toNat default).k = 5 by omega) with k3' | k4 | k5
          · obtain ⟨s1, s2, s3⟩ := set0 k3'
            clear in0 oth hq
            dsimp only [Ev.cs, Cont.cs]
            rcases w1 with _ | _
            all_goals
              repeat' ((conv => whnf); first | refine Spl.yes (by first | assumption | omega) ?_ | refine Spl.no (by first | assumption | omega) ?_ | refine Wr.i64 (by omega) (by omega) ?_ | refine Still.mk rfl rfl ?_ | refine InB.mk (inB_mk (by omega) (by omega)) ?_ | refine Req.mk (by omega) ?_ | refine Req.mk ⟨by first | omega | (dsimp only; omega), by first | omega | (dsimp only; omega)⟩ ?_ | refine InA.lit 0 hl rfl ?_ | refine InA.lit 1 hlo rfl ?_ | refine ARet.hdI ?_ | refine Spl.mk (fun _ => ?_) (fun _ => ?_) | refine InA.mk (inB_mk (by omega) (by omega)) ?_ | refine Wr.b64 ?_ | refine Wr.bu64 ?_ | refine Wr.bu32 ?_ | refine Wr.bu8 ?_ | refine Wr.u8 (by omega) (by omega) ?_ | refine Wr.u64 (by omega) (by omega) ?_ | refine Wr.u32 (by omega) (by omega) ?_ | refine Dv.pos (by omega) (by omega) ?_ | refine Rm.pos (by omega) (by omega) ?_ | refine ADraw.quiet follows_ok (by kernel_rfl) rfl ?_ | refine ADraw.sched (id := 16) lay_ok (awp_snd lay_ok _) [(0, none), (1, none), (2, none), (4, none), (5, none), (6, none), (3, some [2]), (7, some [2, 6]), (8, some [2, 6]), (9, none), (10, none), (11, none), (12, none), (13, none), (14, none), (15, none), (16, none), (17, none), (18, none)] [(3, [2]), (7, [2, 6]), (8, [2, 6]), (9, [2, 6]), (10, [2, 6]), (11, [2, 6]), (12, [2, 6]), (13, [2, 6]), (14, [2, 6]), (15, [2, 6]), (16, [2, 6]), (17, [2, 6]), (18, [2, 6])] follows_ok (by kernel_rfl) ?_ | refine ADraw.sched (id := 17) lay_ok (awp_snd lay_ok _) [(0, none), (1, none), (2, none), (3, none), (4, none), (6, none), (7, none), (8, none), (5, some [4]), (9, some [4, 8]), (10, some [4, 8]), (11, none), (12, none)] [(5, [4]), (9, [4, 8]), (10, [4, 8]), (11, [4, 8]), (12, [4, 8])] follows_ok (by kernel_rfl) ?_ | refine BSpl.decY (by first | assumption | omega) ?_ | refine BSpl.decN (by first | assumption | omega) ?_ | refine BSpl.dec (fun _ => ?_) (fun _ => ?_) | refine BSpl.yes (by assumption) ?_ | refine BSpl.no (by assumption) ?_ | refine BSpl.mk (fun _ => ?_) (fun _ => ?_))
              all_goals (conv => whnf)
              all_goals exact AEqI.mk (AEq.refl _)
          · have hq1 : q = true := by rw [← hq]; exact decide_eq_true ((in0 (by omega)).2 k4)
            subst hq1
            obtain ⟨o1, o2⟩ := oth (by omega)
            clear in0 set0 hq
            dsimp only [Ev.cs, Cont.cs]
            rcases w1 with _ | _
            all_goals
              repeat' ((conv => whnf); first | refine Spl.yes (by first | assumption | omega) ?_ | refine Spl.no (by first | assumption | omega) ?_ | refine Wr.i64 (by omega) (by omega) ?_ | refine Still.mk rfl rfl ?_ | refine InB.mk (inB_mk (by omega) (by omega)) ?_ | refine Req.mk (by omega) ?_ | refine Req.mk ⟨by first | omega | (dsimp only; omega), by first | omega | (dsimp only; omega)⟩ ?_ | refine InA.lit 0 hl rfl ?_ | refine InA.lit 1 hlo rfl ?_ | refine EqA.mk [.bool _, .bool _] [.bool _, .bool _] _ rfl rfl (bool2_eq _ _ _ _) ?_ | refine EqA.mk [.string _, .string _] [.string _, .string _] _ rfl rfl (str2_eq _ _ _ _) ?_ | refine ARet.hdI ?_ | refine Spl.mk (fun _ => ?_) (fun _ => ?_) | refine InA.mk (inB_mk (by omega) (by omega)) ?_ | refine Wr.b64 ?_ | refine Wr.bu64 ?_ | refine Wr.bu32 ?_ | refine Wr.bu8 ?_ | refine Wr.u8 (by omega) (by omega) ?_ | refine Wr.u64 (by omega) (by omega) ?_ | refine Wr.u32 (by omega) (by omega) ?_ | refine Dv.pos (by omega) (by omega) ?_ | refine Rm.pos (by omega) (by omega) ?_ | refine ADraw.quiet follows_ok (by kernel_rfl) rfl ?_ | refine ADraw.sched (id := 16) lay_ok (awp_snd lay_ok _) [(0, none), (1, none), (2, none), (4, none), (5, none), (6, none), (3, some [2]), (7, some [2, 6]), (8, some [2, 6]), (9, none), (10, none), (11, none), (12, none), (13, none), (14, none), (15, none), (16, none), (17, none), (18, none)] [(3, [2]), (7, [2, 6]), (8, [2, 6]), (9, [2, 6]), (10, [2, 6]), (11, [2, 6]), (12, [2, 6]), (13, [2, 6]), (14, [2, 6]), (15, [2, 6]), (16, [2, 6]), (17, [2, 6]), (18, [2, 6])] follows_ok (by kernel_rfl) ?_ | refine ADraw.sched (id := 17) lay_ok (awp_snd lay_ok _) [(0, none), (1, none), (2, none), (3, none), (4, none), (6, none), (7, none), (8, none), (5, some [4]), (9, some [4, 8]), (10, some [4, 8]), (11, none), (12, none)] [(5, [4]), (9, [4, 8]), (10, [4, 8]), (11, [4, 8]), (12, [4, 8])] follows_ok (by kernel_rfl) ?_ | refine BSpl.decY (by first | assumption | omega) ?_ | refine BSpl.decN (by first | assumption | omega) ?_ | refine BSpl.dec (fun _ => ?_) (fun _ => ?_) | refine BSpl.yes (by assumption) ?_ | refine BSpl.no (by assumption) ?_ | refine BSpl.mk (fun _ => ?_) (fun _ => ?_))
              all_goals (conv => whnf)
              all_goals exact AEqI.mk (AEq.refl _)
          · have hq1 : q = false := by rw [← hq]; exact decide_eq_false (mt (in0 (by omega)).1 (by omega))
            subst hq1
            obtain ⟨o1, o2⟩ := oth (by omega)
            clear in0 set0 hq
            dsimp only [Ev.cs, Cont.cs]
            rcases w1 with _ | _
            all_goals
              repeat' ((conv => whnf); first | refine Spl.yes (by first | assumption | omega) ?_ | refine Spl.no (by first | assumption | omega) ?_ | refine Wr.i64 (by omega) (by omega) ?_ | refine Still.mk rfl rfl ?_ | refine InB.mk (inB_mk (by omega) (by omega)) ?_ | refine Req.mk (by omega) ?_ | refine Req.mk ⟨by first | omega | (dsimp only; omega), by first | omega | (dsimp only; omega)⟩ ?_ | refine InA.lit 0 hl rfl ?_ | refine InA.lit 1 hlo rfl ?_ | refine EqA.mk [.bool _, .bool _] [.bool _, .bool _] _ rfl rfl (bool2_eq _ _ _ _) ?_ | refine EqA.mk [.string _, .string _] [.string _, .string _] _ rfl rfl (str2_eq _ _ _ _) ?_ | refine ARet.hdI ?_ | refine Spl.mk (fun _ => ?_) (fun _ => ?_) | refine InA.mk (inB_mk (by omega) (by omega)) ?_ | refine Wr.b64 ?_ | refine Wr.bu64 ?_ | refine Wr.bu32 ?_ | refine Wr.bu8 ?_ | refine Wr.u8 (by omega) (by omega) ?_ | refine Wr.u64 (by omega) (by omega) ?_ | refine Wr.u32 (by omega) (by omega) ?_ | refine Dv.pos (by omega) (by omega) ?_ | refine Rm.pos (by omega) (by omega) ?_ | refine ADraw.quiet follows_ok (by kernel_rfl) rfl ?_ | refine ADraw.sched (id := 16) lay_ok (awp_snd lay_ok _) [(0, none), (1, none), (2, none), (4, none), (5, none), (6, none), (3, some [2]), (7, some [2, 6]), (8, some [2, 6]), (9, none), (10, none), (11, none), (12, none), (13, none), (14, none), (15, none), (16, none), (17, none), (18, none)] [(3, [2]), (7, [2, 6]), (8, [2, 6]), (9, [2, 6]), (10, [2, 6]), (11, [2, 6]), (12, [2, 6]), (13, [2, 6]), (14, [2, 6]), (15, [2, 6]), (16, [2, 6]), (17, [2, 6]), (18, [2, 6])] follows_ok (by kernel_rfl) ?_ | refine ADraw.sched (id := 17) lay_ok (awp_snd lay_ok _) [(0, none), (1, none), (2, none), (3, none), (4, none), (6, none), (7, none), (8, none), (5, some [4]), (9, some [4, 8]), (10, some [4, 8]), (11, none), (12, none)] [(5, [4]), (9, [4, 8]), (10, [4, 8]), (11, [4, 8]), (12, [4, 8])] follows_ok (by kernel_rfl) ?_ | refine BSpl.decY (by first | assumption | omega) ?_ | refine BSpl.decN (by first | assumption | omega) ?_ | refine BSpl.dec (fun _ => ?_) (fun _ => ?_) | refine BSpl.yes (by assumption) ?_ | refine BSpl.no (by assumption) ?_ | refine BSpl.mk (fun _ => ?_) (fun _ => ?_))
              all_goals (conv => whnf)
              all_goals exact AEqI.mk (AEq.refl _)
      · have hlo : 1 - (V.getD (W.length : Int).toNat default).l = ((0 : Nat) : Int) := by omega
        obtain ⟨n1, n2, n3⟩ := lab1 hl
        have set1 := fun h => set1 h hl
        have in1 := fun h => in1 h hl
        repeat' ((conv => whnf); first | refine Spl.yes (by first | assumption | omega) ?_ | refine Spl.no (by first | assumption | omega) ?_ | refine Wr.i64 (by omega) (by omega) ?_ | refine Still.mk rfl rfl ?_ | refine InB.mk (inB_mk (by omega) (by omega)) ?_ | refine Req.mk (by omega) ?_ | refine Req.mk ⟨by first | omega | (dsimp only; omega), by first | omega | (dsimp only; omega)⟩ ?_ | refine ACall.plain _ _ (hsh) .nil rfl ?_ | refine ACall.plain _ _ (hst) (SubL.cons (.eq _) .nil) rfl ?_ | refine ACall.plain _ _ (hev) .nil rfl ?_ | refine ACall.plain _ _ (hmw) (SubL.cons (.eq _) .nil) rfl ?_ | refine ACall.plain _ _ (hmv (by omega) (by omega) (by omega) (by omega) (by rfl)) (SubL.cons (.eq _) .nil) rfl ?_ | refine ACall.plain _ _ (hofW) (SubL.cons (.eq _) .nil) rfl ?_ | refine ACall.plain _ _ (hofV) (SubL.cons (.eq _) .nil) rfl ?_ | refine ACall.plain _ _ (hpA) (SubL.cons (.eq _) (SubL.cons (.eq _) .nil)) rfl ?_ | refine ACall.plain _ _ (hpB) (SubL.cons (.eq _) (SubL.cons (.eq _) .nil)) rfl ?_ | refine ACall.plain _ _ (hwA) (SubL.cons (.eq _) (SubL.cons (.eq _) .nil)) rfl ?_ | refine ACall.plain _ _ (hwB) (SubL.cons (.eq _) (SubL.cons (.eq _) .nil)) rfl ?_ | refine ACall.plain _ _ (hsa) (SubL.cons (.eq _) (SubL.cons (.eq _) .nil)) rfl ?_ | refine InA.lit 1 hl rfl ?_ | refine InA.lit 0 hlo rfl ?_ | refine ARet.hdI ?_ | refine Spl.mk (fun _ => ?_) (fun _ => ?_) | refine InA.mk (inB_mk (by omega) (by omega)) ?_ | refine Wr.b64 ?_ | refine Wr.bu64 ?_ | refine Wr.bu32 ?_ | refine Wr.bu8 ?_ | refine Wr.u8 (by omega) (by omega) ?_ | refine Wr.u64 (by omega) (by omega) ?_ | refine Wr.u32 (by omega) (by omega) ?_ | refine Dv.pos (by omega) (by omega) ?_ | refine Rm.pos (by omega) (by omega) ?_ | refine ADraw.quiet follows_ok (by kernel_rfl) rfl ?_ | refine ADraw.sched (id := 16) lay_ok (awp_snd lay_ok _) [(0, none), (1, none), (2, none), (4, none), (5, none), (6, none), (3, some [2]), (7, some [2, 6]), (8, some [2, 6]), (9, none), (10, none), (11, none), (12, none), (13, none), (14, none), (15, none), (16, none), (17, none), (18, none)] [(3, [2]), (7, [2, 6]), (8, [2, 6]), (9, [2, 6]), (10, [2, 6]), (11, [2, 6]), (12, [2, 6]), (13, [2, 6]), (14, [2, 6]), (15, [2, 6]), (16, [2, 6]), (17, [2, 6]), (18, [2, 6])] follows_ok (by kernel_rfl) ?_ | refine ADraw.sched (id := 17) lay_ok (awp_snd lay_ok _) [(0, none), (1, none), (2, none), (3, none), (4, none), (6, none), (7, none), (8, none), (5, some [4]), (9, some [4, 8]), (10, some [4, 8]), (11, none), (12, none)] [(5, [4]), (9, [4, 8]), (10, [4, 8]), (11, [4, 8]), (12, [4, 8])] follows_ok (by kernel_rfl) ?_ | refine BSpl.decY (by first | assumption | omega) ?_ | refine BSpl.decN (by first | assumption | omega) ?_ | refine BSpl.dec (fun _ => ?_) (fun _ => ?_) | refine BSpl.yes (by assumption) ?_ | refine BSpl.no (by assumption) ?_ | refine BSpl.mk (fun _ => ?_) (fun _ => ?_))
        conv => whnf
        clear hsh hst hev hmw hmv hofW hofV hpA hpB hwA hwB hsa lab0 lab1 set0 in0
        refine ALoop.mk { x : Nat × Bool // x.1 ≤ (B.getD K.toNat default).s1.length ∧ ((B.getD K.toNat default).s1.take x.1).any (isP (V.getD (W.length : Int).toNat default).v) = x.2 } (fun x => ⟨[(5, .v (.bool true)), (9, .box 90 0), (14, .box 91 0), (15, .box 92 0), (16, .v (.bool x.1.2)), (17, .v (.int .i64 (x.1.1 : Int)))],
            [(90, .box 32 (V.getD (W.length : Int).toNat default).cs), (91, .box 40 (A.getD I.toNat default).cs), (92, .box 40 (B.getD K.toNat default).cs)], [], 93⟩) (fun x => (B.getD K.toNat default).s1.length - x.1.1) ⟨(0, false), Nat.zero_le _, rfl⟩ _
          (LeR.mk' [(6, 90), (7, 91), (8, 92)] _ _ _ rfl ⟨AEq.refl _, AEq.refl _, AEq.refl _, AEq.refl _, AEq.refl _, AEq.int rfl, trivial⟩ ⟨⟨_, rfl, OEq.refl _⟩, ⟨_, rfl, OEq.refl _⟩, ⟨_, rfl, OEq.refl _⟩, trivial⟩ rfl) ?_
        rintro ⟨⟨j, q⟩, hj, hq⟩
        dsimp only at hj hq ⊢
        by_cases hjl : j < (B.getD K.toNat default).s1.length
        · have hft := any_tk (v := (V.getD (W.length : Int).toNat default).v) hjl
          rw [hq] at hft
          have k1 : q = true → ((B.getD K.toNat default).s1.take (j + 1)).any (isP (V.getD (W.length : Int).toNat default).v) = true := fun h => by rw [hft, h]; rfl
          have k2 : (⟨((B.getD K.toNat default).s1.getD (j : Int).toNat []).toArray⟩ : ByteArray) = (V.getD (W.length : Int).toNat default).v → ((B.getD K.toNat default).s1.take (j + 1)).any (isP (V.getD (W.length : Int).toNat default).v) = true := fun h => by rw [hft, isP, decide_eq_true h]; simp
          have k3 : q = false → ¬ (⟨((B.getD K.toNat default).s1.getD (j : Int).toNat []).toArray⟩ : ByteArray) = (V.getD (W.length : Int).toNat default).v → ((B.getD K.toNat default).s1.take (j + 1)).any (isP (V.getD (W.length : Int).toNat default).v) = false := fun h h' => by rw [hft, isP, decide_eq_false h', h]; rfl
          clear hft hq set1 in1 oth n1 n2 n3
          dsimp only [Ev.cs, Cont.cs]
          repeat' ((conv => whnf); first | refine Spl.yes (by first | assumption | omega) ?_ | refine Spl.no (by first | assumption | omega) ?_ | refine Wr.i64 (by omega) (by omega) ?_ | refine Still.mk rfl rfl ?_ | refine InB.mk (inB_mk (by omega) (by omega)) ?_ | refine Req.mk (by omega) ?_ | refine Req.mk ⟨by first | omega | (dsimp only; omega), by first | omega | (dsimp only; omega)⟩ ?_ | refine InA.lit 1 hl rfl ?_ | refine InA.lit 0 hlo rfl ?_ | refine ARet.hdI ?_ | refine Spl.mk (fun _ => ?_) (fun _ => ?_) | refine InA.mk (inB_mk (by omega) (by omega)) ?_ | refine Wr.b64 ?_ | refine Wr.bu64 ?_ | refine Wr.bu32 ?_ | refine Wr.bu8 ?_ | refine Wr.u8 (by omega) (by omega) ?_ | refine Wr.u64 (by omega) (by omega) ?_ | refine Wr.u32 (by omega) (by omega) ?_ | refine Dv.pos (by omega) (by omega) ?_ | refine Rm.pos (by omega) (by omega) ?_ | refine ADraw.quiet follows_ok (by kernel_rfl) rfl ?_ | refine ADraw.sched (id := 16) lay_ok (awp_snd lay_ok _) [(0, none), (1, none), (2, none), (4, none), (5, none), (6, none), (3, some [2]), (7, some [2, 6]), (8, some [2, 6]), (9, none), (10, none), (11, none), (12, none), (13, none), (14, none), (15, none), (16, none), (17, none), (18, none)] [(3, [2]), (7, [2, 6]), (8, [2, 6]), (9, [2, 6]), (10, [2, 6]), (11, [2, 6]), (12, [2, 6]), (13, [2, 6]), (14, [2, 6]), (15, [2, 6]), (16, [2, 6]), (17, [2, 6]), (18, [2, 6])] follows_ok (by kernel_rfl) ?_ | refine ADraw.sched (id := 17) lay_ok (awp_snd lay_ok _) [(0, none), (1, none), (2, none), (3, none), (4, none), (6, none), (7, none), (8, none), (5, some [4]), (9, some [4, 8]), (10, some [4, 8]), (11, none), (12, none)] [(5, [4]), (9, [4, 8]), (10, [4, 8]), (11, [4, 8]), (12, [4, 8])] follows_ok (by kernel_rfl) ?_ | refine BSpl.decY (by first | assumption | omega) ?_ | refine BSpl.decN (by first | assumption | omega) ?_ | refine BSpl.dec (fun _ => ?_) (fun _ => ?_) | refine BSpl.yes (by assumption) ?_ | refine BSpl.no (by assumption) ?_ | refine BSpl.mk (fun _ => ?_) (fun _ => ?_))
          all_goals (conv => whnf)
          all_goals first
            | exact ⟨⟨(j + 1, true), hjl, by first | exact k1 (by assumption) | exact k2 (by assumption)⟩, _, LeR.mk' [] _ _ _ rfl ⟨AEq.refl _, AEq.refl _, AEq.refl _, AEq.refl _, AEq.refl _, AEq.int rfl, trivial⟩ ⟨⟨_, rfl, OEq.refl _⟩, ⟨_, rfl, OEq.refl _⟩, ⟨_, rfl, OEq.refl _⟩, trivial⟩ rfl, Nat.sub_succ_lt_self _ _ hjl⟩
            | exact ⟨⟨(j + 1, false), hjl, k3 (by assumption) (by assumption)⟩, _, LeR.mk' [] _ _ _ rfl ⟨AEq.refl _, AEq.refl _, AEq.refl _, AEq.refl _, AEq.refl _, AEq.int rfl, trivial⟩ ⟨⟨_, rfl, OEq.refl _⟩, ⟨_, rfl, OEq.refl _⟩, ⟨_, rfl, OEq.refl _⟩, trivial⟩ rfl, Nat.sub_succ_lt_self _ _ hjl⟩
        · rw [List.take_of_length_le (show (B.getD K.toNat default).s1.length ≤ j by omega), any_mem] at hq
          obtain ⟨w1, hw1⟩ : ∃ w, (B.getD K.toNat default).h0 = w := ⟨_, rfl⟩
          rw [hw1] at n1
          rcases (show (V.getD (W.length : Int).toNat default).k = 3 ∨ (V.getD (W.length : Int).toNat default).k = 4 ∨ (V.getD (W.length : Int).toNat default).k = 5 by omega) with k3' | k4 | k5
          · obtain ⟨s1, s2, s3⟩ := set1 k3'
            clear in1 oth hq
            dsimp only [Ev.cs, Cont.cs]
            rcases w1 with _ | _
            all_goals
              repeat' ((conv => whnf); first | refine Spl.yes (by first | assumption | omega) ?_ | refine Spl.no (by first | assumption | omega) ?_ | refine Wr.i64 (by omega) (by omega) ?_ | refine Still.mk rfl rfl ?_ | refine InB.mk (inB_mk (by omega) (by omega)) ?_ | refine Req.mk (by omega) ?_ | refine Req.mk ⟨by first | omega | (dsimp only; omega), by first | omega | (dsimp only; omega)⟩ ?_ | refine InA.lit 1 hl rfl ?_ | refine InA.lit 0 hlo rfl ?_ | refine ARet.hdI ?_ | refine Spl.mk (fun _ => ?_) (fun _ => ?_) | refine InA.mk (inB_mk (by omega) (by omega)) ?_ | refine Wr.b64 ?_ | refine Wr.bu64 ?_ | refine Wr.bu32 ?_ | refine Wr.bu8 ?_ | refine Wr.u8 (by omega) (by omega) ?_ | refine Wr.u64 (by omega) (by omega) ?_ | refine Wr.u32 (by omega) (by omega) ?_ | refine Dv.pos (by omega) (by omega) ?_ | refine Rm.pos (by omega) (by omega) ?_ | refine ADraw.quiet follows_ok (by kernel_rfl) rfl ?_ | refine ADraw.sched (id := 16) lay_ok (awp_snd lay_ok _) [(0, none), (1, none), (2, none), (4, none), (5, none), (6, none), (3, some [2]), (7, some [2, 6]), (8, some [2, 6]), (9, none), (10, none), (11, none), (12, none), (13, none), (14, none), (15, none), (16, none), (17, none), (18, none)] [(3, [2]), (7, [2, 6]), (8, [2, 6]), (9, [2, 6]), (10, [2, 6]), (11, [2, 6]), (12, [2, 6]), (13, [2, 6]), (14, [2, 6]), (15, [2, 6]), (16, [2, 6]), (17, [2, 6]), (18, [2, 6])] follows_ok (by kernel_rfl) ?_ | refine ADraw.sched (id := 17) lay_ok (awp_snd lay_ok _) [(0, none), (1, none), (2, none), (3, none), (4, none), (6, none), (7, none), (8, none), (5, some [4]), (9, some [4, 8]), (10, some [4, 8]), (11, none), (12, none)] [(5, [4]), (9, [4, 8]), (10, [4, 8]), (11, [4, 8]), (12, [4, 8])] follows_ok (by kernel_rfl) ?_ | refine BSpl.decY (by first | assumption | omega) ?_ | refine BSpl.decN (by first | assumption | omega) ?_ | refine BSpl.dec (fun _ => ?_) (fun _ => ?_) | refine BSpl.yes (by assumption) ?_ | refine BSpl.no (by assumption) ?_ | refine BSpl.mk (fun _ => ?_) (fun _ => ?_))
              all_goals (conv => whnf)
              all_goals exact AEqI.mk (AEq.refl _)
          · have hq1 : q = true := by rw [← hq]; exact decide_eq_true ((in1 (by omega)).2 k4)
            subst hq1
            obtain ⟨o1, o2⟩ := oth (by omega)
            clear in1 set1 hq
            dsimp only [Ev.cs, Cont.cs]
            rcases w1 with _ | _
            all_goals
              repeat' ((conv => whnf); first | refine Spl.yes (by first | assumption | omega) ?_ | refine Spl.no (by first | assumption | omega) ?_ | refine Wr.i64 (by omega) (by omega) ?_ | refine Still.mk rfl rfl ?_ | refine InB.mk (inB_mk (by omega) (by omega)) ?_ | refine Req.mk (by omega) ?_ | refine Req.mk ⟨by first | omega | (dsimp only; omega), by first | omega | (dsimp only; omega)⟩ ?_ | refine InA.lit 1 hl rfl ?_ | refine InA.lit 0 hlo rfl ?_ | refine EqA.mk [.bool _, .bool _] [.bool _, .bool _] _ rfl rfl (bool2_eq _ _ _ _) ?_ | refine EqA.mk [.string _, .string _] [.string _, .string _] _ rfl rfl (str2_eq _ _ _ _) ?_ | refine ARet.hdI ?_ | refine Spl.mk (fun _ => ?_) (fun _ => ?_) | refine InA.mk (inB_mk (by omega) (by omega)) ?_ | refine Wr.b64 ?_ | refine Wr.bu64 ?_ | refine Wr.bu32 ?_ | refine Wr.bu8 ?_ | refine Wr.u8 (by omega) (by omega) ?_ | refine Wr.u64 (by omega) (by omega) ?_ | refine Wr.u32 (by omega) (by omega) ?_ | refine Dv.pos (by omega) (by omega) ?_ | refine Rm.pos (by omega) (by omega) ?_ | refine ADraw.quiet follows_ok (by kernel_rfl) rfl ?_ | refine ADraw.sched (id := 16) lay_ok (awp_snd lay_ok _) [(0, none), (1, none), (2, none), (4, none), (5, none), (6, none), (3, some [2]), (7, some [2, 6]), (8, some [2, 6]), (9, none), (10, none), (11, none), (12, none), (13, none), (14, none), (15, none), (16, none), (17, none), (18, none)] [(3, [2]), (7, [2, 6]), (8, [2, 6]), (9, [2, 6]), (10, [2, 6]), (11, [2, 6]), (12, [2, 6]), (13, [2, 6]), (14, [2, 6]), (15, [2, 6]), (16, [2, 6]), (17, [2, 6]), (18, [2, 6])] follows_ok (by kernel_rfl) ?_ | refine ADraw.sched (id := 17) lay_ok (awp_snd lay_ok _) [(0, none), (1, none), (2, none), (3, none), (4, none), (6, none), (7, none), (8, none), (5, some [4]), (9, some [4, 8]), (10, some [4, 8]), (11, none), (12, none)] [(5, [4]), (9, [4, 8]), (10, [4, 8]), (11, [4, 8]), (12, [4, 8])] follows_ok (by kernel_rfl) ?_ | refine BSpl.decY (by first | assumption | omega) ?_ | refine BSpl.decN (by first | assumption | omega) ?_ | refine BSpl.dec (fun _ => ?_) (fun _ => ?_) | refine BSpl.yes (by assumption) ?_ | refine BSpl.no (by assumption) ?_ | refine BSpl.mk (fun _ => ?_) (fun _ => ?_))
              all_goals (conv => whnf)
              all_goals exact AEqI.mk (AEq.refl _)
          · have hq1 : q = false := by rw [← hq]; exact decide_eq_false (mt (in1 (by omega)).1 (by omega))
            subst hq1
            obtain ⟨o1, o2⟩ := oth (by omega)
            clear in1 set1 hq
            dsimp only [Ev.cs, Cont.cs]
            rcases w1 with _ | _
            all_goals
              repeat' ((conv => whnf); first | refine Spl.yes (by first | assumption | omega) ?_ | refine Spl.no (by first | assumption | omega) ?_ | refine Wr.i64 (by omega) (by omega) ?_ | refine Still.mk rfl rfl ?_ | refine InB.mk (inB_mk (by omega) (by omega)) ?_ | refine Req.mk (by omega) ?_ | refine Req.mk ⟨by first | omega | (dsimp only; omega), by first | omega | (dsimp only; omega)⟩ ?_ | refine InA.lit 1 hl rfl ?_ | refine InA.lit 0 hlo rfl ?_ | refine EqA.mk [.bool _, .bool _] [.bool _, .bool _] _ rfl rfl (bool2_eq _ _ _ _) ?_ | refine EqA.mk [.string _, .string _] [.string _, .string _] _ rfl rfl (str2_eq _ _ _ _) ?_ | refine ARet.hdI ?_ | refine Spl.mk (fun _ => ?_) (fun _ => ?_) | refine InA.mk (inB_mk (by omega) (by omega)) ?_ | refine Wr.b64 ?_ | refine Wr.bu64 ?_ | refine Wr.bu32 ?_ | refine Wr.bu8 ?_ | refine Wr.u8 (by omega) (by omega) ?_ | refine Wr.u64 (by omega) (by omega) ?_ | refine Wr.u32 (by omega) (by omega) ?_ | refine Dv.pos (by omega) (by omega) ?_ | refine Rm.pos (by omega) (by omega) ?_ | refine ADraw.quiet follows_ok (by kernel_rfl) rfl ?_ | refine ADraw.sched (id := 16) lay_ok (awp_snd lay_ok _) [(0, none), (1, none), (2, none), (4, none), (5, none), (6, none), (3, some [2]), (7, some [2, 6]), (8, some [2, 6]), (9, none), (10, none), (11, none), (12, none), (13, none), (14, none), (15, none), (16, none), (17, none), (18, none)] [(3, [2]), (7, [2, 6]), (8, [2, 6]), (9, [2, 6]), (10, [2, 6]), (11, [2, 6]), (12, [2, 6]), (13, [2, 6]), (14, [2, 6]), (15, [2, 6]), (16, [2, 6]), (17, [2, 6]), (18, [2, 6])] follows_ok (by kernel_rfl) ?_ | refine ADraw.sched (id := 17) lay_ok (awp_snd lay_ok _) [(0, none), (1, none), (2, none), (3, none), (4, none), (6, none), (7, none), (8, none), (5, some [4]), (9, some [4, 8]), (10, some [4, 8]), (11, none), (12, none)] [(5, [4]), (9, [4, 8]), (10, [4, 8]), (11, [4, 8]), (12, [4, 8])] follows_ok (by kernel_rfl) ?_ | refine BSpl.decY (by first | assumption | omega) ?_ | refine BSpl.decN (by first | assumption | omega) ?_ | refine BSpl.dec (fun _ => ?_) (fun _ => ?_) | refine BSpl.yes (by assumption) ?_ | refine BSpl.no (by assumption) ?_ | refine BSpl.mk (fun _ => ?_) (fun _ => ?_))
              all_goals (conv => whnf)
              all_goals exact AEqI.mk (AEq.refl _)
theorem last_true (l : List Ch0) (x : Ch0) (hr : ∀ c ∈ l, c.rng) (hx : x.rng) :
    ASpec Try.prog 7 [.sl 7 l.length true (chF l), x.av] (.v (.bool true)) [] := by
  obtain ⟨e, hZ, hall⟩ := last_make (l.take 40) (lastC x) rfl rfl
  have hV := inv_of (l.take 40 ++ everyL ++ [lastC x])
  have hV : Inv (makeL (l.take 40 ++ everyL ++ [lastC x])) (mkS (l.take 40 ++ everyL ++ [lastC x])).2 := hV
  have hW := make_len l
  have hf := last_facts hV hZ hall
  have he : (makeL (l.take 40 ++ everyL ++ [lastC x])).getD ((makeL (l.take 40)).length : Int).toNat default = e := by
    rw [hZ, Int.toNat_natCast, List.getD, List.getElem?_append_right (Nat.le_refl _), Nat.sub_self]
    rfl
  have hfine := hV.fine e (by rw [hZ]; simp)
  have hVl : (makeL (l.take 40 ++ everyL ++ [lastC x])).length = (makeL (l.take 40)).length + 1 := by rw [hZ, List.length_append, List.length_singleton]
  refine last_walk (l.take 40) l x rfl (rng_take hr 40) hx _ _ _ _ (woL (ofB (makeL (l.take 40))) e.key) _ _ rfl rfl rfl rfl rfl rfl (by rw [he]) (by rw [he]; exact hf.wo.symm) ?_
  rw [he]
  refine ⟨hVl, by omega, hfine.k, hfine.l, hf.two, hf.one, fun h3 => ?_, ⟨by have := of_len (makeL (l.take 40)); omega, by have := of_len (makeL (l.take 40 ++ everyL ++ [lastC x])); omega⟩, sets_get _ (by omega), sets_get _ (by omega)⟩
  rcases hf.more h3 with h | ⟨a, b, ⟨a1, a2, a3⟩, ⟨b1, b2, b3⟩, cr⟩
  · exact .inl h
  · exact .inr ⟨a1, a2, b1, b2, by rw [a3, b3]; exact cr⟩
end Go.Proofs.Ytihjfndkgmjanaa
