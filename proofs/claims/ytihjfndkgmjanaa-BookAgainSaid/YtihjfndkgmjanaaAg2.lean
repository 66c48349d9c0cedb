/-
  BookAgain: the walk.
-/
import Derived.Test.YtihjfndkgmjanaaAg1
import Derived.Test.YtihjfndkgmjanaaLa3
import Derived.Test.YtihjfndkgmjanaaBkB2
namespace Go.Proofs.Ytihjfndkgmjanaa
open Go.RowKit

section
variable {P : Program} {L : Lay} {N : Nat} {st : AS}
theorem ofL_filtK (lv : Nat) : ∀ (l : List (Nat × AV)) (t : Nat), ofL (filt lv l) t = if bitB lv t = true then ofL l t else .junk
  | [], t => by simp [filt, ofL]
  | (k, v) :: l, t => by
    have ih := ofL_filtK lv l t
    simp only [filt]
    cases hk : bitB lv k with
    | true =>
      simp only [cond_true, ofL]
      cases hb : Nat.beq t k with
      | true => rw [Nat.eq_of_beq_eq_true hb, hk]; simp
      | false => simpa using ih
    | false =>
      simp only [cond_false, ofL]
      cases hb : Nat.beq t k with
      | true => rw [ih, Nat.eq_of_beq_eq_true hb, hk]; simp
      | false => simpa using ih
theorem LeS.ofKeep {st S : AS} (lv : Nat) (h : LeS (st.keepSl lv) S) : LeS st S := by
  refine ⟨fun t => ?_, h.hp, h.nd, h.bk⟩
  rcases h.tm t with k | k
  · exact .inl k
  · refine .inr ?_
    have e : (st.keepSl lv).tmps t = if bitB lv t = true then st.tmps t else .junk := ofL_filtK lv st.sl t
    rw [e] at k
    split at k
    · exact k
    · exact fun X u _ => k X u (by trivial)
/-- All orders, what is known behind them written out. -/
theorem ADraw.cutK (lv : Nat) (hL : LayOk P L) {W : Walk} (hW : WOk P W) {id : Nat} {ops : Array Oper} {K : AS → Prop} (S : AS) (hm : P.follows .mixedOrders = true) (hs : Region.noSelect ops = true) (h : aAny P L W N ops.toList.length ops.toList (fun st' => nrm lv st' (fun s => LeS s S)) ops.toList.length [] st) (hK : K S) : ADraw P L W N id ops K st := by
  have go : ∀ {st' : AS}, nrm lv st' (fun s => LeS s S) → LeS st' S := fun h => by rw [nrm_eq] at h; exact h.ofKeep lv
  have := ADraw.any (P := P) (L := L) (N := N) (id := id) hL hW hm hs h
  cases this with
  | quiet hm hB hq h =>
    refine .sem fun g bs ρ a w E R hE => ?_
    refine wp_region_quiet (C := fun w' => w' = w.drew) hm hB rfl ?_
    have R' : Rel g N bs ρ a w.drew st := R.world (Below.refl _ _).drew
    exact awpQ_snd hL (E := fun a w => E .normal a w) (ops := ops.toList) (fun a w1 st R h => hE _ _ _ _ (R.less (go h)) hK) ops.toList hq R' h
  | sem h => exact .sem fun g bs ρ a w E R hE => h g bs ρ a w E R fun ρ a w st R h => hE _ _ _ _ (R.less (go h)) hK
/-- All orders, step by step: what is chosen next is told. -/
structure AAnyI (P : Program) (L : Lay) (W : Walk) (N : Nat) (n : Nat) (ops : List Oper) (Q : AS → Prop) (f : Nat) (done : List Nat) (st : AS) : Prop where
  mk ::
  h : aAny P L W N n ops Q f done st
section
variable {W : Walk} {n : Nat} {ops : List Oper} {Q : AS → Prop} {f : Nat} {done : List Nat}
theorem AAnyI.eq : AAnyI P L W N n ops Q f done = aAny P L W N n ops Q f done := funext fun _ => propext ⟨fun k => k.h, .mk⟩
theorem AAnyI.fin (h1 : rdyFrom n done 0 ops = []) (h : Q st) : AAnyI P L W N n ops Q f done st := .mk (by
  cases f with
  | zero => simp only [aAny, h1]; exact h
  | succ f => simp only [aAny, h1]; exact h)
theorem AAnyI.pick (j : Nat) (o : Oper) (h2 : pickB L N st ops done (rdyFrom n done 0 ops) = some j) (h3 : ops[j]? = some o) (h : aStep P L W N ops o st (AAnyI P L W N n ops Q f (j :: done))) : AAnyI P L W N n ops Q (f + 1) done st := .mk (by
  rw [AAnyI.eq] at h
  cases h1 : rdyFrom n done 0 ops with
  | nil => rw [h1] at h2; cases h2
  | cons i r =>
    rw [h1] at h2
    simp only [aAny, h1, h2, h3]
    exact h)
theorem AAnyI.one (i : Nat) (o : Oper) (h1 : rdyFrom n done 0 ops = [i]) (h2 : pickB L N st ops done [i] = none) (h3 : ops[i]? = some o) (h : aStep P L W N ops o st (AAnyI P L W N n ops Q f (i :: done))) : AAnyI P L W N n ops Q (f + 1) done st := .mk (by
  rw [AAnyI.eq] at h
  simp only [aAny, h1, h2, allR, h3]
  exact h)
theorem AAnyI.fork (i j : Nat) (o p : Oper) (h1 : rdyFrom n done 0 ops = [i, j]) (h2 : pickB L N st ops done [i, j] = none) (h3 : ops[i]? = some o) (h4 : ops[j]? = some p)
    (h : aStep P L W N ops o st (AAnyI P L W N n ops Q f (i :: done))) (k : aStep P L W N ops p st (AAnyI P L W N n ops Q f (j :: done))) : AAnyI P L W N n ops Q (f + 1) done st := .mk (by
  rw [AAnyI.eq] at h k
  simp only [aAny, h1, h2, allR, h3, h4]
  exact ⟨h, k⟩)
theorem AAnyI.fork3 (i j q : Nat) (o p r : Oper) (h1 : rdyFrom n done 0 ops = [i, j, q]) (h2 : pickB L N st ops done [i, j, q] = none) (h3 : ops[i]? = some o) (h4 : ops[j]? = some p) (h5 : ops[q]? = some r)
    (h : aStep P L W N ops o st (AAnyI P L W N n ops Q f (i :: done))) (k : aStep P L W N ops p st (AAnyI P L W N n ops Q f (j :: done))) (m : aStep P L W N ops r st (AAnyI P L W N n ops Q f (q :: done))) : AAnyI P L W N n ops Q (f + 1) done st := .mk (by
  rw [AAnyI.eq] at h k m
  simp only [aAny, h1, h2, allR, h3, h4, h5]
  exact ⟨h, k, m⟩)
theorem ADraw.cutI (lv : Nat) (hL : LayOk P L) (hW : WOk P W) {id : Nat} {ops : Array Oper} {K : AS → Prop} (S : AS) (hm : P.follows .mixedOrders = true) (hs : Region.noSelect ops = true) (m : Nat) (l : List Oper) (hm' : ops.toList.length = m) (hl : ops.toList = l) (h : AAnyI P L W N m l (fun st' => nrm lv st' (fun s => LeS s S)) m [] st) (hK : K S) : ADraw P L W N id ops K st :=
  ADraw.cutK lv hL hW S hm hs (by subst hm' hl; exact h.h) hK
end
theorem LeS.mkN {st : AS} {l : List (Nat × AV)} {h : List (Nat × AO)} {b : Nat} (ht : LeT st l) (hh : LeH st h) (hn : nodupB (h.map (·.1)) = true) (hb : st.back = []) : LeS st ⟨l, h, [], b⟩ := by
  have := LeS.mk' (st := st) l h ht hh hn
  exact ⟨this.tm, this.hp, this.nd, by rw [hb]; trivial⟩
end
theorem of_isE {Z : List Ev} (hl : Z.length ≤ 1000000000) {n : Nat} {F : Nat → List AV} (h : IsE Ev.cs F Z) (hn : n = Z.length) :
    ASpec Try.prog 15 [.sl 12 n true F] (.sl 7 (ofB Z).length false (coF (ofB Z))) [] :=
  (of_spec Z hl).args (.of (fun X u hu => AEq.isE h hn X u hu) .nil)
theorem of_more1 {W : List Ev} {g : Ev} (hl : W.length ≤ 1000) {n1 n2 n : Nat} {F0 G : Nat → List AV} (e1 : n1 = 0) (e2 : n2 = W.length) (e3 : n = W.length + 1) (hG : G 0 = g.cs) :
    ASpec Try.prog 15 [.sl 12 n true (appF n2 (appF n1 F0 (evF W)) G)] (.sl 7 (ofB (W ++ [g])).length false (coF (ofB (W ++ [g])))) [] := by
  have hE : IsE Ev.cs (appF n2 (appF n1 F0 (evF W)) G) ([] ++ W ++ [g]) := ((IsE.nil _).app (IsE.refl W) e1).app (IsE.one hG) (by simpa using e2)
  rw [List.nil_append] at hE
  exact of_isE (by rw [List.length_append, List.length_singleton]; omega) hE (by rw [List.length_append, List.length_singleton]; omega)
theorem of_more2 {W : List Ev} {g a : Ev} (hl : W.length ≤ 1000) {n1 n2 n : Nat} {F0 G : Nat → List AV} (e1 : n1 = 0) (e2 : n2 = W.length) (e3 : n = W.length + 2) (hG : G 0 = g.cs) (hG1 : G 1 = a.cs) :
    ASpec Try.prog 15 [.sl 12 n true (appF n2 (appF n1 F0 (evF W)) G)] (.sl 7 (ofB (W ++ [g, a])).length false (coF (ofB (W ++ [g, a])))) [] := by
  have hG2 : IsE Ev.cs G [g, a] := fun i hi => by
    have hi : i < 2 := hi
    obtain rfl | rfl : i = 0 ∨ i = 1 := by omega
    · exact hG
    · exact hG1
  have hE : IsE Ev.cs (appF n2 (appF n1 F0 (evF W)) G) ([] ++ W ++ [g, a]) := ((IsE.nil _).app (IsE.refl W) e1).app hG2 (by simpa using e2)
  rw [List.nil_append] at hE
  exact of_isE (by simp; omega) hE (by simp; omega)
theorem PC.rowC {w : World} {keep : Nat → Prop} {s n m : Nat} {sc : Bool} {f g : Nat → List AV} (hn : n = m) (h : ∀ i, i < n → ImpL (f i) (g i)) (u : Value) (hu : PC w keep (.sl s n sc f) u) : PC w keep (.sl s m false g) u := by
  subst hn
  cases hu with
  | sl _ _ _ _ A c us hs hn hc hl hf hsc hq hr =>
    have hi := ImpL.flat h
    refine .sl s n false g A c us hs hn hc hl (fun i hi => by rw [← (h i hi).1]; exact hf i hi) (fun h => by cases h) (fun i x v hx hv => ?_) hr
    have hlen : i < (flat n f).length := by rw [hi.1]; exact (List.getElem?_eq_some_iff.1 hx).1
    exact hi.2 i _ x (List.getElem?_eq_getElem hlen) hx w keep v (hq i _ v (List.getElem?_eq_getElem hlen) hv)
theorem PC.strs0 {w : World} {keep : Nat → Prop} {u : Value} (h : PC w keep (.v (.slice none 0 0)) u) : PC w keep (.sl 1 0 true (strF [])) u := by
  cases h with
  | v _ _ => exact .sl 1 0 true _ none 0 [] (by omega) (Nat.le_refl _) (by simp [maxLen]) rfl (fun i hi => absurd hi (Nat.not_lt_zero i)) (fun _ x hx => by simp [flat] at hx) (fun i x v hx hv => by simp at hv) (.inl rfl)
theorem bare_imp (key : ByteArray) : ImpL [.v (.string key), .v (.bool false), .v (.bool false), .v (.string ⟨#[]⟩), .v (.string ⟨#[]⟩), .v (.slice none 0 0), .v (.slice none 0 0)] (bareC key).cs := by
  refine ImpL.cons (fun _ _ _ h => h) (ImpL.cons (fun _ _ _ h => h) (ImpL.cons (fun _ _ _ h => h) (ImpL.cons (fun _ _ _ h => h) (ImpL.cons (fun _ _ _ h => h) (ImpL.cons (fun _ _ _ h => PC.strs0 h) (ImpL.cons (fun _ _ _ h => PC.strs0 h) ImpL.nil))))))
theorem same_bare {key : ByteArray} {n m : Nat} {sa sb : Bool} {F G : Nat → List AV} (hn : n = 1) (hm : m = 1) (hF : F 0 = (bareC key).cs)
    (hG : G 0 = [.v (.string key), .v (.bool false), .v (.bool false), .v (.string ⟨#[]⟩), .v (.string ⟨#[]⟩), .v (.slice none 0 0), .v (.slice none 0 0)]) :
    ASpec Try.prog 14 [.sl 7 n sa F, .sl 7 m sb G] (.v (.bool true)) [] := by
  subst hn hm
  refine (same_spec [bareC key] [bareC key] false false true (by simp) (by simp) (fun c hc => by rw [List.mem_singleton.1 hc]; exact ⟨Nat.zero_le _, Nat.zero_le _⟩)).args (.of (fun X u hu => ?_) (.of (fun X u hu => ?_) .nil))
  · exact PC.rowC rfl (fun i hi => by have hi : i < 1 := hi
                                      obtain rfl : i = 0 := by omega
                                      rw [hF]; exact ImpL.refl _) u hu
  · exact PC.rowC rfl (fun i hi => by have hi : i < 1 := hi
                                      obtain rfl : i = 0 := by omega
                                      rw [hG]; exact bare_imp key) u hu
theorem cnt_take {W : List Ev} {j : Nat} (h : j < W.length) : cntC (W.take (j + 1)) = (cntC (W.take j)).top (W.getD (j : Int).toNat default).r.toNat (W.getD (j : Int).toNat default).n := fold_take h
theorem in_at {c : Clk} {M : Int} (h : c.in M) : ∀ r, 0 ≤ c.at r ∧ c.at r ≤ M
  | 0 => h.1
  | 1 => h.2.1
  | 2 => h.2.2.1
  | 3 => h.2.2.2.1
  | _ + 4 => h.2.2.2.2
theorem fold_le {M : Int} : ∀ {l : List Ev}, (∀ e ∈ l, ∃ r : Nat, r < 5 ∧ e.r = (r : Int) ∧ e.n ≤ M) → ∀ c : Clk, (∀ r : Nat, r < 5 → c.at r ≤ M) → ∀ r : Nat, r < 5 → (l.foldl (fun c e => c.top e.r.toNat e.n) c).at r ≤ M
  | [], _, _, hc, r, hr => hc r hr
  | x :: l, h, c, hc, r, hr => by
    rw [List.foldl_cons]
    obtain ⟨p, hp, ep, en⟩ := h x List.mem_cons_self
    refine fold_le (fun e he => h e (List.mem_cons_of_mem _ he)) _ (fun q hq => ?_) r hr
    have ex : x.r.toNat = p := by rw [ep, Int.toNat_natCast]
    rw [ex, top_at _ _ hp hq]
    split
    · exact mx_le (hc q hq) en
    · exact hc q hq
theorem make_every {S : List Ch0} (hS : S.length ≤ 40) (hr : ∀ c ∈ S, c.rng) {n1 n2 n : Nat} {F0 : Nat → List AV} (e1 : n1 = 0) (e2 : n2 = S.length) (e4 : n = S.length + 4) :
    ASpec Try.prog 22 [.sl 7 n true (appF n2 (appF n1 F0 (chF S)) (chF everyL))] (.sl 12 (makeL S).length true (evF (makeL S))) [] := by
  have hE : IsE Ch0.cs (appF n2 (appF n1 F0 (chF S)) (chF everyL)) ([] ++ S ++ everyL) := ((IsE.nil _).app (IsE.refl S) e1).app (IsE.refl everyL) (by simpa using e2)
  rw [List.nil_append] at hE
  obtain ⟨H', h1, _⟩ := every_make S
  have h2 : makeL (S ++ everyL) = makeL S := by unfold makeL; rw [h1]; rfl
  have := make_isE (Z := S ++ everyL) (by simp [everyL]; omega) (fun c hc => by
    rcases List.mem_append.1 hc with hc | hc
    · exact hr c hc
    · exact every_rng c hc) hE (by simp [everyL]; omega)
  rw [h2] at this
  exact this

set_option maxHeartbeats 16000000 in
set_option maxRecDepth 100000 in
theorem again_key (S l : List Ch0) (hS : S = l.take 40) (hr : ∀ c ∈ S, c.rng) (n : Int) (hn : 0 ≤ n ∧ n ≤ 255) (k : Nat) (hk : n % 3 = k) (key : ByteArray) (hkey : keysV.getD k .junk = .v (.string key)) (hk3 : k = 0 ∨ k = 1 ∨ k = 2) :
    ASpec Try.prog 8 [.sl 7 l.length true (chF l), .v (.int .u8 n)] (.v (.bool true)) [] := by
  have hSl : S.length ≤ 40 := by rw [hS, List.length_take]; omega
  have hsh := shown_spec
  have hst := short_spec l
  rw [← hS] at hst
  have hev := every_spec
  have hmk := fun {n1 n2 n : Nat} {F0 : Nat → List AV} => make_every (S := S) hSl hr (n1 := n1) (n2 := n2) (n := n) (F0 := F0)
  obtain ⟨hbc, hbe, hbl⟩ := mkB_of S
  have hI := inv_of S
  have hI : Inv (makeL S) (mkS S).2 := hI
  have hbe : ∀ e ∈ makeL S, 0 ≤ e.h ∧ e.h ≤ (S.length : Int) := hbe
  have hbl : (makeL S).length ≤ S.length := hbl
  generalize (mkS S).2 = H at hI hbc
  generalize makeL S = W at hmk hI hbe hbl
  have hhe := height_spec W ⟨1048576, 1048576, 1048576, 1048576, 1048576⟩ (by omega) (fun e he => by have := hbe e he; omega)
  have hcb := hgt_bnd (c := ⟨1048576, 1048576, 1048576, 1048576, 1048576⟩) (M := 40) (by omega) (l := W) (fun e he => by have := hbe e he; omega)
  generalize hgt W ⟨1048576, 1048576, 1048576, 1048576, 1048576⟩ = c at hhe hcb
  obtain ⟨f1, ⟨f2, f3, f4⟩, f5⟩ := again_facts hI c key
  have hcn : ∀ r : Nat, r < 5 → (cntC W).at r ≤ 40 := fold_le (fun e he => by
    obtain ⟨r, h1, h2, h3, h4, _⟩ := hI.ev e he
    exact ⟨r, h1, h2, by have := (in_at (hbc r) r).2; omega⟩) clk0 (fun r _ => by rw [at_zero]; omega)
  have hc0 : 0 ≤ (cntC W).c0 ∧ (cntC W).c0 ≤ 40 := ⟨(cnt_ge hI).1 0 (by omega), hcn 0 (by omega)⟩
  have hev5 : ∀ j, j < W.length → ∃ r : Nat, r < 5 ∧ (W.getD (j : Int).toNat default).r = (r : Int) := fun j hj => by
    obtain ⟨r, h1, h2, _⟩ := hI.ev _ (get_in (d := default) hj)
    exact ⟨r, h1, h2⟩
  clear hcn hbc hbe hI
  have b1 : (ofB (W ++ [goneE (cntC W) c key])).length ≤ 41 := by have := of_len (W ++ [goneE (cntC W) c key]); rw [List.length_append, List.length_singleton] at this; omega
  have hp1 := place_spec (ofB (W ++ [goneE (cntC W) c key])) key (by omega)
  have hp2 := place_spec (ofB (W ++ [goneE (cntC W) c key, anewE (cntC W) c key])) key (by omega)
  rw [f1] at hp1
  have ho1 := fun {n1 n2 n : Nat} {F0 G : Nat → List AV} => of_more1 (W := W) (g := goneE (cntC W) c key) (by omega) (n1 := n1) (n2 := n2) (n := n) (F0 := F0) (G := G)
  have ho2 := fun {n1 n2 n : Nat} {F0 G : Nat → List AV} => of_more2 (W := W) (g := goneE (cntC W) c key) (a := anewE (cntC W) c key) (by omega) (n1 := n1) (n2 := n2) (n := n) (F0 := F0) (G := G)
  generalize ofB (W ++ [goneE (cntC W) c key]) = A at *
  generalize ofB (W ++ [goneE (cntC W) c key, anewE (cntC W) c key]) = B at *
  generalize placeI B key = K at *
  have hbig : keysV = [.v (.string ⟨#[97, 110, 110]⟩), .v (.string ⟨#[98, 111, 98]⟩), .v (.string ⟨#[99, 121]⟩)] := rfl
  refine aspec_of lay_ok 274878169075 Try.func8 rfl rfl rfl ?_
  rcases hk3 with rfl | rfl | rfl
  all_goals
    have hkk := hkey
    simp only [hbig, List.getD, List.getElem?_cons_zero, List.getElem?_cons_succ, Option.getD_some, AV.v.injEq, Value.string.injEq] at hkk
    clear hkey
    repeat' ((conv => whnf); first | refine Spl.yes (by first | assumption | omega) ?_ | refine Spl.no (by first | assumption | omega) ?_ | refine Wr.i64 (by omega) (by omega) ?_ | refine Still.mk rfl rfl ?_ | refine InB.mk (inB_mk (by omega) (by omega)) ?_ | refine Req.mk (by omega) ?_ | refine Req.mk ⟨by first | omega | (dsimp only; omega), by first | omega | (dsimp only; omega)⟩ ?_ | refine ACall.plain _ _ (hsh) .nil rfl ?_ | refine ACall.plain _ _ (hst) (SubL.cons (.eq _) .nil) rfl ?_ | refine ACall.plain _ _ (hev) .nil rfl ?_ | refine ACall.plain _ _ (hmk (by omega) (by omega) (by omega)) (SubL.cons (.eq _) .nil) rfl ?_ | refine ACall.plain _ _ (hhe) (SubL.cons (.eq _) (SubL.cons (.eq _) .nil)) rfl ?_ | refine Rm.is (by omega) (by omega) hk ?_ | refine ARet.hdI ?_ | refine Spl.mk (fun _ => ?_) (fun _ => ?_) | refine InA.mk (inB_mk (by omega) (by omega)) ?_ | refine Wr.b64 ?_ | refine Wr.bu64 ?_ | refine Wr.bu32 ?_ | refine Wr.bu8 ?_ | refine Wr.u8 (by omega) (by omega) ?_ | refine Wr.u64 (by omega) (by omega) ?_ | refine Wr.u32 (by omega) (by omega) ?_ | refine Dv.pos (by omega) (by omega) ?_ | refine Rm.pos (by omega) (by omega) ?_ | refine ADraw.quiet follows_ok (by kernel_rfl) rfl ?_ | refine ADraw.sched (id := 10) lay_ok (awp_snd lay_ok _) [(0, none), (1, none), (2, none), (3, none), (4, none), (5, none), (6, none), (7, none), (8, none), (9, none), (10, none), (11, none), (12, none), (13, none), (14, none), (15, none), (16, none), (17, none), (18, none), (19, some [17, 16, 11, 9, 4])] [(10, [9]), (11, [9]), (17, [16, 11, 9]), (18, [17, 16, 11, 9, 4]), (19, [17, 16, 11, 9, 4])] follows_ok (by kernel_rfl) ?_ | refine BSpl.decY (by first | assumption | omega) ?_ | refine BSpl.decN (by first | assumption | omega) ?_ | refine BSpl.dec (fun _ => ?_) (fun _ => ?_) | refine BSpl.yes (by assumption) ?_ | refine BSpl.no (by assumption) ?_ | refine BSpl.mk (fun _ => ?_) (fun _ => ?_))
    conv => whnf
    rw [hkk]
    clear hkk
    refine ALoop.mk { x : Nat × Clk // x.1 ≤ W.length ∧ cntC (W.take x.1) = x.2 } (fun x => ⟨[(5, .v (.bool true)), (7, .v (.string key)), (8, .sl 12 W.length true (evF W)), (9, .v (.int .i64 c)), (10, .box 90 0), (11, .v (.int .i64 (x.1.1 : Int)))],
        [(90, .box 30 x.1.2.cs)], [], 91⟩) (fun x => W.length - x.1.1) ⟨(0, clk0), Nat.zero_le _, rfl⟩ _
      (LeR.mk' [(4, 90)] _ _ _ rfl ⟨AEq.refl _, AEq.refl _, AEq.refl _, AEq.refl _, AEq.refl _, AEq.int rfl, trivial⟩ ⟨⟨_, rfl, OEq.refl _⟩, trivial⟩ rfl) ?_
    rintro ⟨⟨j, N⟩, hj, hN⟩
    dsimp only at hj hN ⊢
    by_cases hjl : j < W.length
    · have hft := cnt_take hjl
      rw [hN] at hft
      obtain ⟨r, hr5, her⟩ := hev5 j hjl
      rw [her, Int.toNat_natCast] at hft
      dsimp only [Clk.cs]
      obtain rfl | rfl | rfl | rfl | rfl : r = 0 ∨ r = 1 ∨ r = 2 ∨ r = 3 ∨ r = 4 := by omega
      · repeat' ((conv => whnf); first | refine Spl.yes (by first | assumption | omega) ?_ | refine Spl.no (by first | assumption | omega) ?_ | refine Wr.i64 (by omega) (by omega) ?_ | refine Still.mk rfl rfl ?_ | refine InB.mk (inB_mk (by omega) (by omega)) ?_ | refine Req.mk (by omega) ?_ | refine Req.mk ⟨by first | omega | (dsimp only; omega), by first | omega | (dsimp only; omega)⟩ ?_ | refine InA.lit 0 her rfl ?_ | refine ARet.hdI ?_ | refine Spl.mk (fun _ => ?_) (fun _ => ?_) | refine InA.mk (inB_mk (by omega) (by omega)) ?_ | refine Wr.b64 ?_ | refine Wr.bu64 ?_ | refine Wr.bu32 ?_ | refine Wr.bu8 ?_ | refine Wr.u8 (by omega) (by omega) ?_ | refine Wr.u64 (by omega) (by omega) ?_ | refine Wr.u32 (by omega) (by omega) ?_ | refine Dv.pos (by omega) (by omega) ?_ | refine Rm.pos (by omega) (by omega) ?_ | refine ADraw.quiet follows_ok (by kernel_rfl) rfl ?_ | refine ADraw.sched (id := 10) lay_ok (awp_snd lay_ok _) [(0, none), (1, none), (2, none), (3, none), (4, none), (5, none), (6, none), (7, none), (8, none), (9, none), (10, none), (11, none), (12, none), (13, none), (14, none), (15, none), (16, none), (17, none), (18, none), (19, some [17, 16, 11, 9, 4])] [(10, [9]), (11, [9]), (17, [16, 11, 9]), (18, [17, 16, 11, 9, 4]), (19, [17, 16, 11, 9, 4])] follows_ok (by kernel_rfl) ?_ | refine BSpl.decY (by first | assumption | omega) ?_ | refine BSpl.decN (by first | assumption | omega) ?_ | refine BSpl.dec (fun _ => ?_) (fun _ => ?_) | refine BSpl.yes (by assumption) ?_ | refine BSpl.no (by assumption) ?_ | refine BSpl.mk (fun _ => ?_) (fun _ => ?_))
        conv => whnf
        exact ⟨⟨(j + 1, _), hjl, hft⟩, _, LeR.mk' [] _ _ _ rfl ⟨AEq.refl _, AEq.refl _, AEq.refl _, AEq.refl _, AEq.refl _, AEq.int rfl, trivial⟩ ⟨⟨_, rfl, OEq.refl _⟩, trivial⟩ rfl, Nat.sub_succ_lt_self _ _ hjl⟩
      · repeat' ((conv => whnf); first | refine Spl.yes (by first | assumption | omega) ?_ | refine Spl.no (by first | assumption | omega) ?_ | refine Wr.i64 (by omega) (by omega) ?_ | refine Still.mk rfl rfl ?_ | refine InB.mk (inB_mk (by omega) (by omega)) ?_ | refine Req.mk (by omega) ?_ | refine Req.mk ⟨by first | omega | (dsimp only; omega), by first | omega | (dsimp only; omega)⟩ ?_ | refine InA.lit 1 her rfl ?_ | refine ARet.hdI ?_ | refine Spl.mk (fun _ => ?_) (fun _ => ?_) | refine InA.mk (inB_mk (by omega) (by omega)) ?_ | refine Wr.b64 ?_ | refine Wr.bu64 ?_ | refine Wr.bu32 ?_ | refine Wr.bu8 ?_ | refine Wr.u8 (by omega) (by omega) ?_ | refine Wr.u64 (by omega) (by omega) ?_ | refine Wr.u32 (by omega) (by omega) ?_ | refine Dv.pos (by omega) (by omega) ?_ | refine Rm.pos (by omega) (by omega) ?_ | refine ADraw.quiet follows_ok (by kernel_rfl) rfl ?_ | refine ADraw.sched (id := 10) lay_ok (awp_snd lay_ok _) [(0, none), (1, none), (2, none), (3, none), (4, none), (5, none), (6, none), (7, none), (8, none), (9, none), (10, none), (11, none), (12, none), (13, none), (14, none), (15, none), (16, none), (17, none), (18, none), (19, some [17, 16, 11, 9, 4])] [(10, [9]), (11, [9]), (17, [16, 11, 9]), (18, [17, 16, 11, 9, 4]), (19, [17, 16, 11, 9, 4])] follows_ok (by kernel_rfl) ?_ | refine BSpl.decY (by first | assumption | omega) ?_ | refine BSpl.decN (by first | assumption | omega) ?_ | refine BSpl.dec (fun _ => ?_) (fun _ => ?_) | refine BSpl.yes (by assumption) ?_ | refine BSpl.no (by assumption) ?_ | refine BSpl.mk (fun _ => ?_) (fun _ => ?_))
        conv => whnf
        exact ⟨⟨(j + 1, _), hjl, hft⟩, _, LeR.mk' [] _ _ _ rfl ⟨AEq.refl _, AEq.refl _, AEq.refl _, AEq.refl _, AEq.refl _, AEq.int rfl, trivial⟩ ⟨⟨_, rfl, OEq.refl _⟩, trivial⟩ rfl, Nat.sub_succ_lt_self _ _ hjl⟩
      · repeat' ((conv => whnf); first | refine Spl.yes (by first | assumption | omega) ?_ | refine Spl.no (by first | assumption | omega) ?_ | refine Wr.i64 (by omega) (by omega) ?_ | refine Still.mk rfl rfl ?_ | refine InB.mk (inB_mk (by omega) (by omega)) ?_ | refine Req.mk (by omega) ?_ | refine Req.mk ⟨by first | omega | (dsimp only; omega), by first | omega | (dsimp only; omega)⟩ ?_ | refine InA.lit 2 her rfl ?_ | refine ARet.hdI ?_ | refine Spl.mk (fun _ => ?_) (fun _ => ?_) | refine InA.mk (inB_mk (by omega) (by omega)) ?_ | refine Wr.b64 ?_ | refine Wr.bu64 ?_ | refine Wr.bu32 ?_ | refine Wr.bu8 ?_ | refine Wr.u8 (by omega) (by omega) ?_ | refine Wr.u64 (by omega) (by omega) ?_ | refine Wr.u32 (by omega) (by omega) ?_ | refine Dv.pos (by omega) (by omega) ?_ | refine Rm.pos (by omega) (by omega) ?_ | refine ADraw.quiet follows_ok (by kernel_rfl) rfl ?_ | refine ADraw.sched (id := 10) lay_ok (awp_snd lay_ok _) [(0, none), (1, none), (2, none), (3, none), (4, none), (5, none), (6, none), (7, none), (8, none), (9, none), (10, none), (11, none), (12, none), (13, none), (14, none), (15, none), (16, none), (17, none), (18, none), (19, some [17, 16, 11, 9, 4])] [(10, [9]), (11, [9]), (17, [16, 11, 9]), (18, [17, 16, 11, 9, 4]), (19, [17, 16, 11, 9, 4])] follows_ok (by kernel_rfl) ?_ | refine BSpl.decY (by first | assumption | omega) ?_ | refine BSpl.decN (by first | assumption | omega) ?_ | refine BSpl.dec (fun _ => ?_) (fun _ => ?_) | refine BSpl.yes (by assumption) ?_ | refine BSpl.no (by assumption) ?_ | refine BSpl.mk (fun _ => ?_) (fun _ => ?_))
        conv => whnf
        exact ⟨⟨(j + 1, _), hjl, hft⟩, _, LeR.mk' [] _ _ _ rfl ⟨AEq.refl _, AEq.refl _, AEq.refl _, AEq.refl _, AEq.refl _, AEq.int rfl, trivial⟩ ⟨⟨_, rfl, OEq.refl _⟩, trivial⟩ rfl, Nat.sub_succ_lt_self _ _ hjl⟩
      · repeat' ((conv => whnf); first | refine Spl.yes (by first | assumption | omega) ?_ | refine Spl.no (by first | assumption | omega) ?_ | refine Wr.i64 (by omega) (by omega) ?_ | refine Still.mk rfl rfl ?_ | refine InB.mk (inB_mk (by omega) (by omega)) ?_ | refine Req.mk (by omega) ?_ | refine Req.mk ⟨by first | omega | (dsimp only; omega), by first | omega | (dsimp only; omega)⟩ ?_ | refine InA.lit 3 her rfl ?_ | refine ARet.hdI ?_ | refine Spl.mk (fun _ => ?_) (fun _ => ?_) | refine InA.mk (inB_mk (by omega) (by omega)) ?_ | refine Wr.b64 ?_ | refine Wr.bu64 ?_ | refine Wr.bu32 ?_ | refine Wr.bu8 ?_ | refine Wr.u8 (by omega) (by omega) ?_ | refine Wr.u64 (by omega) (by omega) ?_ | refine Wr.u32 (by omega) (by omega) ?_ | refine Dv.pos (by omega) (by omega) ?_ | refine Rm.pos (by omega) (by omega) ?_ | refine ADraw.quiet follows_ok (by kernel_rfl) rfl ?_ | refine ADraw.sched (id := 10) lay_ok (awp_snd lay_ok _) [(0, none), (1, none), (2, none), (3, none), (4, none), (5, none), (6, none), (7, none), (8, none), (9, none), (10, none), (11, none), (12, none), (13, none), (14, none), (15, none), (16, none), (17, none), (18, none), (19, some [17, 16, 11, 9, 4])] [(10, [9]), (11, [9]), (17, [16, 11, 9]), (18, [17, 16, 11, 9, 4]), (19, [17, 16, 11, 9, 4])] follows_ok (by kernel_rfl) ?_ | refine BSpl.decY (by first | assumption | omega) ?_ | refine BSpl.decN (by first | assumption | omega) ?_ | refine BSpl.dec (fun _ => ?_) (fun _ => ?_) | refine BSpl.yes (by assumption) ?_ | refine BSpl.no (by assumption) ?_ | refine BSpl.mk (fun _ => ?_) (fun _ => ?_))
        conv => whnf
        exact ⟨⟨(j + 1, _), hjl, hft⟩, _, LeR.mk' [] _ _ _ rfl ⟨AEq.refl _, AEq.refl _, AEq.refl _, AEq.refl _, AEq.refl _, AEq.int rfl, trivial⟩ ⟨⟨_, rfl, OEq.refl _⟩, trivial⟩ rfl, Nat.sub_succ_lt_self _ _ hjl⟩
      · repeat' ((conv => whnf); first | refine Spl.yes (by first | assumption | omega) ?_ | refine Spl.no (by first | assumption | omega) ?_ | refine Wr.i64 (by omega) (by omega) ?_ | refine Still.mk rfl rfl ?_ | refine InB.mk (inB_mk (by omega) (by omega)) ?_ | refine Req.mk (by omega) ?_ | refine Req.mk ⟨by first | omega | (dsimp only; omega), by first | omega | (dsimp only; omega)⟩ ?_ | refine InA.lit 4 her rfl ?_ | refine ARet.hdI ?_ | refine Spl.mk (fun _ => ?_) (fun _ => ?_) | refine InA.mk (inB_mk (by omega) (by omega)) ?_ | refine Wr.b64 ?_ | refine Wr.bu64 ?_ | refine Wr.bu32 ?_ | refine Wr.bu8 ?_ | refine Wr.u8 (by omega) (by omega) ?_ | refine Wr.u64 (by omega) (by omega) ?_ | refine Wr.u32 (by omega) (by omega) ?_ | refine Dv.pos (by omega) (by omega) ?_ | refine Rm.pos (by omega) (by omega) ?_ | refine ADraw.quiet follows_ok (by kernel_rfl) rfl ?_ | refine ADraw.sched (id := 10) lay_ok (awp_snd lay_ok _) [(0, none), (1, none), (2, none), (3, none), (4, none), (5, none), (6, none), (7, none), (8, none), (9, none), (10, none), (11, none), (12, none), (13, none), (14, none), (15, none), (16, none), (17, none), (18, none), (19, some [17, 16, 11, 9, 4])] [(10, [9]), (11, [9]), (17, [16, 11, 9]), (18, [17, 16, 11, 9, 4]), (19, [17, 16, 11, 9, 4])] follows_ok (by kernel_rfl) ?_ | refine BSpl.decY (by first | assumption | omega) ?_ | refine BSpl.decN (by first | assumption | omega) ?_ | refine BSpl.dec (fun _ => ?_) (fun _ => ?_) | refine BSpl.yes (by assumption) ?_ | refine BSpl.no (by assumption) ?_ | refine BSpl.mk (fun _ => ?_) (fun _ => ?_))
        conv => whnf
        exact ⟨⟨(j + 1, _), hjl, hft⟩, _, LeR.mk' [] _ _ _ rfl ⟨AEq.refl _, AEq.refl _, AEq.refl _, AEq.refl _, AEq.refl _, AEq.int rfl, trivial⟩ ⟨⟨_, rfl, OEq.refl _⟩, trivial⟩ rfl, Nat.sub_succ_lt_self _ _ hjl⟩
    · rw [List.take_of_length_le (show W.length ≤ j by omega)] at hN
      subst hN
      clear hev5
      generalize cntC W = N at *
      dsimp only [Clk.cs]
      repeat' ((conv => whnf); first | refine Spl.yes (by first | assumption | omega) ?_ | refine Spl.no (by first | assumption | omega) ?_ | refine Wr.i64 (by omega) (by omega) ?_ | refine Still.mk rfl rfl ?_ | refine InB.mk (inB_mk (by omega) (by omega)) ?_ | refine Req.mk (by omega) ?_ | refine Req.mk ⟨by first | omega | (dsimp only; omega), by first | omega | (dsimp only; omega)⟩ ?_ | refine ACall.plain _ _ (ho1 (by omega) (by omega) (by omega) (by rfl)) (SubL.cons (.eq _) .nil) rfl ?_ | refine ACall.plain _ _ (ho2 (by omega) (by omega) (by omega) (by rfl) (by rfl)) (SubL.cons (.eq _) .nil) rfl ?_ | refine ACall.plain _ _ (hp1) (SubL.cons (.eq _) (SubL.cons (.eq _) .nil)) rfl ?_ | refine ACall.plain _ _ (hp2) (SubL.cons (.eq _) (SubL.cons (.eq _) .nil)) rfl ?_ | refine ACall.plain _ _ (same_bare rfl rfl (by exact congrArg Cont.cs f4) (by rfl)) (SubL.cons (.eq _) (SubL.cons (.eq _) .nil)) rfl ?_ | refine ADraw.cutI 53664 (id := 15) lay_ok (awp_snd lay_ok _) ⟨[(5, .v (.bool true)), (7, .v (.string key)), (8, .sl 12 W.length true (evF W)), (12, .box 91 0), (14, .box 93 0), (15, .sl 7 A.length false (coF A))], [(91, .box 32 (goneE N c key).cs), (93, .box 32 (anewE N c key).cs)], [], 200⟩ follows_ok (by kernel_rfl) 8 _ rfl rfl ?_ ?_ | refine ADraw.cutI 98464 (id := 16) lay_ok (awp_snd lay_ok _) ⟨[(5, .v (.bool true)), (7, .v (.string key)), (15, .sl 7 A.length false (coF A)), (16, .sl 7 B.length false (coF B))], [], [], 300⟩ follows_ok (by kernel_rfl) 9 _ rfl rfl ?_ ?_ | exact LeS.mkN ⟨AEq.refl _, AEq.refl _, AEq.refl _, AEq.refl _, AEq.refl _, AEq.refl _, trivial⟩ ⟨⟨_, rfl, OEq.refl _⟩, ⟨_, rfl, OEq.refl _⟩, trivial⟩ rfl rfl | exact LeS.mkN ⟨AEq.refl _, AEq.refl _, AEq.refl _, AEq.refl _, trivial⟩ trivial rfl rfl | refine AAnyI.fin rfl ?_ | refine AAnyI.pick 1 _ rfl rfl ?_ | refine AAnyI.pick 7 _ rfl rfl ?_ | refine AAnyI.pick 8 _ rfl rfl ?_ | refine AAnyI.fork 0 3 _ _ rfl rfl rfl rfl ?_ ?_ | refine AAnyI.fork 2 3 _ _ rfl rfl rfl rfl ?_ ?_ | refine AAnyI.fork 0 4 _ _ rfl rfl rfl rfl ?_ ?_ | refine AAnyI.fork 2 4 _ _ rfl rfl rfl rfl ?_ ?_ | refine AAnyI.fork 0 5 _ _ rfl rfl rfl rfl ?_ ?_ | refine AAnyI.fork 2 5 _ _ rfl rfl rfl rfl ?_ ?_ | refine AAnyI.fork 3 4 _ _ rfl rfl rfl rfl ?_ ?_ | refine AAnyI.fork3 0 3 4 _ _ _ rfl rfl rfl rfl rfl ?_ ?_ ?_ | refine AAnyI.fork3 2 3 4 _ _ _ rfl rfl rfl rfl rfl ?_ ?_ ?_ | refine AAnyI.one 0 _ rfl rfl rfl ?_ | refine AAnyI.one 2 _ rfl rfl rfl ?_ | refine AAnyI.one 3 _ rfl rfl rfl ?_ | refine AAnyI.one 4 _ rfl rfl rfl ?_ | refine AAnyI.one 5 _ rfl rfl rfl ?_ | refine AAnyI.one 6 _ rfl rfl rfl ?_ | refine AAnyI.one 7 _ rfl rfl rfl ?_ | refine ARet.hdI ?_ | refine Spl.mk (fun _ => ?_) (fun _ => ?_) | refine InA.mk (inB_mk (by omega) (by omega)) ?_ | refine Wr.b64 ?_ | refine Wr.bu64 ?_ | refine Wr.bu32 ?_ | refine Wr.bu8 ?_ | refine Wr.u8 (by omega) (by omega) ?_ | refine Wr.u64 (by omega) (by omega) ?_ | refine Wr.u32 (by omega) (by omega) ?_ | refine Dv.pos (by omega) (by omega) ?_ | refine Rm.pos (by omega) (by omega) ?_ | refine ADraw.quiet follows_ok (by kernel_rfl) rfl ?_ | refine ADraw.sched (id := 10) lay_ok (awp_snd lay_ok _) [(0, none), (1, none), (2, none), (3, none), (4, none), (5, none), (6, none), (7, none), (8, none), (9, none), (10, none), (11, none), (12, none), (13, none), (14, none), (15, none), (16, none), (17, none), (18, none), (19, some [17, 16, 11, 9, 4])] [(10, [9]), (11, [9]), (17, [16, 11, 9]), (18, [17, 16, 11, 9, 4]), (19, [17, 16, 11, 9, 4])] follows_ok (by kernel_rfl) ?_ | refine BSpl.decY (by first | assumption | omega) ?_ | refine BSpl.decN (by first | assumption | omega) ?_ | refine BSpl.dec (fun _ => ?_) (fun _ => ?_) | refine BSpl.yes (by assumption) ?_ | refine BSpl.no (by assumption) ?_ | refine BSpl.mk (fun _ => ?_) (fun _ => ?_))
      all_goals (conv => whnf)
      all_goals exact AEqI.mk (AEq.refl _)
theorem again_true (l : List Ch0) (n : Int) (hr : ∀ c ∈ l, c.rng) (hn : 0 ≤ n ∧ n ≤ 255) :
    ASpec Try.prog 8 [.sl 7 l.length true (chF l), .v (.int .u8 n)] (.v (.bool true)) [] := by
  rcases (show n % 3 = 0 ∨ n % 3 = 1 ∨ n % 3 = 2 by omega) with h | h | h
  · exact again_key (l.take 40) l rfl (rng_take hr 40) n hn 0 h _ rfl (by omega)
  · exact again_key (l.take 40) l rfl (rng_take hr 40) n hn 1 h _ rfl (by omega)
  · exact again_key (l.take 40) l rfl (rng_take hr 40) n hn 2 h _ rfl (by omega)
end Go.Proofs.Ytihjfndkgmjanaa
