/-
  BookAll: how big what events come to is, and the walk.
-/
import Derived.Test.YtihjfndkgmjanaaBr6
import Derived.Test.YtihjfndkgmjanaaBr7
import Derived.Test.YtihjfndkgmjanaaBkP1
import Derived.Test.YtihjfndkgmjanaaBkR
import Derived.Test.YtihjfndkgmjanaaBkI
namespace Go.Proofs.Ytihjfndkgmjanaa
open Go.RowKit

theorem Bs.of {n : Nat} {F : Nat → List AV} {K : List UInt8 → Prop} (l : List UInt8) (hF : IsB F l) (hn : n = l.length) (h : K l) : Bs n F K := .mk l hn (fun i hi => hF i (by omega)) h
def evW (e : Ev) : Nat := (e.key.size + 1) + (e.v.size + 1)
theorem evW_pos (e : Ev) : 1 ≤ evW e := by unfold evW; omega
theorem uniq_few (l : List Str) : (uniq l).length ≤ l.length := by
  have := compact_le (l.mergeSort fun x y => decide (x ≤ y))
  rw [List.length_mergeSort] at this
  exact this
theorem sum_const {α : Type} {m : α → Nat} {k : Nat} : ∀ {l : List α}, (∀ x ∈ l, m x ≤ k) → (l.map m).sum ≤ l.length * k
  | [], _ => by simp
  | y :: l, h => by
    rw [List.map_cons, List.sum_cons, List.length_cons, Nat.add_mul]
    have := sum_const (m := m) (k := k) fun x hx => h x (List.mem_cons_of_mem _ hx)
    have := h y List.mem_cons_self
    omega
/-- Of contacts of bulk: what their bytes ask for. -/
theorem bytes_mid {l : List Cont} (h : (l.map contW).sum ≤ 4294967296) : l.length ≤ 4294967296 ∧ (∀ c ∈ l, c.mod) ∧ (bytesC l).length ≤ 140737488355328 := by
  refine ⟨?_, fun c hc => ?_, ?_⟩
  · have := sum_len contW_pos l
    omega
  · have := sum_mem (m := contW) hc
    exact mod_of (k := 4294967296) (by omega) (by omega)
  · have := flat_len_le cont_len l
    unfold bytesC
    omega
theorem vals_few {B : List Ev} {M : Nat} (h : ∀ e ∈ B, e.v.size ≤ M) : setW (valsF B) ≤ B.length * (M + 1) + 1 := by
  have h1 : (valsF B).length ≤ B.length := by
    have := uniq_few (B.map fun e => strL e.v)
    rwa [List.length_map] at this
  have h2 : ∀ x ∈ valsF B, strW x ≤ M + 1 := fun x hx => by
    have hx : x ∈ uniq (B.map fun e => strL e.v) := hx
    rw [(uniq_props _).2] at hx
    obtain ⟨e, he, rfl⟩ := List.mem_map.1 hx
    have := h e he
    show e.v.data.toList.length + 1 ≤ M + 1
    rw [Array.length_toList]
    exact Nat.succ_le_succ this
  have h3 := sum_const (m := strW) h2
  have h4 := Nat.mul_le_mul_right (M + 1) h1
  unfold setW
  omega
theorem field_few {A : List Ev} {M : Nat} (h : ∀ e ∈ A, e.v.size ≤ M) : (fieldF A).size ≤ M := by
  unfold fieldF
  split
  · exact Nat.zero_le _
  · show ((A.map fun e => strL e.v).getD (lastN (A.map stampE)) []).length ≤ M
    rw [List.getD]
    cases hx : (A.map fun e => strL e.v)[lastN (A.map stampE)]? with
    | none => exact Nat.zero_le _
    | some y =>
      obtain ⟨e, he, rfl⟩ := List.mem_map.1 (List.mem_of_getElem? hx)
      have := h e he
      show e.v.data.toList.length ≤ M
      rw [Array.length_toList]
      exact this
theorem cont_few {ws : List Ev} {key : ByteArray} {M n : Nat} (h : ∀ e ∈ ws, e.v.size ≤ M) (hk : key.size ≤ M) (hn : ws.length ≤ n) : contW (contactB key ws) ≤ 3 * (M + 1) + 2 * (n * (M + 1) + 1) := by
  have hs : ∀ m, ∀ e ∈ setsB key m ws, e.v.size ≤ M := fun m e he => h e (List.mem_filter.1 he).1
  have ha : ∀ m, ∀ e ∈ addsB key m ws, e.v.size ≤ M := fun m e he => h e (List.mem_filter.1 he).1
  have hl : ∀ m, (addsB key m ws).length ≤ n := fun m => Nat.le_trans (List.length_filter_le ..) hn
  have f0 := field_few (hs 0)
  have f1 := field_few (hs 1)
  have v0 := vals_few (ha 0)
  have v1 := vals_few (ha 1)
  have m0 := Nat.mul_le_mul_right (M + 1) (hl 0)
  have m1 := Nat.mul_le_mul_right (M + 1) (hl 1)
  unfold contW contactB
  simp only
  omega
theorem of_few {l : List Ev} {M n : Nat} (h : ∀ e ∈ l, e.key.size ≤ M ∧ e.v.size ≤ M) (hn : l.length ≤ n) : ((ofB l).map contW).sum ≤ n * (3 * (M + 1) + 2 * (n * (M + 1) + 1)) := by
  have hl : (ofB l).length ≤ n := by
    unfold ofB
    rw [List.length_map]
    have h1 : (keysB l).length ≤ ((livingB l).map fun e => strL e.key).length := uniq_few _
    have h2 : (livingB l).length ≤ l.length := List.length_filter_le ..
    rw [List.length_map] at h1
    omega
  have hc : ∀ c ∈ ofB l, contW c ≤ 3 * (M + 1) + 2 * (n * (M + 1) + 1) := fun c hc => by
    obtain ⟨k, hk, rfl⟩ := List.mem_map.1 hc
    have hk : k ∈ uniq ((livingB l).map fun e => strL e.key) := hk
    rw [(uniq_props _).2] at hk
    obtain ⟨e, he, rfl⟩ := List.mem_map.1 hk
    refine cont_few (fun e he => (h e (List.mem_filter.1 he).1).2) ?_ (Nat.le_trans (List.length_filter_le ..) hn)
    show e.key.data.toList.length ≤ M
    rw [Array.length_toList]
    exact (h e (List.mem_filter.1 he).1).1
  exact Nat.le_trans (sum_const hc) (Nat.mul_le_mul_right _ hl)

set_option maxHeartbeats 8000000 in
set_option maxRecDepth 100000 in
theorem bookAll_true (l : List Ev) (hw : (l.map evW).sum ≤ 1048576) : ASpec Try.prog 6 [.sl 12 l.length true (evF l)] (.v (.bool true)) [] := by
  have hsh := shown_spec
  have hfew := few_spec l
  have hwl : (l.take 30).length ≤ 30 := by rw [List.length_take]; omega
  have hm : ∀ e ∈ l.take 30, e.key.size ≤ 1048576 ∧ e.v.size ≤ 1048576 := fun e he => by
    have := sum_mem (m := evW) (List.mem_of_mem_take he)
    unfold evW at this hw
    omega
  generalize l.take 30 = w at hfew hwl hm
  have hof := of_spec w (by omega)
  have hor := ofR_spec w (by omega)
  rw [ofR_eq] at hor
  have hsz := size_spec w (by omega)
  have hsr := sizeR_spec w (by omega)
  rw [sizeR_eq] at hsr
  have hsum := of_few hm hwl
  generalize ofB w = a at hof hor hsum
  obtain ⟨a1, a2, a3⟩ := bytes_mid (l := a) (by omega)
  have hba := fun d => bytes_spec d a false (by omega) a2 a3
  have hbr := fun d => bytesR_spec d a false (by omega) a2 a3
  have hsl : ∀ c ∈ a, c.s0.length ≤ 140737488355328 ∧ c.s1.length ≤ 140737488355328 := fun c hc => by
    obtain ⟨_, _, _, ⟨h1, _⟩, h2, _⟩ := a2 c hc
    omega
  have hsm := same_spec a a false false true (by simp) (by omega) hsl
  unfold rwT at hba hbr
  generalize sizeB w = z at hsz hsr
  clear hsum a1 a2 hsl hm
  refine aspec_of lay_ok 125 Try.func6 rfl rfl rfl ?_
  repeat' ((conv => whnf); first | refine Spl.yes (by first | assumption | omega) ?_ | refine Spl.no (by first | assumption | omega) ?_ | refine Wr.i64 (by omega) (by omega) ?_ | refine Still.mk rfl rfl ?_ | refine InB.mk (inB_mk (by omega) (by omega)) ?_ | refine Req.mk (by omega) ?_ | refine Req.mk ⟨by first | omega | (dsimp only; omega), by first | omega | (dsimp only; omega)⟩ ?_ | refine ACall.plain _ _ (hsh) .nil rfl ?_ | refine ACall.plain _ _ (hfew) (SubL.cons (.eq _) .nil) rfl ?_ | refine ACall.plain _ _ (hof) (SubL.cons (.eq _) .nil) rfl ?_ | refine ACall.plain _ _ (hor) (SubL.cons (.eq _) .nil) rfl ?_ | refine ACall.plain _ _ (hsz) (SubL.cons (.eq _) .nil) rfl ?_ | refine ACall.plain _ _ (hsr) (SubL.cons (.eq _) .nil) rfl ?_ | refine ACall.plain _ _ (hsm) (SubL.cons (.eq _) (SubL.cons (.eq _) .nil)) rfl ?_ | refine ACall.fresh _ _ _ _ _ _ _ (hba _) (SubL.cons (.eq _) .nil) rfl ?_ | refine ACall.fresh _ _ _ _ _ _ _ (hbr _) (SubL.cons (.eq _) .nil) rfl ?_ | refine Bs.of (bytesC a) (IsB.bytes _) rfl ?_ | refine ARet.hdI ?_ | refine Spl.mk (fun _ => ?_) (fun _ => ?_) | refine Wr.b64 ?_ | refine Wr.bu64 ?_ | refine Wr.bu32 ?_ | refine Wr.bu8 ?_ | refine Wr.u8 (by omega) (by omega) ?_ | refine Wr.u64 (by omega) (by omega) ?_ | refine Wr.u32 (by omega) (by omega) ?_ | refine Dv.pos (by omega) (by omega) ?_ | refine Rm.pos (by omega) (by omega) ?_ | refine ADraw.quiet follows_ok (by kernel_rfl) rfl ?_ | refine ADraw.sched (id := 5) lay_ok (awp_snd lay_ok _) [(0, none), (1, none), (2, none), (3, none), (4, some []), (5, none), (6, none), (7, none), (9, none), (8, some []), (10, some []), (11, none), (12, none), (13, none), (14, none), (17, none), (15, some [11]), (16, none), (18, some [11]), (19, none), (20, none), (21, none), (22, none)] [(4, []), (8, []), (10, []), (12, [11]), (13, [11]), (14, [11]), (15, [11]), (16, [11]), (17, [11]), (18, [11]), (19, [11]), (20, [11]), (21, [11]), (22, [11])] follows_ok (by kernel_rfl) ?_ | refine BSpl.decY (by first | assumption | omega) ?_ | refine BSpl.decN (by first | assumption | omega) ?_ | refine BSpl.dec (fun _ => ?_) (fun _ => ?_) | refine BSpl.yes (by assumption) ?_ | refine BSpl.no (by assumption) ?_ | refine BSpl.mk (fun _ => ?_) (fun _ => ?_))
  all_goals (conv => whnf)
  all_goals first
    | exact AEqI.mk (AEq.refl _)
    | exact absurd rfl (by assumption)
end Go.Proofs.Ytihjfndkgmjanaa
