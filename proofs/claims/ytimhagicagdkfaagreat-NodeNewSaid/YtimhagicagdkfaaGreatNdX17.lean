/-
  Contracts of the walk: Lv3, Lv4, LvK, LvN, LvA, LvB.
-/
import Derived.Test.YtimhagicagdkfaaGreatNdX16
import Derived.Test.YtimhagicagdkfaaGreatNdX10
import Derived.Tactics
import Derived.Tactics2
import Derived.Defers
import Derived.Laws.Pointers
import Derived.Laws.LoneSync
import Derived.RegionTactic
import Derived.RegionCalls
import Derived.Test.YtimhagicagdkfaaGreatNdX6
/-
 Plain Lean: what is kept of all keys lists what all events come to,and is as much as there is to keep.
-/
namespace Go.Proofs.YtimhagicagdkfaaGreat
open Go.RowKit
def keyS (k : Str) : ByteArray := ⟨k.toArray⟩
theorem strL_keyS (k : Str) : strL (keyS k) = k := rfl
def keptK (P : List Ev) (key : ByteArray) : List Ev := keptL (onP (eqK key) P)
theorem keptK_same {P : List Ev} {e : Ev} (t : Nxt (onP (eqK e.key) P) e) : keptK (P ++ [e]) e.key = liveW (keptK P e.key) e := by
 unfold keptK
 rw [on_snoc,if_pos (show eqK e.key e.key = true from decide_eq_true rfl),t.step]
theorem keptK_other {P : List Ev} {e : Ev} {key : ByteArray} (h : key ≠ e.key) : keptK (P ++ [e]) key = keptK P key := by
 unfold keptK
 rw [on_snoc,if_neg (by unfold eqK; rw [decide_eq_false (fun k => h k.symm)]; simp),List.append_nil]
theorem kept_some {P : List Ev} {key : ByteArray} : keptK P key ≠ [] ↔ livingB (onP (eqK key) P) ≠ [] := by
 constructor
 · intro h hl
   obtain ⟨x,hx⟩ := List.exists_mem_of_ne_nil _ h
   obtain ⟨hx,hq⟩ := List.mem_filter.1 hx
   rcases kept_kinds hq with ⟨h1,_⟩ | ⟨h1,_,_⟩
   · have : x ∈ livingB (onP (eqK key) P) := List.mem_filter.2 ⟨hx,h1⟩
     rw [hl] at this
     cases this
   · unfold countB at h1
     rw [hl] at h1
     simp [underB] at h1
 · intro h hk
   obtain ⟨x,hx⟩ := List.exists_mem_of_ne_nil _ h
   obtain ⟨hx,hl⟩ := List.mem_filter.1 hx
   have : x ∈ keptK P key := List.mem_filter.2 ⟨hx,by unfold keptQ; rw [hl]; rfl⟩
   rw [hk] at this
   cases this
theorem key_living {P : List Ev} {k : Str} : k ∈ keysB P ↔ livingB (onP (eqK (keyS k)) P) ≠ [] := by
 have h1 : k ∈ keysB P ↔ k ∈ (livingB P).map fun e : Ev => strL e.key := (uniq_props _).2 k
 rw [h1,living_on,List.mem_map]
 constructor
 · rintro ⟨e,he,rfl⟩ h
   have : e ∈ onP (eqK (keyS (strL e.key))) (livingB P) := List.mem_filter.2 ⟨he,decide_eq_true (show e.key = keyS (strL e.key) by unfold keyS; rw [arrS])⟩
   rw [h] at this
   cases this
 · intro h
   obtain ⟨e,he⟩ := List.exists_mem_of_ne_nil _ h
   obtain ⟨he,hk⟩ := List.mem_filter.1 he
   have hk : e.key = keyS k := of_decide_eq_true hk
   exact ⟨e,he,by rw [hk]; rfl⟩
theorem of_key {P : List Ev} {k : Str} (h : k ∈ keysB P) : ofB (onP (eqK (keyS k)) P) = [contactB (keyS k) (countingB P (livingB P))] := by
 rw [of_same (key := keyS k) on_key,if_neg (key_living.1 h),counting_on,contact_on (show eqK (keyS k) (keyS k) = true from decide_eq_true rfl)]
theorem list_kept {P : List Ev} (hp : ∀ key,Pst (onP (eqK key) P) key) {ks : List Str} (hs : ks.Pairwise (· < ·)) (hm : ∀ k,k ∈ ks ↔ keptK P (keyS k) ≠ []) :
  ks.flatMap (fun k => ofB (keptK P (keyS k))) = ofB P := by
 have hk : ks = keysB P := rising_eq hs (uniq_props ((livingB P).map fun e : Ev => strL e.key)).1 fun k => by
  rw [hm,kept_some]
  exact key_living.symm
 have h2 : ∀ l : List Str,(∀ k ∈ l,k ∈ keysB P) → l.flatMap (fun k => ofB (keptK P (keyS k))) = l.map fun k => contactB (keyS k) (countingB P (livingB P)) := by
  intro l
  induction l with
  | nil => intro _; rfl
  | cons k l ih =>
    intro h
    rw [List.flatMap_cons,List.map_cons,ih fun x hx => h x (List.mem_cons_of_mem _ hx)]
    unfold keptK
    rw [(hp (keyS k)).of_kept,of_key (h k List.mem_cons_self)]
    rfl
 rw [hk,h2 _ fun k h => h]
 rfl
theorem size_nil_of {P : List Ev} (h : livingB P = []) : sizeB P = 0 := by
 unfold sizeB
 rw [h]
 have : countingB P [] = [] := by
  unfold countingB
  rw [List.filter_eq_nil_iff]
  intro x _
  simp [countB,underB]
 rw [this]
 rfl
theorem on_on {p q : ByteArray → Bool} {P : List Ev} (h : ∀ k,p k = true → q k = true) : onP p (onP q P) = onP p P := by
 unfold onP
 rw [List.filter_filter]
 refine List.filter_congr fun x _ => ?_
 cases hp : p x.key with
 | false => simp
 | true => rw [h _ hp]; rfl
theorem size_keys : ∀ (ks : List Str) (P : List Ev),ks.Nodup → (∀ x ∈ livingB P,strL x.key ∈ ks) → (ks.map fun k => (keptK P (keyS k)).length).sum = sizeB P
  | [],P,_,h => by
    have : livingB P = [] := List.eq_nil_iff_forall_not_mem.2 fun x hx => by have := h x hx; cases this
    rw [size_nil_of this]
    rfl
  | k :: ks,P,hn,h => by
    obtain ⟨hk,hn⟩ := List.nodup_cons.1 hn
    have ih := size_keys ks (onP (fun x => !eqK (keyS k) x) P) hn (fun x hx => by
     rw [living_on] at hx
     obtain ⟨hx,hne⟩ := List.mem_filter.1 hx
     rcases List.mem_cons.1 (h x hx) with e | h
     · exfalso
       have : eqK (keyS k) x.key = true := decide_eq_true (by rw [← e]; unfold keyS; rw [arrS])
       have hne : (!eqK (keyS k) x.key) = true := hne
       rw [this] at hne
       cases hne
     · exact h)
    have hc : (ks.map fun q => (keptK (onP (fun x => !eqK (keyS k) x) P) (keyS q)).length) = ks.map fun q => (keptK P (keyS q)).length := List.map_congr_left fun q hq => by
     unfold keptK
     rw [on_on]
     intro y hy
     have hy : y = keyS q := of_decide_eq_true hy
     have : y ≠ keyS k := fun e => by
      rw [hy] at e
      have e : q = k := congrArg strL e
      exact hk (e ▸ hq)
     unfold eqK
     rw [decide_eq_false this]
     rfl
    rw [hc] at ih
    rw [List.map_cons,List.sum_cons,ih,size_two (p := eqK (keyS k)) (l := P)]
    congr 1
    exact size_kept
theorem Inv.pst {T P : List Ev} {H : Nat → Clk} (hI : Inv T H) (hP : ∀ x ∈ P,x ∈ T) (htr : ∀ a ∈ T,∀ b ∈ T,∀ c ∈ T,belowB a b = true → belowB b c = true → belowB a c = true) (key : ByteArray) : Pst (onP (eqK key) P) key := by
 have hs : ∀ x ∈ onP (eqK key) P,x ∈ T := fun x hx => hP x (List.mem_filter.1 hx).1
 exact ⟨on_key,fun a ha b hb => hI.stamp a (hs a ha) b (hs b hb),fun a ha b hb => hI.hgt a (hs a ha) b (hs b hb),fun a ha b hb c hc => htr a (hs a ha) b (hs b hb) c (hs c hc)⟩
end Go.Proofs.YtimhagicagdkfaaGreat

/-
 Plain Lean: pasts that were made are transitive; in another order what is below comes first,too.
-/
namespace Go.Proofs.YtimhagicagdkfaaGreat
open Go.RowKit
structure SprFull (W : List Ev) (s : Spr) : Prop where
 full : ∀ e ∈ W,∀ r : Nat,r < 5 → e.r = (r : Int) → e.n ≤ s.hv.at r → e ∈ s.out
 le : ∀ e ∈ s.out,∀ r : Nat,r < 5 → e.c.at r ≤ s.hv.at r
 ord : s.out.Pairwise fun a b => belowB b a = false
theorem SprFull.step {W : List Ev} {H : Nat → Clk} (hI : Inv W H) {s : Spr} (hok : SprOk W s) (h : SprFull W s) {k : Nat} (hk : k ∈ rdyL s.left s.hv) : SprFull W (sprAt s k) := by
 obtain ⟨hkl,hrp⟩ := rdy_mem.1 hk
 obtain ⟨out,left,hv⟩ := s
 obtain ⟨h1,h2,h3⟩ := h
 obtain ⟨p1,p2,p3,p4⟩ := hok
 simp only at h1 h2 h3 p1 p2 p3 p4 hkl hrp
 have hg : left.getD k default = left[k] := by rw [List.getD,List.getElem?_eq_getElem hkl]; rfl
 have hm : left[k] ∈ W := p2.subset (List.getElem_mem hkl)
 have hle : ∀ r : Nat,r < 5 → left[k].c.at r ≤ hv.at r := by
  have : left[k].c.le hv = true := by rw [← hg]; exact hrp
  exact le_at.1 this
 obtain ⟨p,q1,q2,q3,q4,q5⟩ := hI.ev _ hm
 have ep : left[k].r.toNat = p := by rw [q2]; omega
 have htop : ∀ r : Nat,r < 5 → hv.at r ≤ (hv.top p left[k].n).at r := fun r hr => by
  rw [top_at _ _ q1 hr]
  split
  · exact mx_l _ _
  · exact Int.le_refl _
 have hnout : left[k] ∉ out := fun ho => by
  have hd : (out ++ left).Pairwise fun a b => ¬ (a.r = b.r ∧ a.n = b.n) := (p1.symm.pairwise_iff (fun h k => h ⟨k.1.symm,k.2.symm⟩)).1 hI.dis
  exact (List.pairwise_append.1 hd).2.2 _ ho _ (List.getElem_mem hkl) ⟨rfl,rfl⟩
 unfold sprAt
 simp only [hg,ep]
 refine ⟨fun e he r hr er en => ?_,fun e he r hr => ?_,?_⟩
 · have en : e.n ≤ (hv.top p left[k].n).at r := en
   rw [top_at _ _ q1 hr] at en
   by_cases hrp2 : r = p
   · subst hrp2
     rw [if_pos rfl] at en
     rcases Int.lt_or_le (hv.at r) e.n with k1 | k1
     · have hh := hle r hr
       have : e.n ≤ left[k].n := by unfold mxI at en; split at en <;> omega
       have hen : e.n = left[k].n := by omega
       have : e = left[k] := hI.mark he hm (by rw [er,q2]) hen
       rw [this]
       exact List.mem_append.2 (.inr (List.mem_singleton.2 rfl))
     · exact List.mem_append.2 (.inl (h1 e he r hr er k1))
   · rw [if_neg hrp2] at en
     exact List.mem_append.2 (.inl (h1 e he r hr er en))
 · have := htop r hr
   have he : e ∈ out ++ [left[k]] := he
   show e.c.at r ≤ (hv.top p left[k].n).at r
   rcases List.mem_append.1 he with he | he
   · have := h2 e he r hr
     omega
   · rw [List.mem_singleton.1 he]
     have := hle r hr
     omega
 · show (out ++ [left[k]]).Pairwise _
   refine List.pairwise_append.2 ⟨h3,List.pairwise_singleton _ _,fun x hx y hy => ?_⟩
   rw [List.mem_singleton.1 hy,Bool.eq_false_iff]
   intro hb
   unfold belowB at hb
   rw [q2,has_at q1] at hb
   have := h2 x hx p q1
   exact hnout (h1 _ hm p q1 q2 (by omega))
end Go.Proofs.YtimhagicagdkfaaGreat

/-
 sync.Once and the atomics,as the model runs them: Do not yet done (the function handed over by its contract) and done; (*atomic.Int64).Add and Load.
-/
namespace Go.Proofs.YtimhagicagdkfaaGreat
open Go.RowKit
theorem o_disable (w : World) : (callFunc 202 #[]).run Tryz.prog w = .ok (.value (.tuple #[])) w := run_call_mark0 Tryz.func202 (by kernel_rfl) (by kernel_rfl) (by kernel_rfl) .disable (by kernel_rfl) w
theorem o_enable (w : World) : (callFunc 204 #[]).run Tryz.prog w = .ok (.value (.tuple #[])) w := run_call_mark0 Tryz.func204 (by kernel_rfl) (by kernel_rfl) (by kernel_rfl) .enable (by kernel_rfl) w
theorem o_acquire (a : Addr) (w : World) : (callFunc 205 #[.pointer (some a)]).run Tryz.prog w = .ok (.value (.tuple #[])) w := run_call_marked Tryz.func205 (by kernel_rfl) (by kernel_rfl) (by kernel_rfl) .acquire (by kernel_rfl) a w
theorem o_release (a : Addr) (w : World) : (callFunc 207 #[.pointer (some a)]).run Tryz.prog w = .ok (.value (.tuple #[])) w := run_call_marked Tryz.func207 (by kernel_rfl) (by kernel_rfl) (by kernel_rfl) .releaseMerge (by kernel_rfl) a w
theorem o_store (a : Addr) (x : Value) (u : FrameMode) (w : World) (hc : w.cell? a = some x) (hz : w.frozen? a = false) :
  CallsD Tryz.prog 188 #[.pointer (some a), .bool true] u w fun e u' w' => u' = u ∧ (e = .returned (.tuple #[]) ∧ w' = w.drew.setCell a (.int .u32 1)) := by
 have hc' : w.drew.cell? a = some x := by go_simp
 have hz' : w.drew.frozen? a = false := by go_simp
 have hst := run_call_store (P := Tryz.prog) Tryz.func199 (by kernel_rfl) (by kernel_rfl) (by kernel_rfl) (by kernel_rfl) (k := .u32) (y := 1) hc' hz'
 go_enter_d Tryz.func188,Tryz.ntmps188
 go_wp2
 go_region_calls
 all_goals (go_end0; exact ⟨rfl,rfl⟩)
set_option maxRecDepth 100000 in
theorem o_unlock (a : Addr) (u : FrameMode) (w : World) (hc : w.cell? a = some (.int .i32 1)) (hz : w.frozen? a = false) :
  CallsD Tryz.prog 187 #[.pointer (some a)] u w fun e u' w' => u' = u ∧ (e = .returned (.tuple #[]) ∧ w' = w.setCell a (.int .i32 0)) := by
 have hd := o_disable
 have he := o_enable
 have hr := o_release
 have hadd := run_call_add (P := Tryz.prog) Tryz.func208 (by kernel_rfl) (by kernel_rfl) (by kernel_rfl) .i32 (by kernel_rfl) (y := -1) (s := 0) hc hz (by simp [go_sem]; rfl)
 have hcv := run_convert_to_unsafe (P := Tryz.prog) (src := 264) (dst := 268) Tryz.underlying264 Tryz.underlying268 (by kernel_rfl) hc
 go_enter_d Tryz.func187,Tryz.ntmps187
 go_wp2
 go_end0
 go_wp2
 go_end0
 exact ⟨rfl,rfl⟩
set_option maxRecDepth 100000 in
theorem o_lock (a : Addr) (w : World) (hc : w.cell? a = some (.int .i32 0)) (hz : w.frozen? a = false) :
  Calls Tryz.prog 186 #[.pointer (some a)] w fun e w' => e = .returned (.tuple #[]) ∧ w' = w.setCell a (.int .i32 1) := by
 have hd := o_disable
 have he := o_enable
 have ha := o_acquire
 have hcas := run_call_cas_hit (P := Tryz.prog) Tryz.func203 (by kernel_rfl) (by kernel_rfl) (by kernel_rfl) .i32 (by kernel_rfl) (y := 1) hc hz
 have hc' : (w.setCell a (.int .i32 1)).cell? a = some (.int .i32 1) := World.cell?_setCell_same w a _ hc
 have hcv := run_convert_to_unsafe (P := Tryz.prog) (src := 264) (dst := 268) Tryz.underlying264 Tryz.underlying268 (by kernel_rfl) hc'
 go_enter Tryz.func186,Tryz.ntmps186
 go_wp2
 first | go_end0 | (simp only [Exit.inBlock,Exit.then]; refine bodyPost_ret (results_none rfl _ _ _) rfl ?_) | refine bodyPost_ret (results_none rfl _ _ _) rfl ?_
 go_wp2
 go_end0
 exact ⟨rfl,rfl⟩
theorem o_bool (a : Addr) (x : Int) (w : World) (hc : w.cell? a = some (.int .u32 x)) :
  Calls Tryz.prog 156 #[.pointer (some a)] w fun e w' => e = .returned (.bool (x != 0)) ∧ w' = w := by
 have hl := run_call_load (P := Tryz.prog) Tryz.func185 (by kernel_rfl) (by kernel_rfl) (by kernel_rfl) .u32 (by kernel_rfl) (w := w) (a := a) (x := x) hc
 go_enter Tryz.func156,Tryz.ntmps156
 go_wp2
 go_ret
 exact ⟨rfl,rfl⟩
set_option maxRecDepth 100000 in
set_option maxHeartbeats 1600000 in
theorem o_slow (b off : Nat) (caps : Array Value) (w : World) (Φ : World → Prop)
  (h0 : w.cell? ⟨b,off,none⟩ = some (.int .u32 0)) (h1 : w.cell? ⟨b,off + 1,none⟩ = some (.int .i32 0))
  (f1 : w.frozen? ⟨b,off + 1,none⟩ = false)
  (hcl : Calls Tryz.prog 131 caps (w.setCell ⟨b,off + 1,none⟩ (.int .i32 1)) fun e w1 => e = .returned (.tuple #[]) ∧ Φ w1)
  (hΦ : ∀ w1,Φ w1 → w1.cell? ⟨b,off,none⟩ = some (.int .u32 0) ∧ w1.cell? ⟨b,off + 1,none⟩ = some (.int .i32 1) ∧ w1.frozen? ⟨b,off,none⟩ = false ∧ w1.frozen? ⟨b,off + 1,none⟩ = false) :
  Calls Tryz.prog 157 #[.pointer (some ⟨b,off,none⟩), .func (.func 131) #[] caps] w fun e w' => e = .returned (.tuple #[]) ∧
   ∃ w1,Φ w1 ∧ w' = (w1.drew.setCell ⟨b,off,none⟩ (.int .u32 1)).setCell ⟨b,off + 1,none⟩ (.int .i32 0) := by
 have g0' : (w.setCell ⟨b,off + 1,none⟩ (.int .i32 1)).cell? ⟨b,off,none⟩ = some (.int .u32 0) := (World.cell?_setCell_other _ ⟨b,off + 1,none⟩ ⟨b,off,none⟩ _ (by simp)).trans h0
 have hnot : ∀ (x : Bool) (w : World),(Op.unary .not (.bool x)).run Tryz.prog w = .ok (.bool (!x)) w := fun _ _ => rfl
 go_enter_defers Tryz.func157,Tryz.ntmps157
 go_wp2_with (first | (go_at_call 186; refine (o_lock ⟨b,off + 1,none⟩ _ (by go_simp) (by go_simp)).mono ?_; rintro e w' ⟨rfl,rfl⟩) | (go_at_call 156; refine (o_bool ⟨b,off,none⟩ 0 _ g0').mono ?_; rintro e w' ⟨rfl,rfl⟩) | (go_at_call 131; refine hcl.mono ?_; rintro e w1 ⟨rfl,hw1⟩))
 obtain ⟨g0,g1,z0,z1⟩ := hΦ _ hw1
 refine leaves_cons (f := 188) (args := #[.pointer (some ⟨b,off,none⟩), .bool true]) (by simp) (by simp [go_sem]) ?_
 refine (o_store ⟨b,off,none⟩ (.int .u32 0) .returning _ g0 z0).mono ?_
 rintro e u' w'' ⟨rfl,rfl,rfl⟩
 refine leaves_cons (f := 187) (args := #[.pointer (some ⟨b,off + 1,none⟩)]) (by simp [settle]) (by simp [go_sem]) ?_
 refine (o_unlock ⟨b,off + 1,none⟩ _ _ ?_ (by simp [z1])).mono ?_
 · refine (World.cell?_setCell_other _ ⟨b,off,none⟩ ⟨b,off + 1,none⟩ _ (by simp)).trans ?_
   rw [World.cell?_drew]
   exact g1
 rintro e u' w'' ⟨rfl,rfl,rfl⟩
 simp [Leaves,settle,results,Tryz.results157]
 exact ⟨w1,hw1,rfl⟩
set_option maxRecDepth 100000 in
theorem o_first (b off : Nat) (caps : Array Value) (w : World) (Φ : World → Prop)
  (h0 : w.cell? ⟨b,off,none⟩ = some (.int .u32 0)) (h1 : w.cell? ⟨b,off + 1,none⟩ = some (.int .i32 0))
  (f1 : w.frozen? ⟨b,off + 1,none⟩ = false)
  (hcl : Calls Tryz.prog 131 caps (w.setCell ⟨b,off + 1,none⟩ (.int .i32 1)) fun e w1 => e = .returned (.tuple #[]) ∧ Φ w1)
  (hΦ : ∀ w1,Φ w1 → w1.cell? ⟨b,off,none⟩ = some (.int .u32 0) ∧ w1.cell? ⟨b,off + 1,none⟩ = some (.int .i32 1) ∧ w1.frozen? ⟨b,off,none⟩ = false ∧ w1.frozen? ⟨b,off + 1,none⟩ = false) :
  Calls Tryz.prog 130 #[.pointer (some ⟨b,off,none⟩), .func (.func 131) #[] caps] w fun e w' => e = .returned (.tuple #[]) ∧
   ∃ w1,Φ w1 ∧ w' = (w1.drew.setCell ⟨b,off,none⟩ (.int .u32 1)).setCell ⟨b,off + 1,none⟩ (.int .i32 0) := by
 have hnot : ∀ (x : Bool) (w : World),(Op.unary .not (.bool x)).run Tryz.prog w = .ok (.bool (!x)) w := fun _ _ => rfl
 go_enter Tryz.func130,Tryz.ntmps130
 go_wp2_with (first | (go_at_call 156; refine (o_bool ⟨b,off,none⟩ 0 _ h0).mono ?_; rintro e w' ⟨rfl,rfl⟩) | (go_at_call 157; refine (o_slow b off caps _ Φ h0 h1 f1 hcl hΦ).mono ?_; rintro e w1 ⟨rfl,hw1⟩))
 go_end0
 exact ⟨rfl,hw1⟩
set_option maxRecDepth 100000 in
theorem o_done (a : Addr) (g : Value) (w : World) (h0 : w.cell? a = some (.int .u32 1)) :
  Calls Tryz.prog 130 #[.pointer (some a),g] w fun e w' => e = .returned (.tuple #[]) ∧ w' = w := by
 have hnot : ∀ (x : Bool) (w : World),(Op.unary .not (.bool x)).run Tryz.prog w = .ok (.bool (!x)) w := fun _ _ => rfl
 go_enter Tryz.func130,Tryz.ntmps130
 go_wp2_with (first | (go_at_call 156; refine (o_bool a 1 _ h0).mono ?_; rintro e w' ⟨rfl,rfl⟩))
 go_end0
 exact ⟨rfl,rfl⟩
theorem o_add (a : Addr) (x y z : Int) (w : World) (hc : w.cell? a = some (.int .i64 x)) (hz : w.frozen? a = false) (hs : (Op.intArith .add .i64 x y).run Tryz.prog w = .ok (.int .i64 z) w) :
  Calls Tryz.prog 133 #[.pointer (some a), .int .i64 y] w fun e w' => e = .returned (.int .i64 z) ∧ w' = w.setCell a (.int .i64 z) := by
 have hadd := run_call_add (P := Tryz.prog) Tryz.func164 (by kernel_rfl) (by kernel_rfl) (by kernel_rfl) .i64 (by kernel_rfl) (y := y) (s := z) hc hz hs
 go_enter Tryz.func133,Tryz.ntmps133
 go_wp2
 go_ret
 exact ⟨rfl,rfl⟩
end Go.Proofs.YtimhagicagdkfaaGreat

/-
 sync.Once and the atomics as the abstract machine asks for them: of a variable of the call's own.
-/
namespace Go.Proofs.YtimhagicagdkfaaGreat
open Go.RowKit
theorem cell_set {w : World} {b i : Nat} {us : List Value} {t : TypeId} (v : Value) (hh : w.heap[b]? = some (.cells us.toArray t (0,0))) :
  (w.setCell ⟨b,i,none⟩ v).heap[b]? = some (.cells (us.set i v).toArray t (0,0)) ∧ (∀ k,k ≠ b → (w.setCell ⟨b,i,none⟩ v).heap[k]? = w.heap[k]?) ∧ (w.setCell ⟨b,i,none⟩ v).heap.size = w.heap.size ∧
   (w.setCell ⟨b,i,none⟩ v).os = w.os ∧ (w.setCell ⟨b,i,none⟩ v).tape = w.tape ∧ (w.setCell ⟨b,i,none⟩ v).output = w.output := by
 refine ⟨?_,fun k hk => Below.heap_setCell _ _ _ _ hk,by simp,rfl,rfl,rfl⟩
 rw [heap_setCell_same w b i _ t v hh]
 simp
theorem cell_get {w : World} {b i : Nat} {us : List Value} {t : TypeId} (hh : w.heap[b]? = some (.cells us.toArray t (0,0))) : w.cell? ⟨b,i,none⟩ = us[i]? ∧ w.frozen? ⟨b,i,none⟩ = false := by
 constructor
 · simp [World.cell?,hh]
 · simp [World.frozen?,hh]
theorem All2.at {R : AV → Value → Prop} {cs : List AV} {us : List Value} (h : All2 R cs us) {i : Nat} {x : AV} (hx : cs[i]? = some x) : ∃ u,us[i]? = some u ∧ R x u := h.get hx
theorem MSpec.cell {P : Program} {f : FuncId} {t : TypeId} {cs : List AV} {off : Nat} {x y : Value} {xs : List Value} {r : Value} (hE : Enters P f) (hx : cs[off]? = some (.v x))
  (h : ∀ (b : Nat) (w : World),w.cell? ⟨b,off,none⟩ = some x → w.frozen? ⟨b,off,none⟩ = false → Calls P f (.pointer (some ⟨b,off,none⟩) :: xs).toArray w fun e w' => e = .returned r ∧ w' = w.setCell ⟨b,off,none⟩ y) :
  MSpec P f [(0, .box t cs)] (.box 0 off :: xs.map .v) (.v r) [(0, .box t (cs.set off (.v y)))] := by
 refine ⟨hE,fun w keep ρ args hk hobj hnd hbl hargs => ?_⟩
 obtain ⟨b,us,e,hh,ha⟩ := hobj _ (List.mem_singleton.2 rfl)
 have e : ρ 0 = _ := e
 have hh : w.heap[b]? = _ := hh
 cases args with
 | nil => have := hargs.1; simp at this
 | cons a0 tl =>
   obtain ⟨b0,hb0,ea⟩ : ∃ b0,hdV (ρ 0) = .pointer (some ⟨b0,0,none⟩) ∧ a0 = .pointer (some ⟨b0,off,none⟩) := hargs.2 0 _ _ rfl rfl
   rw [e] at hb0
   cases hb0
   subst ea
   have hxs : tl = xs := spec_plain.spec_args (X := ⟨w,keep,ρ⟩) ⟨by simpa using hargs.1,fun i x u hx hu => hargs.2 (i + 1) x u (by simpa using hx) (by simpa using hu)⟩
   subst hxs
   obtain ⟨u,hu,hxu⟩ := ha.get hx
   have hxu : u = x := hxu
   subst hxu
   obtain ⟨g1,g2⟩ := cell_get (i := off) hh
   refine (h b w (g1.trans hu) g2).mono ?_
   rintro e0 w' ⟨rfl,rfl⟩
   obtain ⟨s1,s2,s3,s4,s5,s6⟩ := cell_set (i := off) y hh
   have hb : blocksOf ρ [(0, .box t cs)] = [b] := by rw [single_blocks,e]; rfl
   have hb' : blocksOf ρ [(0, .box t (cs.set off (.v y)))] = [b] := by rw [single_blocks,e]; rfl
   have hkk : ∀ q,keep q → keepOf (baseM w keep (fun b => b ∈ blocksOf ρ [(0, .box t cs)])) (w.setCell ⟨b,off,none⟩ y) ρ [(0, .box t (cs.set off (.v y)))] q := fun q hq =>
    ⟨by rw [s3]; exact hk q hq,fun _ => .inl hq,fun h => (hbl q (by rw [hb]; rw [hb'] at h; exact h)).2 hq⟩
   have hne : ∀ q,keep q → q ≠ b := fun q hq e => (hbl q (by rw [hb,e]; exact List.mem_cons_self)).2 hq
   refine ⟨_,ρ,rfl,⟨s4,s5,s6,by rw [s3]; exact Nat.le_refl _,fun k hk hM => s2 k fun e => hM (by rw [hb,e]; exact List.mem_cons_self)⟩,fun _ _ _ _ _ => .refl _,rfl,fun p hp => ?_,by rw [hb']; simp,fun q hq => .inr (by rw [hb] ; rw [hb'] at hq; exact hq)⟩
   obtain rfl := List.mem_singleton.1 hp
   refine ⟨b,us.set off y,e,s1,?_⟩
   exact (ha.imp fun _ _ => C0.same (X := ⟨w,keep,ρ⟩) (Y := cxOf (baseM w keep (fun b => b ∈ blocksOf ρ [(0, .box t cs)])) (w.setCell ⟨b,off,none⟩ y) ρ [(0, .box t (cs.set off (.v y)))]) hkk (fun q hq => s2 q (hne q hq)) rfl).set off rfl
theorem ACall.cell {P : Program} {L : Lay} {W : Walk} {d : Nat} {f : FuncId} {avs : List AV} {st : AS} {K : AV → AS → Prop} (id off : Nat) {t : TypeId} {cs : List AV} {x y r : Value} {xs : List Value} (hE : Enters P f) (hf : findObj id st.heap = some (.box t cs)) (hx : cs[off]? = some (.v x)) (ha : avs = .box id off :: xs.map .v)
  (h : ∀ (b : Nat) (w : World),w.cell? ⟨b,off,none⟩ = some x → w.frozen? ⟨b,off,none⟩ = false → Calls P f (.pointer (some ⟨b,off,none⟩) :: xs).toArray w fun e w' => e = .returned r ∧ w' = w.setCell ⟨b,off,none⟩ y)
  (hK : K (.v r) ⟨st.sl,setObj id (.box t (cs.set off (.v y))) st.heap,st.back,st.base⟩) : ACall P L W d f avs st K := by
 refine .sem hE fun g N bs ρ a w args R hargs => ?_
 subst ha
 obtain ⟨b,us,e,hh,hc⟩ := R.objs _ (findObj_mem hf)
 have e : ρ id = _ := e
 have hh : w.heap[b]? = _ := hh
 cases args with
 | nil => have := hargs.1; simp at this
 | cons a0 tl =>
   obtain ⟨b0,hb0,ea⟩ : ∃ b0,hdV (ρ id) = .pointer (some ⟨b0,0,none⟩) ∧ a0 = .pointer (some ⟨b0,off,none⟩) := hargs.2 0 _ _ rfl rfl
   rw [e] at hb0
   cases hb0
   subst ea
   have hxs : tl = xs := by
    refine spec_plain.spec_args (X := cxOf g w ρ st.heap) ⟨by simpa using hargs.1,fun i x u hx hu => ?_⟩
    rw [List.getElem?_map] at hx
    cases hq : xs[i]? with
    | none => rw [hq] at hx; cases hx
    | some q =>
      rw [hq] at hx
      cases hx
      exact hargs.2 (i + 1) (.v q) u (by simp [hq]) (by simpa using hu)
   subst hxs
   obtain ⟨u,hu,hxu⟩ := hc.get hx
   have hxu : u = x := hxu
   subst hxu
   obtain ⟨g1,g2⟩ := cell_get (i := off) hh
   refine (h b w (g1.trans hu) g2).mono ?_
   rintro e0 w' ⟨rfl,rfl⟩
   obtain ⟨s1,s2,s3,s4,s5,s6⟩ := cell_set (i := off) y hh
   refine ⟨_,_,_,ρ,rfl,hK,R.write hf (b := b) (by rw [e]; exact List.mem_cons_self) ⟨s4,s5,s6,by rw [s3]; exact Nat.le_refl _,fun k hk => s2 k (by omega)⟩ s3 s2 (fun hk hm => ?_),rfl⟩
   exact ⟨b,us.set off y,e,s1,(hc.imp fun _ _ => C0.same (X := cxOf g w ρ st.heap) (Y := cxOf g (w.setCell ⟨b,off,none⟩ y) ρ (setObj id (.box t (cs.set off (.v y))) st.heap)) hk hm rfl).set off rfl⟩
theorem ACall.done {L : Lay} {W : Walk} {d : Nat} {g : AV} {st : AS} {K : AV → AS → Prop} (id : Nat) {t : TypeId} {cs : List AV} (hf : findObj id st.heap = some (.box t cs)) (hx : cs[0]? = some (.v (.int .u32 1))) (hK : K (.tup []) st) : ACall Tryz.prog L W d 130 [.box id 0,g] st K := by
 refine .sem ⟨_,_,Tryz.func130,rfl,rfl⟩ fun G N bs ρ a w args R hargs => ?_
 obtain ⟨b,us,e,hh,hc⟩ := R.objs _ (findObj_mem hf)
 have e : ρ id = _ := e
 have hh : w.heap[b]? = _ := hh
 obtain ⟨a0,a1,rfl,h0,h1⟩ := two_args hargs
 obtain ⟨b0,hb0,rfl⟩ : ∃ b0,hdV (ρ id) = .pointer (some ⟨b0,0,none⟩) ∧ a0 = .pointer (some ⟨b0,0,none⟩) := h0
 rw [e] at hb0
 cases hb0
 obtain ⟨u,hu,hxu⟩ := hc.get hx
 have hxu : u = _ := hxu
 subst hxu
 obtain ⟨g1,g2⟩ := cell_get (i := 0) hh
 refine (o_done ⟨b,0,none⟩ a1 w (g1.trans hu)).mono ?_
 rintro e0 w' ⟨rfl,rfl⟩
 exact ⟨_,_,_,ρ,rfl,hK,R,[],rfl,All2.nil⟩
theorem add_in64 {x y : Int} (h1 : -9223372036854775808 ≤ x + y) (h2 : x + y ≤ 9223372036854775807) (w : World) : (Op.intArith .add .i64 x y).run Tryz.prog w = .ok (.int .i64 (x + y)) w := by
 have : IntKind.i64.wrap (x + y) = x + y := by
  simp only [IntKind.wrap,IntKind.signed,IntKind.bits]
  simp
  omega
 simp [Op.intArith,this]
theorem ACall.add {L : Lay} {W : Walk} {d : Nat} {st : AS} {K : AV → AS → Prop} (id off : Nat) {t : TypeId} {cs : List AV} {x y : Int} (hf : findObj id st.heap = some (.box t cs)) (hx : cs[off]? = some (.v (.int .i64 x))) (h1 : -9223372036854775808 ≤ x + y) (h2 : x + y ≤ 9223372036854775807)
  (hK : K (.v (.int .i64 (x + y))) ⟨st.sl,setObj id (.box t (cs.set off (.v (.int .i64 (x + y))))) st.heap,st.back,st.base⟩) : ACall Tryz.prog L W d 133 [.box id off, .v (.int .i64 y)] st K :=
 ACall.cell (xs := [.int .i64 y]) id off ⟨_,_,Tryz.func133,rfl,rfl⟩ hf hx rfl (fun b w hc hz => o_add ⟨b,off,none⟩ x y (x + y) w hc hz (add_in64 h1 h2 w)) hK
theorem first_m (t t1 : TypeId) (rest rest' : List AV) (c : List AV) (ho : List (Nat × AO))
  (hcl : MSpec Tryz.prog 131 [(0, .box t (.v (.int .u32 0) :: .v (.int .i32 1) :: rest)),(1, .box t1 c)] [.box 1 0] (.tup []) ((0, .box t (.v (.int .u32 0) :: .v (.int .i32 1) :: rest')) :: ho)) (hne : hasN 0 ho = false) :
  MSpec Tryz.prog 130 [(0, .box t (.v (.int .u32 0) :: .v (.int .i32 0) :: rest)),(1, .box t1 c)] [.box 0 0, .fn 131 [.box 1 0]] (.tup []) ((0, .box t (.v (.int .u32 1) :: .v (.int .i32 0) :: rest')) :: ho) := by
 refine ⟨⟨_,_,Tryz.func130,rfl,rfl⟩,fun w keep ρ args hk hobj hnd hbl hargs => ?_⟩
 obtain ⟨b,us,e,hh,ha⟩ := hobj _ List.mem_cons_self
 have e : ρ 0 = _ := e
 have hh : w.heap[b]? = _ := hh
 have ha : All2 (C0 ⟨w,keep,ρ⟩) _ us := ha
 obtain ⟨a0,a1,rfl,h0,h1⟩ := two_args hargs
 obtain ⟨b0,hb0,rfl⟩ : ∃ b0,hdV (ρ 0) = .pointer (some ⟨b0,0,none⟩) ∧ a0 = .pointer (some ⟨b0,0,none⟩) := h0
 rw [e] at hb0
 cases hb0
 obtain ⟨cs,rfl,hcs⟩ : ∃ us : List Value,a1 = .func (.func 131) #[] us.toArray ∧ All2 (C0 ⟨w,keep,ρ⟩) [.box 1 0] us := h1
 obtain ⟨u0,hu0,hx0⟩ := ha.get (i := 0) rfl
 obtain ⟨u1,hu1,hx1⟩ := ha.get (i := 1) rfl
 have hx0 : u0 = _ := hx0
 have hx1 : u1 = _ := hx1
 subst hx0 hx1
 obtain ⟨g0,z0⟩ := cell_get (i := 0) hh
 obtain ⟨g1,z1⟩ := cell_get (i := 1) hh
 obtain ⟨s1,s2,s3,s4,s5,s6⟩ := cell_set (i := 1) (.int .i32 1) hh
 let w2 := w.setCell ⟨b,1,none⟩ (.int .i32 1)
 let hin : List (Nat × AO) := [(0, .box t (.v (.int .u32 0) :: .v (.int .i32 0) :: rest)),(1, .box t1 c)]
 let hin' : List (Nat × AO) := [(0, .box t (.v (.int .u32 0) :: .v (.int .i32 1) :: rest)),(1, .box t1 c)]
 have hbe : blocksOf ρ hin' = blocksOf ρ hin := rfl
 have hbin : b ∈ blocksOf ρ hin := mem_blocks.2 ⟨_,List.mem_cons_self,by show b ∈ blks (ρ 0); rw [e]; exact List.mem_cons_self⟩
 have hne' : ∀ q,keep q → q ≠ b := fun q hq e => (hbl q (by rw [e]; exact hbin)).2 hq
 have hsame : ∀ q,keep q → w2.heap[q]? = w.heap[q]? := fun q hq => s2 q (hne' q hq)
 have hob : ∀ p ∈ hin',ObjOk ⟨w2,keep,ρ⟩ p.1 p.2 := by
  intro p hp
  rcases List.mem_cons.1 hp with rfl | hp
  · exact ⟨b,us.set 1 (.int .i32 1),e,s1,(ha.imp fun _ _ => C0.same (X := ⟨w,keep,ρ⟩) (Y := ⟨w2,keep,ρ⟩) (fun _ h => h) hsame rfl).set 1 (x := .v (.int .i32 1)) rfl⟩
  · obtain rfl := List.mem_singleton.1 hp
    refine ObjOk.same (X := ⟨w,keep,ρ⟩) (Y := ⟨w2,keep,ρ⟩) (fun _ h => h) hsame rfl (fun q hq => s2 q ?_) (hobj _ (List.mem_cons_of_mem _ hp))
    rintro rfl
    have : (0 : Nat) = 1 := blocks_apart hnd (0, .box t (.v (.int .u32 0) :: .v (.int .i32 0) :: rest)) List.mem_cons_self (1, .box t1 c) (List.mem_cons_of_mem _ hp) (by show q ∈ blks (ρ 0); rw [e]; exact List.mem_cons_self) hq
    omega
 have hcall := hcl.2 w2 keep ρ cs (fun q hq => by rw [s3]; exact hk q hq) hob hnd (fun q hq => ⟨by rw [s3]; exact (hbl q hq).1,(hbl q hq).2⟩) (hcs.imp fun x u h => C1.of0 (C0.same (X := ⟨w,keep,ρ⟩) (Y := ⟨w2,keep,ρ⟩) (fun _ h => h) hsame rfl h))
 let hout' : List (Nat × AO) := (0, .box t (.v (.int .u32 0) :: .v (.int .i32 1) :: rest')) :: ho
 let hout : List (Nat × AO) := (0, .box t (.v (.int .u32 1) :: .v (.int .i32 0) :: rest')) :: ho
 refine (o_first b 0 cs.toArray w (fun w1 => ∃ ρ',BelowM (fun q => q ∈ blocksOf ρ hin) w2.heap.size w2 w1 ∧ (∀ p ∈ hin',∀ q ∈ hout',q.1 = p.1 → HdEq (ρ' p.1) (ρ p.1)) ∧ (∀ p ∈ hout',ObjOk (cxOf (baseM w2 keep (fun q => q ∈ blocksOf ρ hin)) w1 ρ' hout') p.1 p.2) ∧ (blocksOf ρ' hout').Nodup ∧ ∀ q ∈ blocksOf ρ' hout',w2.heap.size ≤ q ∨ q ∈ blocksOf ρ hin)
  (g0.trans hu0) (g1.trans hu1) z1 (hcall.mono ?_) ?_).mono ?_
 · rintro e0 w1 ⟨u,ρ',rfl,a1,a2,a3,a4,a5,a6⟩
   obtain ⟨vs,rfl,hvs⟩ : ∃ us : List Value,u = .tuple us.toArray ∧ All2 _ [] us := a3
   have : vs = [] := List.eq_nil_of_length_eq_zero hvs.1.symm
   subst this
   exact ⟨rfl,ρ',a1,a2,a4,a5,a6⟩
 · rintro w1 ⟨ρ',a1,a2,a4,a5,a6⟩
   obtain ⟨b1,vs,e1,hh1,ha1⟩ := a4 _ List.mem_cons_self
   have e1 : ρ' 0 = _ := e1
   have hh1 : w1.heap[b1]? = _ := hh1
   have h01 := a2 (0, .box t (.v (.int .u32 0) :: .v (.int .i32 1) :: rest)) List.mem_cons_self (0, .box t (.v (.int .u32 0) :: .v (.int .i32 1) :: rest')) List.mem_cons_self rfl
   have h01 := h01.hd
   dsimp only at h01
   rw [e1,e] at h01
   cases h01
   obtain ⟨v0,hv0,hx0⟩ := ha1.get (i := 0) rfl
   obtain ⟨v1,hv1,hx1⟩ := ha1.get (i := 1) rfl
   have hx0 : v0 = _ := hx0
   have hx1 : v1 = _ := hx1
   subst hx0 hx1
   obtain ⟨q0,y0⟩ := cell_get (i := 0) hh1
   obtain ⟨q1,y1⟩ := cell_get (i := 1) hh1
   exact ⟨q0.trans hv0,q1.trans hv1,y0,y1⟩
 · rintro e0 w' ⟨rfl,w1,⟨ρ',a1,a2,a4,a5,a6⟩,rfl⟩
   obtain ⟨b1,vs,e1,hh1,ha1⟩ := a4 _ List.mem_cons_self
   have e1 : ρ' 0 = _ := e1
   have hh1 : w1.heap[b1]? = _ := hh1
   have ha1 : All2 (C0 (cxOf (baseM w2 keep (fun q => q ∈ blocksOf ρ hin)) w1 ρ' hout')) _ vs := ha1
   have h01 := a2 (0, .box t (.v (.int .u32 0) :: .v (.int .i32 1) :: rest)) List.mem_cons_self (0, .box t (.v (.int .u32 0) :: .v (.int .i32 1) :: rest')) List.mem_cons_self rfl
   have h01 := h01.hd
   dsimp only at h01
   rw [e1,e] at h01
   cases h01
   have hh1' : w1.drew.heap[b]? = _ := hh1
   obtain ⟨p1,p2,p3,p4,p5,p6⟩ := cell_set (i := 0) (.int .u32 1) hh1'
   obtain ⟨r1,r2,r3,r4,r5,r6⟩ := cell_set (i := 1) (.int .i32 0) p1
   let w3 := (w1.drew.setCell ⟨b,0,none⟩ (.int .u32 1)).setCell ⟨b,1,none⟩ (.int .i32 0)
   have hoth : ∀ k,k ≠ b → w3.heap[k]? = w1.heap[k]? := fun k hk => (r2 k hk).trans (p2 k hk)
   have hsz : w3.heap.size = w1.heap.size := r3.trans p3
   have hbe' : blocksOf ρ' hout = blocksOf ρ' hout' := rfl
   have hbo : b ∈ blocksOf ρ' hout' := mem_blocks.2 ⟨_,List.mem_cons_self,by show b ∈ blks (ρ' 0); rw [e1]; exact List.mem_cons_self⟩
   have hkk : ∀ q,keepOf (baseM w2 keep (fun q => q ∈ blocksOf ρ hin)) w1 ρ' hout' q → keepOf (baseM w keep (fun q => q ∈ blocksOf ρ hin)) w3 ρ' hout q := by
    rintro q ⟨k1,k2,k3⟩
    exact ⟨by rw [hsz]; exact k1,fun hlt => k2 (by show q < w2.heap.size; rw [s3]; exact hlt),k3⟩
   have hmm : ∀ q,keepOf (baseM w2 keep (fun q => q ∈ blocksOf ρ hin)) w1 ρ' hout' q → w3.heap[q]? = w1.heap[q]? := fun q hq => hoth q fun e => hq.2.2 (by rw [e]; exact hbo)
   have hw2 : w2.heap.size = w.heap.size := s3
   refine ⟨_,ρ',rfl,⟨?_,?_,?_,?_,fun k hk hM => ?_⟩,?_,⟨[],rfl,All2.nil⟩,fun p hp => ?_,a5,fun q hq => by rw [← hw2]; exact a6 q hq⟩
   · exact (r4.trans p4).trans (a1.os.trans s4)
   · exact (r5.trans p5).trans (a1.tape.trans s5)
   · exact (r6.trans p6).trans (a1.output.trans s6)
   · show w.heap.size ≤ w3.heap.size
     rw [hsz,← hw2]; exact a1.size
   · have hkb : k ≠ b := fun e => hM (by rw [e]; exact hbin)
     exact (hoth k hkb).trans ((a1.block k (by rw [hw2]; exact hk) hM).trans (s2 k hkb))
   · intro p hp q hq he
     rcases List.mem_cons.1 hp with rfl | hp
     · exact a2 (0, .box t (.v (.int .u32 0) :: .v (.int .i32 1) :: rest)) List.mem_cons_self (0, .box t (.v (.int .u32 0) :: .v (.int .i32 1) :: rest')) List.mem_cons_self rfl
     · rcases List.mem_cons.1 hq with rfl | hq
       · obtain rfl := List.mem_singleton.1 hp
         cases he
       · exact a2 p (List.mem_cons_of_mem _ hp) q (List.mem_cons_of_mem _ hq) he
   · rcases List.mem_cons.1 hp with rfl | hp
     · refine ⟨b,(vs.set 0 (.int .u32 1)).set 1 (.int .i32 0),e1,r1,?_⟩
       exact ((ha1.imp fun _ _ => C0.same (X := cxOf (baseM w2 keep (fun q => q ∈ blocksOf ρ hin)) w1 ρ' hout') (Y := cxOf (baseM w keep (fun q => q ∈ blocksOf ρ hin)) w3 ρ' hout) hkk hmm rfl).set 0 (x := .v (.int .u32 1)) rfl).set 1 (x := .v (.int .i32 0)) rfl
     · refine ObjOk.same (X := cxOf (baseM w2 keep (fun q => q ∈ blocksOf ρ hin)) w1 ρ' hout') (Y := cxOf (baseM w keep (fun q => q ∈ blocksOf ρ hin)) w3 ρ' hout) hkk hmm rfl (fun q hq => hoth q ?_) (a4 p (List.mem_cons_of_mem _ hp))
       rintro rfl
       have h0p := blocks_apart a5 (0, .box t (.v (.int .u32 0) :: .v (.int .i32 1) :: rest')) List.mem_cons_self p (List.mem_cons_of_mem _ hp) (by show q ∈ blks (ρ' 0); rw [e1]; exact List.mem_cons_self) hq
       rw [hasN_mem.2 ⟨p,hp,h0p.symm⟩] at hne
       cases hne
end Go.Proofs.YtimhagicagdkfaaGreat

/-
 live.created: whether a Create of some events is below an event; live.counted,live.without.
-/
namespace Go.Proofs.YtimhagicagdkfaaGreat
open Go.RowKit
def crP (e a : Ev) : Bool := decide (a.k = 1) && belowB a e
set_option maxHeartbeats 4000000 in
set_option maxRecDepth 100000 in
theorem created_spec (l : List Ev) (e : Ev) (hl : l.length ≤ 140737488355328) :
  ASpec Tryz.prog 161 [.sl 12 l.length true (evF l),e.av] (.v (.bool (l.any (crP e)))) [] := by
 have hyes : ∀ j,j < l.length → (l.getD j default).k = 1 → belowB (l.getD j default) e = true → l.any (crP e) = true := fun j hj h1 h3 => any_get hj (by unfold crP; rw [h1,h3]; simp)
 have hno : (∀ i,i < l.length → crP e (l.getD i default) = false) → l.any (crP e) = false := fun h => any_none h
 generalize l.any (crP e) = R at hyes hno
 dsimp only [Ev.av]
 dsimp only [Ev.cs]
 refine K1.E 0x1b Tryz.func161 ?_
 repeat' ((conv => whnf); first | refine K1.w ?_ | refine K1.u ?_ | refine K1.I 0x13 Tryz.func178 ?_ | refine K1.I 0x103b3 Tryz.func196 ?_ | refine ARet.hdI ?_ | refine K1.z ?_ | refine K1.y (fun _ => ?_) (fun _ => ?_) | fail)
 conv => whnf
 refine ALoop.mk { j : Nat // j ≤ l.length ∧ ∀ i,i < j → crP e (l.getD i default) = false } (fun j => ⟨[(8, .v (.int .i64 (j.1 : Int))),(7, .v (.int .i64 (l.length : Int))),(0, .sl 12 l.length true (evF l)),(1, .fn 189 [.box 0 0])],
   [(0, .box 42 e.cs)],[[],[]],1⟩) (fun j => l.length - j.1) ⟨0,Nat.zero_le _,fun i h => absurd h (Nat.not_lt_zero i)⟩ _
  (LeR.mkB [] _ _ _ rfl ⟨AEq.int rfl,AEq.refl _,AEq.refl _,AEq.refl _,trivial⟩ ⟨⟨_,rfl,OEq.refl _⟩,trivial⟩ rfl) ?_
 rintro ⟨j,hj,hall⟩
 dsimp only
 by_cases hjl : j < l.length
 · have hbj := below_spec (l.getD (j : Int).toNat default) e
   have hyj := hyes j hjl
   rw [show j = (j : Int).toNat by omega] at hyj
   have hnj : (decide ((l.getD (j : Int).toNat default).k = 1) && belowB (l.getD (j : Int).toNat default) e) = false → ∀ i,i < j + 1 → crP e (l.getD i default) = false := by
    intro h i hi
    rcases Nat.lt_or_ge i j with h' | h'
    · exact hall i h'
    · obtain rfl : i = j := by omega
      rwa [show (i : Int).toNat = i by omega] at h
   dsimp only [Ev.av,Ev.cs] at hbj ⊢
   generalize belowB (l.getD (j : Int).toNat default) e = q2 at hbj hyj hnj
   repeat' ((conv => whnf); first | refine K1.w ?_ | refine K1.u ?_ | refine K1.P1 (hbj) rfl ?_ | refine K1.I 0xf Tryz.func189 ?_ | refine ARet.hdI ?_ | refine K1.z ?_ | refine K1.y (fun _ => ?_) (fun _ => ?_) | fail)
   all_goals (conv => whnf)
   all_goals first
     | (rw [hyj (by assumption) (by assumption)]; exact AEqI.mk (AEq.refl _))
     | exact ⟨⟨j + 1,by omega,hnj (by first | (rw [decide_eq_false (by assumption)]; rfl) | (rw [show q2 = false by assumption]; simp))⟩,_,LeR.mk' [] _ _ _ rfl ⟨AEq.int rfl,AEq.refl _,AEq.refl _,AEq.refl _,trivial⟩ ⟨⟨_,rfl,OEq.refl _⟩,trivial⟩ rfl,by show l.length - (j + 1) < l.length - j; omega⟩
 · have hR : R = false := hno fun i hi => hall i (by omega)
   repeat' ((conv => whnf); first | refine K1.w ?_ | refine K1.u ?_ | refine ARet.hdI ?_ | refine K1.z ?_ | refine K1.y (fun _ => ?_) (fun _ => ?_) | fail)
   all_goals (conv => whnf)
   rw [hR]
   exact AEqI.mk (AEq.refl _)
end Go.Proofs.YtimhagicagdkfaaGreat

/-
 live.counted: events but the Sets and Adds below which no Create is left.
-/
namespace Go.Proofs.YtimhagicagdkfaaGreat
open Go.RowKit
def cntP (l : List Ev) (a : Ev) : Bool := decide (a.k = 1) || l.any (crP a)
set_option maxHeartbeats 4000000 in
set_option maxRecDepth 100000 in
theorem counted_own (d : Nat) (l : List Ev) (r : Ev) (rs : List Ev) (hr : l.filter (cntP l) = r :: rs) (hl : l.length ≤ 1000000000) :
  ASpec Tryz.prog 158 [.sl 12 l.length true (evF l)] (.own d) [(d, .row 42 12 (rs.length + 1) true (evF (r :: rs)))] := by
 refine K1.E 0x803ed Tryz.func158 ?_
 repeat' ((conv => whnf); first | refine K1.w ?_ | refine K1.u ?_ | refine ARet.hdI ?_ | refine K1.z ?_ | refine K1.y (fun _ => ?_) (fun _ => ?_) | fail)
 conv => whnf
 refine ALoop.mk (Took (cntP l) l) (fun x => match x with
   | ⟨(j,[]),_⟩ => ⟨[(0, .sl 12 l.length true (evF l)),(3, .v (.slice none 0 0)),(6, .sl 12 l.length true (evF l)),(7, .v (.int .i64 (l.length : Int))),(8, .v (.int .i64 (j : Int)))],
      [],[],1⟩
   | ⟨(j,y :: ys),_⟩ => ⟨[(0, .sl 12 l.length true (evF l)),(3, .own 90),(6, .sl 12 l.length true (evF l)),(7, .v (.int .i64 (l.length : Int))),(8, .v (.int .i64 (j : Int)))],
      [(90, .row 42 12 (ys.length + 1) true (evF (y :: ys)))],[],91⟩) (fun x => l.length - x.1.1) ⟨(0,[]),Nat.zero_le _,rfl⟩ _
   (LeR.mk' [] _ _ _ rfl ⟨AEq.refl _,AEq.refl _,AEq.refl _,AEq.int rfl,AEq.int rfl,trivial⟩ trivial rfl) ?_
 rintro ⟨⟨j,ys⟩,hj,hys⟩
 dsimp only at hj hys
 rcases ys with _ | ⟨y,ys⟩
 · dsimp only
   by_cases hjl : j < l.length
   · have hab := created_spec l (l.getD (j : Int).toNat default) (by omega)
     have hft := filter_take (p := cntP l) hjl
     rw [← hys,List.nil_append] at hft
     have hlv : cntP l (l.getD j default) = (decide ((l.getD (j : Int).toNat default).k = 1) || l.any (crP (l.getD (j : Int).toNat default))) := by rw [show (j : Int).toNat = j by omega]; rfl
     rw [hlv] at hft
     generalize l.any (crP (l.getD (j : Int).toNat default)) = q at hab hft
     have hq0 : ¬ (l.getD (j : Int).toNat default).k = 1 → q = false → ([] : List Ev) = (l.take (j + 1)).filter (cntP l) := fun h h' => by rw [hft,decide_eq_false h,h']; simp
     have hq1 : q = true → [l.getD j default] = (l.take (j + 1)).filter (cntP l) := fun h' => by rw [hft,h']; simp
     have hk1 : (l.getD (j : Int).toNat default).k = 1 → [l.getD j default] = (l.take (j + 1)).filter (cntP l) := fun h => by rw [hft,decide_eq_true h]; simp
     clear hft hlv
     dsimp only [Ev.av,Ev.cs] at hab ⊢
     repeat' ((conv => whnf); first | refine K1.w ?_ | refine K1.u ?_ | refine K1.P1 (hab) rfl ?_ | refine ARet.hdI ?_ | refine K1.z ?_ | refine K1.y (fun _ => ?_) (fun _ => ?_) | fail)
     all_goals (conv => whnf)
     all_goals first
       | exact ⟨⟨(j + 1,[]),hjl,hq0 (by assumption) (by assumption)⟩,_,LeR.mk' [] _ _ _ rfl ⟨AEq.refl _,AEq.refl _,AEq.refl _,AEq.int rfl,AEq.int rfl,trivial⟩ trivial rfl,by show l.length - (j + 1) < l.length - j; omega⟩
       | (refine ⟨⟨(j + 1,[l.getD j default]),hjl,by first | exact hq1 (by assumption) | exact hk1 (by assumption)⟩,_,LeR.mk' [(3,90)] _ _ _ rfl ⟨AEq.refl _,AEq.refl _,AEq.refl _,AEq.int rfl,AEq.int rfl,trivial⟩ ⟨⟨_,rfl,OEq.row rfl (fun m hm => ?_)⟩,trivial⟩ rfl,by show l.length - (j + 1) < l.length - j; omega⟩
          have hm : m < 1 := hm
          obtain rfl : m = 0 := by omega
          rfl)
   · have e : l.filter (cntP l) = [] := by rw [List.take_of_length_le (by omega)] at hys; exact hys.symm
     rw [hr] at e
     cases e
 · dsimp only
   have hyl : ys.length + 1 ≤ j := by
    have h1 := congrArg List.length hys
    have h2 := List.length_filter_le (cntP l) (l.take j)
    rw [List.length_take] at h2
    rw [List.length_cons] at h1
    omega
   by_cases hjl : j < l.length
   · have hab := created_spec l (l.getD (j : Int).toNat default) (by omega)
     have hft := filter_take (p := cntP l) hjl
     rw [← hys] at hft
     have hlv : cntP l (l.getD j default) = (decide ((l.getD (j : Int).toNat default).k = 1) || l.any (crP (l.getD (j : Int).toNat default))) := by rw [show (j : Int).toNat = j by omega]; rfl
     rw [hlv] at hft
     generalize l.any (crP (l.getD (j : Int).toNat default)) = q at hab hft
     have hq0 : ¬ (l.getD (j : Int).toNat default).k = 1 → q = false → y :: ys = (l.take (j + 1)).filter (cntP l) := fun h h' => by rw [hft,decide_eq_false h,h']; simp
     have hq1 : q = true → y :: (ys ++ [l.getD j default]) = (l.take (j + 1)).filter (cntP l) := fun h' => by rw [hft,h']; simp
     have hk1 : (l.getD (j : Int).toNat default).k = 1 → y :: (ys ++ [l.getD j default]) = (l.take (j + 1)).filter (cntP l) := fun h => by rw [hft,decide_eq_true h]; simp
     clear hft hlv
     dsimp only [Ev.av,Ev.cs] at hab ⊢
     repeat' ((conv => whnf); first | refine K1.w ?_ | refine K1.u ?_ | refine K1.P1 (hab) rfl ?_ | refine ARet.hdI ?_ | refine K1.z ?_ | refine K1.y (fun _ => ?_) (fun _ => ?_) | fail)
     all_goals (conv => whnf)
     all_goals first
       | exact ⟨⟨(j + 1,y :: ys),hjl,hq0 (by assumption) (by assumption)⟩,_,LeR.mk' [] _ _ _ rfl ⟨AEq.refl _,AEq.refl _,AEq.refl _,AEq.int rfl,AEq.int rfl,trivial⟩ ⟨⟨_,rfl,OEq.refl _⟩,trivial⟩ rfl,by show l.length - (j + 1) < l.length - j; omega⟩
       | (refine ⟨⟨(j + 1,y :: (ys ++ [l.getD j default])),hjl,by first | exact hq1 (by assumption) | exact hk1 (by assumption)⟩,_,LeR.mk' [(93,90)] _ _ _ rfl ⟨AEq.refl _,AEq.refl _,AEq.refl _,AEq.int rfl,AEq.int rfl,trivial⟩ ⟨⟨_,rfl,OEq.row (by simp) (fun m hm => ?_)⟩,trivial⟩ rfl,by show l.length - (j + 1) < l.length - j; omega⟩
          exact els_app1 (c := Ev.cs) (l := y :: ys) rfl rfl m hm)
   · have e : l.filter (cntP l) = y :: ys := by rw [List.take_of_length_le (by omega)] at hys; exact hys.symm
     rw [hr] at e
     cases e
     repeat' ((conv => whnf); first | refine K1.w ?_ | refine K1.u ?_ | refine ARet.ownX d rfl rfl (OEq.refl _) (AEq.refl _) | refine K1.z ?_ | refine K1.y (fun _ => ?_) (fun _ => ?_) | fail)
set_option maxHeartbeats 4000000 in
set_option maxRecDepth 100000 in
theorem counted_nil (l : List Ev) (hr : l.filter (cntP l) = []) (hl : l.length ≤ 1000000000) :
  ASpec Tryz.prog 158 [.sl 12 l.length true (evF l)] (.v (.slice none 0 0)) [] := by
 refine K1.E 0x803ed Tryz.func158 ?_
 repeat' ((conv => whnf); first | refine K1.w ?_ | refine K1.u ?_ | refine ARet.hdI ?_ | refine K1.z ?_ | refine K1.y (fun _ => ?_) (fun _ => ?_) | fail)
 conv => whnf
 refine ALoop.mk { j : Nat // j ≤ l.length } (fun j => ⟨[(0, .sl 12 l.length true (evF l)),(3, .v (.slice none 0 0)),(6, .sl 12 l.length true (evF l)),(7, .v (.int .i64 (l.length : Int))),(8, .v (.int .i64 (j.1 : Int)))],
       [],[],1⟩) (fun j => l.length - j.1) ⟨0,Nat.zero_le _⟩ _
  (LeR.mk' [] _ _ _ rfl ⟨AEq.refl _,AEq.refl _,AEq.refl _,AEq.int rfl,AEq.int rfl,trivial⟩ trivial rfl) ?_
 rintro ⟨j,hj⟩
 dsimp only
 by_cases hjl : j < l.length
 · have hab := created_spec l (l.getD (j : Int).toNat default) (by omega)
   have hlv : (decide ((l.getD (j : Int).toNat default).k = 1) || l.any (crP (l.getD (j : Int).toNat default))) = false := by
    have hm : l.getD (j : Int).toNat default ∈ l := by
     rw [show (j : Int).toNat = j by omega,List.getD,List.getElem?_eq_getElem hjl]
     exact List.getElem_mem _
    have := List.filter_eq_nil_iff.1 hr _ hm
    simpa [cntP] using this
   rw [Bool.or_eq_false_iff] at hlv
   have hk : ¬ (l.getD (j : Int).toNat default).k = 1 := of_decide_eq_false hlv.1
   rw [hlv.2] at hab
   clear hlv
   dsimp only [Ev.av,Ev.cs] at hab ⊢
   repeat' ((conv => whnf); first | refine K1.w ?_ | refine K1.u ?_ | refine K1.P1 (hab) rfl ?_ | refine ARet.hdI ?_ | refine K1.z ?_ | refine K1.y (fun _ => ?_) (fun _ => ?_) | fail)
   all_goals (conv => whnf)
   all_goals exact ⟨⟨j + 1,hjl⟩,_,LeR.mk' [] _ _ _ rfl ⟨AEq.refl _,AEq.refl _,AEq.refl _,AEq.int rfl,AEq.int rfl,trivial⟩ trivial rfl,by show l.length - (j + 1) < l.length - j; omega⟩
 · repeat' ((conv => whnf); first | refine K1.w ?_ | refine K1.u ?_ | refine ARet.hdI ?_ | refine K1.z ?_ | refine K1.y (fun _ => ?_) (fun _ => ?_) | fail)
   conv => whnf
   exact AEqI.mk (AEq.refl _)
end Go.Proofs.YtimhagicagdkfaaGreat
