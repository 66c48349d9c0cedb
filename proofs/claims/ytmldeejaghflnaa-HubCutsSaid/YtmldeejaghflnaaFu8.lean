/-
  Contracts of the walk: HbG, HbH, Var, VTake, TkPlain, Tk, Crc.
-/
import Derived.Test.YtmldeejaghflnaaFu7
import Derived.Test.YtmldeejaghflnaaChecked
import Derived.Test.YtmldeejaghflnaaFu1
import Derived.Test.YtmldeejaghflnaaFu6
import Derived.WalkSpells
import Derived.WalkLawsBesides
import Derived.Handy
import Derived.Laws.BitsAllLaws
import Derived.Laws.StructEq
import Derived.Laws.Cover2
/-
 The post: what Fetch tells.
-/
namespace Go.Proofs.Ytmldeejaghflnaa
open Go.RowKit
def fetchG (r : Nat) (c : Clk) : Nat → List Shf → List Ev
  | _,[] => []
  | i,s :: l => (if i = r then [] else s.kept.filter (overN (c.get i))) ++ fetchG r c (i + 1) l
theorem filt_le {s : Shf} (h : ShB s) (n : Int) : (s.kept.filter (overN n)).length ≤ 1048576 := Nat.le_trans (List.length_filter_le _ _) h.k
theorem app_ev {n : Nat} {l l' : List Ev} (hn : n = l.length) : appF n (evF l) (evF l') = evF (l ++ l') := funext fun i => els_app (c := Ev.cs) hn i
theorem sh_from_b (most : Int) (s : Shf) (n : Int) (h : ShB s) : MSpec Try.prog 76 [(0, .obs (shO most s))] [.box 0 0, .v (.int .i64 n)] (.own 1) [(0, .obs (shO most s)),(1,evRow (s.kept.filter (overN n)))] := sh_from_m most s n h.k
theorem app_ev3 {n1 n2 : Nat} {a b c : List Ev} (h1 : n1 = a.length) (h2 : n2 = n1 + b.length) : appF n2 (appF n1 (evF a) (evF b)) (evF c) = evF (a ++ b ++ c) := by
 rw [app_ev h1,app_ev (by rw [h2,h1,List.length_append])]
theorem app_ev4 {n1 n2 n3 : Nat} {a b c d : List Ev} (h1 : n1 = a.length) (h2 : n2 = n1 + b.length) (h3 : n3 = n2 + c.length) : appF n3 (appF n2 (appF n1 (evF a) (evF b)) (evF c)) (evF d) = evF (a ++ b ++ c ++ d) := by
 rw [app_ev3 h1 h2,app_ev (by rw [h3,h2,h1,List.length_append,List.length_append])]
def fB (c : Clk) : Nat → List Shf → Prop
  | _,[] => True
  | i,s :: l => (s.kept.filter (overN (c.get i))).length ≤ 1048576 ∧ fB c (i + 1) l
theorem fB_of {c : Clk} : ∀ {l : List Shf} {i : Nat},(∀ s ∈ l,ShB s) → fB c i l
  | [],_,_ => trivial
  | s :: _,_,h => ⟨filt_le (h s List.mem_cons_self) _,fB_of fun x hx => h x (List.mem_cons_of_mem _ hx)⟩
set_option maxHeartbeats 16000000 in
set_option maxRecDepth 100000 in
theorem pt_fetch_m (most : Int) (p : Pt) (hp : PtB p) (r : Nat) (c : Clk) (hr : r < p.sh.length) (h2 : 2 ≤ p.sh.length) :
  MSpec Try.prog 50 [(0, .obs (ptO most p))] [.box 0 0, .v (.int .i64 (r : Int)), .agg (clC c)] (.tup [.own 1, .v (.int .i64 0)]) [(0, .obs (ptO most p)),(1,evRow (fetchG r c 0 p.sh))] := by
 refine pt_opn (ho := [(1,evRow (fetchG r c 0 p.sh))]) ⟨_,_,Try.func50,rfl,rfl⟩ ?_ rfl
 refine Pt.casesR (C := fun p r => 2 ≤ p.sh.length → fB c 0 p.sh → ∀ l,fetchG r c 0 p.sh = l → MSpec Try.prog 50 (ptH most p ()) [.box 0 0, .v (.int .i64 (r : Int)), .agg (clC c)] (.tup [.own 1, .v (.int .i64 0)]) (ptH most p () ++ [(1,evRow l)])) p r hp hr ?_ ?_ ?_ ?_ ?_ ?_ ?_ ?_ ?_ ?_ ?_ ?_ ?_ ?_ ?_ h2 (fB_of hp.s) _ rfl
 · intro s0 t0 g0 h2
   simp at h2
 all_goals
  intros
  rename_i hf _ e
  simp [fB,fetchG,Clk.get, -Nat.reduceLeDiff] at hf e
  try simp only [← List.append_assoc] at e
  subst e
  dsimp only [ptH,ptB,clRow,ptrs,shs,evRow,clC,List.cons_append,List.nil_append]
  refine mspec_of lay_ok 138168295 40 Try.func50 rfl rfl rfl ?_
  repeat' ((conv => whnf); first | refine K1.a ?_ | refine K1.b ?_ | refine K1.c ?_ | refine K1.d ?_ | refine K1.e ?_ | refine K1.f ?_ | refine ACall.chgR 1 [(0,_)] (sh_from_b _ _ _ (by assumption)) rfl ⟨rfl,trivial⟩ rfl rfl ?_ | refine ACall.into 19 _ _ Try.func66 rfl rfl rfl ?_ | refine ALoop.unr 20 6 rfl ?_ | refine InA.mk (by decide) ?_ | refine Spl.yes (by decide) ?_ | refine Spl.no (by decide) ?_ | refine Spl.mk (fun _ => ?_) (fun _ => ?_) | refine SNil.mk (fun _ => ?_) ?_ | refine K1.g ?_ | refine ASl.frz ?_ | refine Wr.b64 ?_ | refine Wr.bu64 ?_ | refine Wr.bu32 ?_ | refine Wr.bu8 ?_ | refine K1.u8 ?_ | refine K1.u64 ?_ | refine K1.u32 ?_ | refine K1.h ?_ | refine K1.i ?_ | refine K1.q ?_ | refine K1.j ?_ | refine K1.k ?_ | refine BSpl.dec (fun _ => ?_) (fun _ => ?_) | refine K1.l ?_ | refine K1.n ?_ | refine BSpl.mk (fun _ => ?_) (fun _ => ?_))
  all_goals (conv => whnf)
  first
    | refine ⟨[(42,1)],rfl,rfl,?_,rfl,rfl,AEq.refl _⟩
    | refine ⟨[(44,1)],rfl,rfl,?_,rfl,rfl,AEq.refl _⟩
    | refine ⟨[(46,1)],rfl,rfl,?_,rfl,rfl,AEq.refl _⟩
    | refine ⟨[(48,1)],rfl,rfl,?_,rfl,rfl,AEq.refl _⟩
  repeat' first
    | exact trivial
    | refine ⟨⟨_,rfl,OEq.refl _⟩,?_⟩
    | refine ⟨⟨_,rfl,OEq.row (by simp only [List.length_append]) (fun m _ => congrFun (app_ev rfl) m)⟩,?_⟩
    | refine ⟨⟨_,rfl,OEq.row (by simp only [List.length_append]) (fun m _ => congrFun (app_ev3 rfl rfl) m)⟩,?_⟩
    | refine ⟨⟨_,rfl,OEq.row (by simp only [List.length_append]) (fun m _ => congrFun (app_ev4 rfl rfl rfl) m)⟩,?_⟩
end Go.Proofs.Ytmldeejaghflnaa

/-
 Which configs may be (layer 11,and its reference).
-/
namespace Go.Proofs.Ytmldeejaghflnaa
open Go.RowKit
def inC (n m : Int) : Bool := decide (1 ≤ n) && decide (n ≤ m)
def mayC (c : Cfg) : Bool := inC c.n 5 && inC c.w 4 && inC c.q 8 && inC c.h 20 && inC c.l 4 && inC c.p 3
theorem inC_iff {n m : Int} : inC n m = true ↔ 1 ≤ n ∧ n ≤ m := by simp [inC]
theorem upto_spec (n m : Int) : ASpec Try.prog 39 [.v (.int .i64 n), .v (.int .i64 m)] (.v (.bool (inC n m))) [] := by
 refine aspec_of lay_ok 19 Try.func39 rfl rfl rfl ?_
 repeat' ((conv => whnf); first | refine K1.a ?_ | refine K1.b ?_ | refine K1.c ?_ | refine K1.d ?_ | refine K1.e ?_ | refine K1.f ?_ | refine ARet.hdI ?_ | refine Spl.mk (fun _ => ?_) (fun _ => ?_) | refine SNil.mk (fun _ => ?_) ?_ | refine K1.g ?_ | refine ASl.frz ?_ | refine Wr.b64 ?_ | refine Wr.bu64 ?_ | refine Wr.bu32 ?_ | refine Wr.bu8 ?_ | refine K1.u8 ?_ | refine K1.u64 ?_ | refine K1.u32 ?_ | refine K1.h ?_ | refine K1.i ?_ | refine K1.q ?_ | refine K1.j ?_ | refine K1.k ?_ | refine BSpl.dec (fun _ => ?_) (fun _ => ?_) | refine K1.l ?_ | refine K1.n ?_ | refine BSpl.mk (fun _ => ?_) (fun _ => ?_))
 all_goals (conv => whnf)
 all_goals (refine AEqI.mk (AEq.of ?_))
 all_goals simp [inC, *]
theorem in11_spec (n m : Int) : ASpec Try.prog 20 [.v (.int .i64 n), .v (.int .i64 m)] (.v (.bool (inC n m))) [] := by
 refine aspec_of lay_ok 19 Try.func20 rfl rfl rfl ?_
 repeat' ((conv => whnf); first | refine K1.a ?_ | refine K1.b ?_ | refine K1.c ?_ | refine K1.d ?_ | refine K1.e ?_ | refine K1.f ?_ | refine ARet.hdI ?_ | refine Spl.mk (fun _ => ?_) (fun _ => ?_) | refine SNil.mk (fun _ => ?_) ?_ | refine K1.g ?_ | refine ASl.frz ?_ | refine Wr.b64 ?_ | refine Wr.bu64 ?_ | refine Wr.bu32 ?_ | refine Wr.bu8 ?_ | refine K1.u8 ?_ | refine K1.u64 ?_ | refine K1.u32 ?_ | refine K1.h ?_ | refine K1.i ?_ | refine K1.q ?_ | refine K1.j ?_ | refine K1.k ?_ | refine BSpl.dec (fun _ => ?_) (fun _ => ?_) | refine K1.l ?_ | refine K1.n ?_ | refine BSpl.mk (fun _ => ?_) (fun _ => ?_))
 all_goals (conv => whnf)
 all_goals (refine AEqI.mk (AEq.of ?_))
 all_goals simp [inC, *]
set_option maxRecDepth 100000 in
theorem mayC_spec (c : Cfg) : ASpec Try.prog 19 [c.av] (.v (.bool (mayC c))) [] := by
 obtain ⟨n,w,q,h,l,p⟩ := c
 dsimp only [Cfg.av,Cfg.cs]
 refine aspec_of lay_ok 7 Try.func19 rfl rfl rfl ?_
 repeat' ((conv => whnf); first | refine K1.a ?_ | refine K1.b ?_ | refine K1.c ?_ | refine K1.d ?_ | refine K1.e ?_ | refine K1.f ?_ | refine ACall.plain _ _ (upto_spec _ _) (SubL.cons (.eq _) (SubL.cons (.eq _) .nil)) rfl ?_ | refine ARet.hdI ?_ | refine Spl.mk (fun _ => ?_) (fun _ => ?_) | refine SNil.mk (fun _ => ?_) ?_ | refine K1.g ?_ | refine ASl.frz ?_ | refine Wr.b64 ?_ | refine Wr.bu64 ?_ | refine Wr.bu32 ?_ | refine Wr.bu8 ?_ | refine K1.u8 ?_ | refine K1.u64 ?_ | refine K1.u32 ?_ | refine K1.h ?_ | refine K1.i ?_ | refine K1.q ?_ | refine K1.j ?_ | refine K1.k ?_ | refine BSpl.dec (fun _ => ?_) (fun _ => ?_) | refine K1.l ?_ | refine K1.n ?_ | refine BSpl.mk (fun _ => ?_) (fun _ => ?_))
 all_goals (conv => whnf)
 all_goals (refine AEqI.mk (AEq.of ?_))
 all_goals simp [mayC, *]
set_option maxRecDepth 100000 in
theorem may11_spec (c : Cfg) : ASpec Try.prog 9 [c.av] (.v (.bool (mayC c))) [] := by
 obtain ⟨n,w,q,h,l,p⟩ := c
 dsimp only [Cfg.av,Cfg.cs]
 refine aspec_of lay_ok 7 Try.func9 rfl rfl rfl ?_
 repeat' ((conv => whnf); first | refine K1.a ?_ | refine K1.b ?_ | refine K1.c ?_ | refine K1.d ?_ | refine K1.e ?_ | refine K1.f ?_ | refine ACall.plain _ _ (in11_spec _ _) (SubL.cons (.eq _) (SubL.cons (.eq _) .nil)) rfl ?_ | refine ARet.hdI ?_ | refine Spl.mk (fun _ => ?_) (fun _ => ?_) | refine SNil.mk (fun _ => ?_) ?_ | refine K1.g ?_ | refine ASl.frz ?_ | refine Wr.b64 ?_ | refine Wr.bu64 ?_ | refine Wr.bu32 ?_ | refine Wr.bu8 ?_ | refine K1.u8 ?_ | refine K1.u64 ?_ | refine K1.u32 ?_ | refine K1.h ?_ | refine K1.i ?_ | refine K1.q ?_ | refine K1.j ?_ | refine K1.k ?_ | refine BSpl.dec (fun _ => ?_) (fun _ => ?_) | refine K1.l ?_ | refine K1.n ?_ | refine BSpl.mk (fun _ => ?_) (fun _ => ?_))
 all_goals (conv => whnf)
 all_goals (refine AEqI.mk (AEq.of ?_))
 all_goals simp [mayC, *]
theorem mayC_n {c : Cfg} (h : mayC c = true) : ∃ n : Nat,c.n = (n : Int) ∧ 1 ≤ n ∧ n ≤ 5 := by
 simp only [mayC,Bool.and_eq_true] at h
 have h1 := inC_iff.1 h.1.1.1.1.1
 exact ⟨c.n.toNat,by omega,by omega,by omega⟩
end Go.Proofs.Ytmldeejaghflnaa

/-
 What varint.Put computes: the bytes of a number,in a new slice.
-/
namespace Go.Proofs.Ytmldeejaghflnaa
open Go.RowKit
def OutB (w : World) (bs : List UInt8) (x : Value) (w' : World) : Prop :=
 ∃ A c,x = .slice A bs.length c ∧ w'.ownsRow w.heap.size 5 1 (.slice A bs.length c) bs.length (bs.map bV) ∧ Below w.heap.size w w'
end Go.Proofs.Ytmldeejaghflnaa

/-
 varint.Take: the number at the beginning of bytes,as a plain function (vtake).
-/
namespace Go.Proofs.Ytmldeejaghflnaa
open Go.RowKit
def vtakeF : List UInt8 → Nat → Nat → Nat × Nat × Int
  | [],i,_ => if i = 10 then (0,0,3) else (0,0,2)
  | c :: r,i,acc =>
    if 128 ≤ c.toNat then vtakeF r (i + 1) (acc + (c.toNat - 128) * 128 ^ i)
    else if (0 < i ∧ c.toNat = 0) ∨ (i = 9 ∧ 1 < c.toNat) then (0,0,3)
    else (acc + c.toNat * 128 ^ i,i + 1,0)
def vtake (bs : List UInt8) : Nat × Nat × Int := vtakeF (bs.take 10) 0 0
theorem pow_join (j : Nat) : 2 ^ (7 * j) = 128 ^ j := by rw [Nat.pow_mul]
theorem vjoin {acc v j : Nat} (ha : acc < 128 ^ j) (hv : v * 128 ^ j < 18446744073709551616) (hp : 128 ^ j ≤ 9223372036854775808) :
  bits .or .u64 (acc : Int) (IntKind.u64.wrap ((v : Int) * 2 ^ (7 * j))) = ((acc + v * 128 ^ j : Nat) : Int) := by
 have h1 : ((v : Int) * 2 ^ (7 * j)) = ((v * 128 ^ j : Nat) : Int) := by
  rw [← pow_join]; simp
 rw [h1,IntKind.wrap_u64]
 have h2 : ((v * 128 ^ j : Nat) : Int) % 18446744073709551616 = ((v * 128 ^ j : Nat) : Int) := by omega
 rw [h2,u64_or_nat _ _ (by omega) hv,Nat.or_comm]
 congr 1
 rw [nat_join (7 * j) (v * 128 ^ j) acc (by rw [pow_join]; exact Nat.mul_mod_left _ _) (by rw [pow_join]; exact ha),Nat.add_comm]
theorem pow_top {j : Nat} (h : j ≤ 9) : 128 ^ j ≤ 9223372036854775808 := by
 have := Nat.pow_le_pow_right (n := 128) (by omega) h
 have h2 : 128 ^ 9 = 9223372036854775808 := by decide
 omega
theorem vmid {acc q j : Nat} (hj : j ≤ 8) (ha : acc < 128 ^ j) (hq : q < 256) (h128 : 128 ≤ q) :
  bits .or .u64 (acc : Int) (IntKind.u64.wrap (((q : Int) - 128) * 2 ^ (7 * j))) = ((acc + (q - 128) * 128 ^ j : Nat) : Int) ∧ acc + (q - 128) * 128 ^ j < 128 ^ (j + 1) := by
 have hp := pow_top (show j + 1 ≤ 9 by omega)
 have hp' := pow_top (show j ≤ 9 by omega)
 rw [Nat.pow_succ] at hp ⊢
 have hm : (q - 128) * 128 ^ j ≤ 127 * 128 ^ j := Nat.mul_le_mul_right _ (by omega)
 have hc : (q : Int) - 128 = ((q - 128 : Nat) : Int) := by omega
 rw [hc]
 exact ⟨vjoin ha (by omega) hp',by omega⟩
theorem vend {acc q j : Nat} (hj : j ≤ 9) (ha : acc < 128 ^ j) (hq : q < 128) (h9 : ¬ (j = 9 ∧ 1 < q)) :
  bits .or .u64 (acc : Int) (IntKind.u64.wrap ((q : Int) * 2 ^ (7 * j))) = ((acc + q * 128 ^ j : Nat) : Int) := by
 have hp' := pow_top hj
 by_cases h : j = 9
 · have hm : q * 128 ^ j ≤ 1 * 128 ^ j := Nat.mul_le_mul_right _ (by omega)
   exact vjoin ha (by omega) hp'
 · have hp := pow_top (show j + 1 ≤ 9 by omega)
   rw [Nat.pow_succ] at hp
   have hm : q * 128 ^ j ≤ 127 * 128 ^ j := Nat.mul_le_mul_right _ (by omega)
   exact vjoin ha (by omega) hp'
set_option maxHeartbeats 1000000 in
set_option maxRecDepth 100000 in
theorem vtake_any (A : Option Addr) (n c : Nat) (bs : List UInt8) (w : World) (h : Rd w w.heap.size 1 A n (bs.map bV)) (hn : n = bs.length) (hc : n ≤ c) :
  Calls Try.prog 52 #[.slice A n c] w fun x w' => x = .returned (.tuple #[.int .u64 (vtake bs).1, .int .i64 (vtake bs).2.1, .int .i64 (vtake bs).2.2]) ∧ w = w' := by
 generalize hR : vtake bs = R
 unfold vtake at hR
 by_cases h10 : 10 < n
 · have hrd : Rd w w.heap.size 1 A 10 ((bs.take 10).map bV) := by
    have := h.first (k := 10) (by omega)
    rwa [Nat.mul_one,← List.map_take] at this
   have hll : (bs.take 10).length = 10 := by rw [List.length_take]; omega
   generalize bs.take 10 = L at hR hrd hll
   go_enter Try.func52,Try.ntmps52
   go_wp2_with fail
   have hlm : L.length ≤ 10 := by omega
   go_loop [2,14] (fun x i => ∃ (j acc : Nat) (z : Int),j ≤ 10 ∧ x = .int .u64 z ∧ i = .int .i64 j ∧ (j ≤ 9 → z = acc ∧ acc < 128 ^ j) ∧ vtakeF (L.drop j) j acc = R) (fun _ i => 10 - (intOf i).toNat)
   case atStart => exact ⟨0,0,0,by omega,rfl,rfl,fun _ => ⟨rfl,by decide⟩,hR⟩
   case round =>
    obtain ⟨j,acc,z,hj,rfl,rfl,hz,hr⟩ := hrel
    have HZ := Lib.hid hz
    have HRR := Lib.hid hr
    clear hz hr
    by_cases hjm : j < 10
    · obtain ⟨b,o,hl,hA,hb,hcell⟩ := hrd.at1 hjm
      subst hA
      rw [List.getElem_map] at hcell
      simp only [bV] at hcell
      simp only [List.length_map] at hl
      have hdrop : L.drop j = L[j] :: L.drop (j + 1) := List.drop_eq_getElem_cons hl
      have HD := Lib.hid hdrop
      clear hdrop
      generalize L[j] = q at hcell HD
      have hq := q.toNat_lt
      have e_mul : IntKind.i64.wrap (7 * (j : Int)) = 7 * j := IntWalk.i64_in _ (by omega)
      have e_0 : (0 : Int) ≤ 7 * (j : Int) := by omega
      have e_64 : 7 * (j : Int) ≤ 64 := by omega
      have hjm' : (j : Int) < 10 := by omega
      by_cases h128 : 128 ≤ q.toNat
      · have h128' : (128 : Int) ≤ (q.toNat : Int) := by omega
        have e_sub : IntKind.u8.wrap ((q.toNat : Int) - 128) = (q.toNat : Int) - 128 := by
         rw [IntKind.wrap_u8]; omega
        have e_con : IntKind.u64.wrap ((q.toNat : Int) - 128) = (q.toNat : Int) - 128 := by
         rw [IntKind.wrap_u64]; omega
        go_wp2_with fail
        go_round
        case rel =>
         have hr := HRR.out
         rw [HD.out] at hr
         unfold vtakeF at hr
         rw [if_pos h128] at hr
         refine ⟨j + 1,_,_,by omega,rfl,by go_num,fun h9 => ?_,hr⟩
         have h8 : j ≤ 8 := by omega
         obtain ⟨hz,ha⟩ := HZ.out (by omega)
         rw [hz]
         exact vmid h8 ha hq h128
        case measure => simp [intOf]; omega
      · have h128' : (q.toNat : Int) < 128 := by omega
        have e_con : IntKind.u64.wrap (q.toNat : Int) = (q.toNat : Int) := by
         rw [IntKind.wrap_u64]; omega
        have e_j1 : IntKind.i64.wrap ((j : Int) + 1) = j + 1 := IntWalk.i64_in _ (by omega)
        have hr := HRR.out
        rw [HD.out] at hr
        unfold vtakeF at hr
        rw [if_neg h128] at hr
        have H128 := Lib.hid h128
        clear h128
        by_cases h0 : j = 0
        · have hj0 : ¬ (0 : Int) < (j : Int) := by omega
          have h9' : ((j : Int) == 9) = false := by rw [beq_eq_false_iff_ne]; omega
          rw [if_neg (by omega)] at hr
          have H0 := Lib.hid h0
          clear h0
          go_wp2_with fail
          go_ret3
          have h0 := H0.out
          have hv := vend (acc := acc) (by omega) (HZ.out (by omega)).2 (by have := H128.out; omega : q.toNat < 128) (by omega)
          rw [← hr,(HZ.out (by omega)).1,hv]
          simp
        · have hj0 : (0 : Int) < (j : Int) := by omega
          by_cases hq0 : q.toNat = 0
          · rw [if_pos (Or.inl ⟨by omega,hq0⟩)] at hr
            have hq0' : (q.toNat : Int) = 0 := by omega
            rw [hq0'] at hcell
            go_wp2_with fail
            go_ret3
            rw [← hr]
            simp
          · have hq0' : ((q.toNat : Int) == 0) = false := by rw [beq_eq_false_iff_ne]; omega
            by_cases h9 : j = 9
            · have h9' : ((j : Int) == 9) = true := by rw [beq_iff_eq]; omega
              have H9 := Lib.hid h9
              by_cases hq1 : 1 < q.toNat
              · have hq1' : (1 : Int) < (q.toNat : Int) := by omega
                rw [if_pos (Or.inr ⟨h9,hq1⟩)] at hr
                clear h9
                go_wp2_with fail
                go_ret3
                rw [← hr]
                simp
              · have hq1' : ¬ (1 : Int) < (q.toNat : Int) := by omega
                rw [if_neg (by omega)] at hr
                clear h9
                go_wp2_with fail
                go_ret3
                have h9 := H9.out
                have hv := vend (acc := acc) (by omega) (HZ.out (by omega)).2 (by have := H128.out; omega : q.toNat < 128) (by omega)
                rw [← hr,(HZ.out (by omega)).1,hv]
                simp
            · have h9' : ((j : Int) == 9) = false := by rw [beq_eq_false_iff_ne]; omega
              rw [if_neg (by omega)] at hr
              go_wp2_with fail
              go_ret3
              have hv := vend (acc := acc) (by omega) (HZ.out (by omega)).2 (by have := H128.out; omega : q.toNat < 128) (by omega)
              rw [← hr,(HZ.out (by omega)).1,hv]
              simp
    · have hjn : j = 10 := by omega
      subst hjn
      have hr := HRR.out
      rw [List.drop_eq_nil_of_le (by omega)] at hr
      unfold vtakeF at hr
      rw [if_pos rfl] at hr
      go_wp2_with fail
      go_ret3
      rw [← hr]
      simp
 · have hrd : Rd w w.heap.size 1 A n ((bs.take 10).map bV) := by rwa [List.take_of_length_le (by omega)]
   have hll : (bs.take 10).length = n := by rw [List.length_take]; omega
   generalize bs.take 10 = L at hR hrd hll
   go_enter Try.func52,Try.ntmps52
   go_wp2_with fail
   have hlm : L.length ≤ 10 := by omega
   go_loop [2,14] (fun x i => ∃ (j acc : Nat) (z : Int),j ≤ n ∧ x = .int .u64 z ∧ i = .int .i64 j ∧ (j ≤ 9 → z = acc ∧ acc < 128 ^ j) ∧ vtakeF (L.drop j) j acc = R) (fun _ i => n - (intOf i).toNat)
   case atStart => exact ⟨0,0,0,by omega,rfl,rfl,fun _ => ⟨rfl,by decide⟩,hR⟩
   case round =>
    obtain ⟨j,acc,z,hj,rfl,rfl,hz,hr⟩ := hrel
    have HZ := Lib.hid hz
    have HRR := Lib.hid hr
    clear hz hr
    by_cases hjm : j < n
    · obtain ⟨b,o,hl,hA,hb,hcell⟩ := hrd.at1 hjm
      subst hA
      rw [List.getElem_map] at hcell
      simp only [bV] at hcell
      simp only [List.length_map] at hl
      have hdrop : L.drop j = L[j] :: L.drop (j + 1) := List.drop_eq_getElem_cons hl
      have HD := Lib.hid hdrop
      clear hdrop
      generalize L[j] = q at hcell HD
      have hq := q.toNat_lt
      have e_mul : IntKind.i64.wrap (7 * (j : Int)) = 7 * j := IntWalk.i64_in _ (by omega)
      have e_0 : (0 : Int) ≤ 7 * (j : Int) := by omega
      have e_64 : 7 * (j : Int) ≤ 64 := by omega
      have hjm' : (j : Int) < (n : Int) := by omega
      by_cases h128 : 128 ≤ q.toNat
      · have h128' : (128 : Int) ≤ (q.toNat : Int) := by omega
        have e_sub : IntKind.u8.wrap ((q.toNat : Int) - 128) = (q.toNat : Int) - 128 := by
         rw [IntKind.wrap_u8]; omega
        have e_con : IntKind.u64.wrap ((q.toNat : Int) - 128) = (q.toNat : Int) - 128 := by
         rw [IntKind.wrap_u64]; omega
        go_wp2_with fail
        go_round
        case rel =>
         have hr := HRR.out
         rw [HD.out] at hr
         unfold vtakeF at hr
         rw [if_pos h128] at hr
         refine ⟨j + 1,_,_,by omega,rfl,by go_num,fun h9 => ?_,hr⟩
         have h8 : j ≤ 8 := by omega
         obtain ⟨hz,ha⟩ := HZ.out (by omega)
         rw [hz]
         exact vmid h8 ha hq h128
        case measure => simp [intOf]; omega
      · have h128' : (q.toNat : Int) < 128 := by omega
        have e_con : IntKind.u64.wrap (q.toNat : Int) = (q.toNat : Int) := by
         rw [IntKind.wrap_u64]; omega
        have e_j1 : IntKind.i64.wrap ((j : Int) + 1) = j + 1 := IntWalk.i64_in _ (by omega)
        have hr := HRR.out
        rw [HD.out] at hr
        unfold vtakeF at hr
        rw [if_neg h128] at hr
        have H128 := Lib.hid h128
        clear h128
        by_cases h0 : j = 0
        · have hj0 : ¬ (0 : Int) < (j : Int) := by omega
          have h9' : ((j : Int) == 9) = false := by rw [beq_eq_false_iff_ne]; omega
          rw [if_neg (by omega)] at hr
          have H0 := Lib.hid h0
          clear h0
          go_wp2_with fail
          go_ret3
          have h0 := H0.out
          have hv := vend (acc := acc) (by omega) (HZ.out (by omega)).2 (by have := H128.out; omega : q.toNat < 128) (by omega)
          rw [← hr,(HZ.out (by omega)).1,hv]
          simp
        · have hj0 : (0 : Int) < (j : Int) := by omega
          by_cases hq0 : q.toNat = 0
          · rw [if_pos (Or.inl ⟨by omega,hq0⟩)] at hr
            have hq0' : (q.toNat : Int) = 0 := by omega
            rw [hq0'] at hcell
            go_wp2_with fail
            go_ret3
            rw [← hr]
            simp
          · have hq0' : ((q.toNat : Int) == 0) = false := by rw [beq_eq_false_iff_ne]; omega
            by_cases h9 : j = 9
            · have h9' : ((j : Int) == 9) = true := by rw [beq_iff_eq]; omega
              have H9 := Lib.hid h9
              by_cases hq1 : 1 < q.toNat
              · have hq1' : (1 : Int) < (q.toNat : Int) := by omega
                rw [if_pos (Or.inr ⟨h9,hq1⟩)] at hr
                clear h9
                go_wp2_with fail
                go_ret3
                rw [← hr]
                simp
              · have hq1' : ¬ (1 : Int) < (q.toNat : Int) := by omega
                rw [if_neg (by omega)] at hr
                clear h9
                go_wp2_with fail
                go_ret3
                have h9 := H9.out
                have hv := vend (acc := acc) (by omega) (HZ.out (by omega)).2 (by have := H128.out; omega : q.toNat < 128) (by omega)
                rw [← hr,(HZ.out (by omega)).1,hv]
                simp
            · have h9' : ((j : Int) == 9) = false := by rw [beq_eq_false_iff_ne]; omega
              rw [if_neg (by omega)] at hr
              go_wp2_with fail
              go_ret3
              have hv := vend (acc := acc) (by omega) (HZ.out (by omega)).2 (by have := H128.out; omega : q.toNat < 128) (by omega)
              rw [← hr,(HZ.out (by omega)).1,hv]
              simp
    · have hjn : j = n := by omega
      subst hjn
      have hr := HRR.out
      rw [List.drop_eq_nil_of_le (by omega)] at hr
      unfold vtakeF at hr
      by_cases h9 : j = 10
      · have h9' : ((j : Int) == 10) = true := by rw [beq_iff_eq]; omega
        rw [if_pos h9] at hr
        go_wp2_with fail
        go_ret3
        rw [← hr]
        simp
      · have h9' : ((j : Int) == 10) = false := by rw [beq_eq_false_iff_ne]; omega
        rw [if_neg h9] at hr
        go_wp2_with fail
        go_ret3
        rw [← hr]
        simp
theorem vtakeF_le : ∀ (l : List UInt8) (i acc : Nat),(vtakeF l i acc).2.1 ≤ i + l.length
  | [],i,acc => by unfold vtakeF; split <;> simp
  | c :: r,i,acc => by
    unfold vtakeF
    split
    · have := vtakeF_le r (i + 1) (acc + (c.toNat - 128) * 128 ^ i)
      simp only [List.length_cons]
      omega
    · split <;> simp
theorem vtake_le (l : List UInt8) : (vtake l).2.1 ≤ l.length := by
 have := vtakeF_le (l.take 10) 0 0
 rw [List.length_take] at this
 unfold vtake
 omega
end Go.Proofs.Ytmldeejaghflnaa

/-
 Plain Lean: how an event is read from bytes,field by field; behind a field that is wrong none is read any more.
-/
namespace Go.Proofs.Ytmldeejaghflnaa
abbrev St := Nat × Int
def octS (bs : List UInt8) (lo hi : Int) (s : St) : Int × St :=
 if s.2 ≠ 0 then (0,s)
 else if bs.length ≤ s.1 then (0,(s.1,2))
 else if lo ≤ ((bs.getD s.1 0).toNat : Int) ∧ ((bs.getD s.1 0).toNat : Int) ≤ hi then (((bs.getD s.1 0).toNat : Int),(s.1 + 1,0))
 else (0,(s.1 + 1,3))
def numS (bs : List UInt8) (lo hi : Int) (s : St) : Int × St :=
 if s.2 ≠ 0 then (0,s)
 else if (vtake (bs.drop s.1)).2.2 ≠ 0 then (0,(s.1,(vtake (bs.drop s.1)).2.2))
 else if lo ≤ ((vtake (bs.drop s.1)).1 : Int) ∧ ((vtake (bs.drop s.1)).1 : Int) ≤ hi then (((vtake (bs.drop s.1)).1 : Int),(s.1 + (vtake (bs.drop s.1)).2.1,0))
 else (0,(s.1,3))
def cutB (bs : List UInt8) (u n : Nat) : ByteArray := ⟨((bs.drop u).take n).toArray⟩
def wordS (bs : List UInt8) (size : Int) (may : ByteArray → Int) (s : St) : ByteArray × St :=
 if s.2 ≠ 0 then (⟨#[]⟩,s)
 else if ((bs.length : Int) - s.1 < size) then (⟨#[]⟩,(s.1,2))
 else (cutB bs s.1 size.toNat,(s.1 + size.toNat,if may (cutB bs s.1 size.toNat) = 0 then 0 else 3))
def skipS (bs : List UInt8) (r : Int) (j : Nat) (s : St) : Int × St := if (j : Int) = r then (0,s) else numS bs 0 1048576 s
def Clk.put (c : Clk) (r v : Int) : Clk :=
 if r = 0 then { c with c0 := v } else if r = 1 then { c with c1 := v } else if r = 2 then { c with c2 := v } else if r = 3 then { c with c3 := v } else { c with c4 := v }
def Clk.setN (c : Clk) : Nat → Int → Clk
  | 0,v => { c with c0 := v }
  | 1,v => { c with c1 := v }
  | 2,v => { c with c2 := v }
  | 3,v => { c with c3 := v }
  | _,v => { c with c4 := v }
def clkAt (bs : List UInt8) (r : Int) (s : St) : Nat → Clk × St
  | 0 => (⟨0,0,0,0,0⟩,s)
  | j + 1 => ((clkAt bs r s j).1.setN j (skipS bs r j (clkAt bs r s j).2).1,(skipS bs r j (clkAt bs r s j).2).2)
def clockS (bs : List UInt8) (r : Int) (s : St) : Clk × St := clkAt bs r s 5
def fieldS (bs : List UInt8) (s : St) : Ev × St :=
 let k := octS bs 1 5 s
 let r := octS bs 0 4 k.2
 let n := numS bs 1 1048576 r.2
 let c := clockS bs r.1 n.2
 let h := numS bs 1 16777216 c.2
 let ks := octS bs 1 8 h.2
 let key := wordS bs ks.1 keyE ks.2
 if isLong k.1 then
  let l := octS bs 0 1 key.2
  let vs := octS bs 1 12 l.2
  let v := wordS bs vs.1 valueE vs.2
  (⟨r.1,n.1,c.1.put r.1 (n.1 - 1),h.1,k.1,key.1,l.1,v.1⟩,v.2)
 else (⟨r.1,n.1,c.1.put r.1 (n.1 - 1),h.1,k.1,key.1,0,⟨#[]⟩⟩,key.2)
theorem octS_le {bs : List UInt8} {lo hi : Int} {s : St} (h : s.1 ≤ bs.length) : (octS bs lo hi s).2.1 ≤ bs.length := by
 unfold octS; split; exact h; split; exact h; split <;> dsimp only <;> omega
theorem octS_range {bs : List UInt8} {lo hi : Int} {s : St} : (octS bs lo hi s).1 = 0 ∨ (lo ≤ (octS bs lo hi s).1 ∧ (octS bs lo hi s).1 ≤ hi) := by
 unfold octS
 split
 · exact Or.inl rfl
 · split
   · exact Or.inl rfl
   · split
     · rename_i h
       exact Or.inr h
     · exact Or.inl rfl
end Go.Proofs.Ytmldeejaghflnaa

/-
 What the pieces of event.Take compute: varint.Take,and the three readers.
-/
namespace Go.Proofs.Ytmldeejaghflnaa
open Go.RowKit
theorem IsB.drop {F : Nat → List AV} {l : List UInt8} (h : IsB F l) (k : Nat) : IsB (fun i => F (k + i)) (l.drop k) := by
 intro i hi
 rw [List.length_drop] at hi
 show F (k + i) = bC ((l.drop k).getD i default)
 rw [h (k + i) (by omega)]
 show bC (l.getD (k + i) default) = _
 congr 1
 simp
theorem IsB.take {F : Nat → List AV} {l : List UInt8} (h : IsB F l) (k : Nat) : IsB F (l.take k) := by
 intro i hi
 rw [List.length_take] at hi
 show F i = bC ((l.take k).getD i default)
 rw [h i (by omega)]
 show bC (l.getD i default) = _
 congr 1
 simp [show i < k by omega]
theorem AEq.isB {n : Nat} {sc : Bool} {F : Nat → List AV} {l : List UInt8} (h : IsB F l) (hn : n = l.length) : AEq (.sl 1 n sc F) (.sl 1 l.length sc (bytesF l)) := AEq.sl hn fun i hi => h i (by omega)
theorem flat_bytes : ∀ l : List UInt8,flat l.length (bytesF l) = l.map fun b => .v (.int .u8 (b.toNat : Int))
  | [] => rfl
  | b :: l => by
    show bytesF (b :: l) 0 ++ flat l.length (fun i => bytesF (b :: l) (i + 1)) = _
    rw [List.map_cons,← flat_bytes l]
    rfl
theorem All2.vals {R : AV → Value → Prop} (hR : ∀ x u,R (.v x) u → u = x) : ∀ {xs us : List Value},All2 R (xs.map .v) us → us = xs
  | [],us,h => by
    have := h.1
    simp at this
    exact List.eq_nil_of_length_eq_zero this.symm
  | x :: xs,[],h => by have := h.1; simp at this
  | x :: xs,u :: us,h => by
    have h0 : u = x := hR x u (h.2 0 _ _ rfl rfl)
    have := All2.vals hR (xs := xs) (us := us) ⟨by simpa using h.1,fun i a b ha hb => h.2 (i + 1) a b (by simpa using ha) (by simpa using hb)⟩
    rw [h0,this]
theorem Bs.of {n : Nat} {F : Nat → List AV} {K : List UInt8 → Prop} (l : List UInt8) (hF : IsB F l) (hn : n = l.length) (h : K l) : Bs n F K := .mk l hn (fun i hi => hF i (by omega)) h
theorem dfl8 : (default : UInt8) = 0 := rfl
theorem spec_bytes {P : Program} {f : FuncId} {r : AV} {l : List UInt8} (he : Enters P f) (h : ∀ (A : Option Addr) (n c : Nat) (w : World),Rd w w.heap.size 1 A n (l.map bV) → n = l.length → n ≤ c →
  Calls P f #[.slice A n c] w fun e w' => ∃ u,e = .returned u ∧ Below w.heap.size w w' ∧ ∀ X,C2 X r u) {n : Nat} {F : Nat → List AV} (hF : IsB F l) (hn : n = l.length) : ASpec P f [.sl 1 n true F] r [] := by
 refine ⟨he,fun w keep args hkeep hargs => ?_⟩
 obtain ⟨u,rfl,hu⟩ := one_arg hargs
 have hu : PC w keep (.sl 1 l.length true (bytesF l)) u := AEq.isB hF hn ⟨w,keep,fun _ => undef⟩ u hu
 cases hu with
 | sl _ _ _ _ A c us hs hnc hc hl hf hsc hpc hr =>
   have hall : All2 (PC w keep) (flat l.length (bytesF l)) us := ⟨by rw [hl]; exact flat_len hf,hpc⟩
   have e1 : flat l.length (bytesF l) = (l.map bV).map .v := by rw [flat_bytes,List.map_map]; rfl
   rw [e1] at hall
   have e2 : us = l.map bV := All2.vals (fun x u h => by cases h; rfl) hall
   subst e2
   have hRd : Rd w w.heap.size 1 A l.length (l.map bV) := by
    refine ⟨by simp,fun hpos => ?_⟩
    rcases hr with h0 | ⟨b,o,hA,hk,hcell⟩
    · omega
    · exact ⟨b,o,hA,hkeep b hk,hcell⟩
   refine (h A l.length c w hRd rfl hnc).mono ?_
   rintro e w' ⟨v,h1,h2,h3⟩
   exact ⟨v,fun _ => undef,h1,h2,h3 _,(fun p hp => by cases hp),by simp [blocksOf],(fun b hb => by simp [blocksOf] at hb)⟩
theorem C2.tup3 (X : CX) (a b c : Value) : C2 X (.tup [.v a, .v b, .v c]) (.tuple #[a,b,c]) := ⟨[a,b,c],rfl,All2.cons (R := C1 X) (show C1 X (.v a) a from rfl) (All2.cons (R := C1 X) (show C1 X (.v b) b from rfl) (All2.cons (R := C1 X) (show C1 X (.v c) c from rfl) All2.nil))⟩
theorem vtake_spec {n : Nat} {F : Nat → List AV} (l : List UInt8) (hF : IsB F l) (hn : n = l.length) : ASpec Try.prog 52 [.sl 1 n true F] (.tup [.v (.int .u64 ((vtake l).1 : Int)), .v (.int .i64 ((vtake l).2.1 : Int)), .v (.int .i64 (vtake l).2.2)]) [] :=
 spec_bytes ⟨_,_,Try.func52,rfl,rfl⟩ (fun A n c w h h1 h2 => (vtake_any A n c l w h h1 h2).mono fun e w' ⟨h3,h4⟩ => ⟨_,h3,by rw [h4]; exact Below.refl _ _,fun X => C2.tup3 X _ _ _⟩) hF hn
def eT (x : Int) : AO := .box 26 [.v (.int .i64 x)]
def iT (u : Nat) : AO := .box 3 [.v (.int .i64 (u : Int))]
def bT (bs : List UInt8) : AO := .box 45 [.sl 1 bs.length true (bytesF bs)]
set_option maxRecDepth 100000 in
theorem octet_m0 (bs : List UInt8) (u : Nat) (x lo hi : Int) (hl : bs.length ≤ 1000000000) :
  MSpec Try.prog 94 [(0,eT x),(1,iT u),(2,bT bs)] [.v (.int .i64 lo), .v (.int .i64 hi), .box 0 0, .box 1 0, .box 2 0]
   (.v (.int .i64 (octS bs lo hi (u,x)).1)) [(0,eT (octS bs lo hi (u,x)).2.2),(1,iT (octS bs lo hi (u,x)).2.1),(2,bT bs)] := by
 unfold eT iT bT
 refine mspec_of lay_ok 1074069919 10 Try.func94 rfl rfl rfl ?_
 repeat' ((conv => whnf); first | refine K1.a ?_ | refine K1.b ?_ | refine K1.c ?_ | refine K1.d ?_ | refine K1.e ?_ | refine K1.f ?_ | refine ACall.plain _ _ (within_spec _ _ _) (SubL.cons (.eq _) (SubL.cons (.eq _) (SubL.cons (.eq _) .nil))) rfl ?_ | refine Spl.mk (fun _ => ?_) (fun _ => ?_) | refine SNil.mk (fun _ => ?_) ?_ | refine K1.g ?_ | refine ASl.frz ?_ | refine Wr.b64 ?_ | refine Wr.bu64 ?_ | refine Wr.bu32 ?_ | refine Wr.bu8 ?_ | refine K1.u8 ?_ | refine K1.u64 ?_ | refine K1.u32 ?_ | refine K1.h ?_ | refine K1.i ?_ | refine K1.q ?_ | refine K1.j ?_ | refine K1.k ?_ | refine BSpl.dec (fun _ => ?_) (fun _ => ?_) | refine K1.l ?_ | refine K1.n ?_ | refine BSpl.mk (fun _ => ?_) (fun _ => ?_))
 all_goals (conv => whnf)
 all_goals (refine MRet.auto rfl rfl ⟨⟨_,rfl,OEq.box1 ?_⟩,⟨_,rfl,OEq.box1 ?_⟩,⟨_,rfl,OEq.refl _⟩,trivial⟩ rfl rfl (AEq.int ?_))
 all_goals (unfold octS; simp only [dfl8,Int.toNat_natCast] at *; grind)
set_option maxRecDepth 100000 in
theorem number_m0 (bs : List UInt8) (u : Nat) (x lo hi : Int) (hu : u ≤ bs.length) (hl : bs.length ≤ 1000000000) (h0 : 0 ≤ lo) (h1 : lo ≤ hi) (h2 : hi ≤ 16777216) :
  MSpec Try.prog 96 [(0,eT x),(1,iT u),(2,bT bs)] [.v (.int .i64 lo), .v (.int .i64 hi), .box 0 0, .box 2 0, .box 1 0]
   (.v (.int .i64 (numS bs lo hi (u,x)).1)) [(0,eT (numS bs lo hi (u,x)).2.2),(1,iT (numS bs lo hi (u,x)).2.1),(2,bT bs)] := by
 unfold eT iT bT
 have hv := vtake_le (bs.drop u)
 rw [List.length_drop] at hv
 refine mspec_of lay_ok 85899351967 10 Try.func96 rfl rfl rfl ?_
 repeat' ((conv => whnf); first | refine K1.a ?_ | refine K1.b ?_ | refine K1.c ?_ | refine K1.d ?_ | refine K1.e ?_ | refine K1.f ?_ | refine ACall.plain _ _ (vtake_spec (bs.drop u) ((IsB.bytes bs).drop _) (by simp)) (SubL.cons (.eq _) .nil) rfl ?_ | refine Spl.mk (fun _ => ?_) (fun _ => ?_) | refine SNil.mk (fun _ => ?_) ?_ | refine K1.g ?_ | refine ASl.frz ?_ | refine Wr.b64 ?_ | refine Wr.bu64 ?_ | refine Wr.bu32 ?_ | refine Wr.bu8 ?_ | refine K1.u8 ?_ | refine K1.u64 ?_ | refine K1.u32 ?_ | refine K1.h ?_ | refine K1.i ?_ | refine K1.q ?_ | refine K1.j ?_ | refine K1.k ?_ | refine BSpl.dec (fun _ => ?_) (fun _ => ?_) | refine K1.l ?_ | refine K1.n ?_ | refine BSpl.mk (fun _ => ?_) (fun _ => ?_))
 all_goals (conv => whnf)
 all_goals (refine MRet.auto rfl rfl ⟨⟨_,rfl,OEq.box1 ?_⟩,⟨_,rfl,OEq.box1 ?_⟩,⟨_,rfl,OEq.refl _⟩,trivial⟩ rfl rfl (AEq.int ?_))
 all_goals (unfold numS; grind)
set_option maxRecDepth 100000 in
theorem wordsK_m0 (bs : List UInt8) (u : Nat) (x sz : Int) (hu : u ≤ bs.length) (hl : bs.length ≤ 1000000000) (h0 : 0 ≤ sz) (h2 : sz ≤ 16777216) :
  MSpec Try.prog 97 [(0,eT x),(1,iT u),(2,bT bs)] [.v (.int .i64 sz), .fn 102 [], .box 0 0, .box 2 0, .box 1 0]
   (.v (.string (wordS bs sz keyE (u,x)).1)) [(0,eT (wordS bs sz keyE (u,x)).2.2),(1,iT (wordS bs sz keyE (u,x)).2.1),(2,bT bs)] := by
 unfold eT iT bT
 obtain ⟨z,rfl⟩ := Int.eq_ofNat_of_zero_le h0
 refine mspec_of lay_ok 17181180319 10 Try.func97 rfl rfl rfl ?_
 repeat' ((conv => whnf); first | refine K1.a ?_ | refine K1.b ?_ | refine K1.c ?_ | refine K1.d ?_ | refine K1.e ?_ | refine K1.f ?_ | refine ACall.plain _ _ (key_spec _) (SubL.cons (.eq _) .nil) rfl ?_ | refine Bs.of ((bs.drop u).take z) (((IsB.bytes bs).drop _).take _) (by simp; omega) ?_ | refine Spl.mk (fun _ => ?_) (fun _ => ?_) | refine SNil.mk (fun _ => ?_) ?_ | refine K1.g ?_ | refine ASl.frz ?_ | refine Wr.b64 ?_ | refine Wr.bu64 ?_ | refine Wr.bu32 ?_ | refine Wr.bu8 ?_ | refine K1.u8 ?_ | refine K1.u64 ?_ | refine K1.u32 ?_ | refine K1.h ?_ | refine K1.i ?_ | refine K1.q ?_ | refine K1.j ?_ | refine K1.k ?_ | refine BSpl.dec (fun _ => ?_) (fun _ => ?_) | refine K1.l ?_ | refine K1.n ?_ | refine BSpl.mk (fun _ => ?_) (fun _ => ?_))
 all_goals (conv => whnf)
 all_goals (refine MRet.auto rfl rfl ⟨⟨_,rfl,OEq.box1 ?_⟩,⟨_,rfl,OEq.box1 ?_⟩,⟨_,rfl,OEq.refl _⟩,trivial⟩ rfl rfl (AEq.str ?_))
 all_goals (unfold wordS; first | (simp only [cutB,Int.toNat_natCast] at *; grind) | grind)
set_option maxRecDepth 100000 in
theorem wordsV_m0 (bs : List UInt8) (u : Nat) (x sz : Int) (hu : u ≤ bs.length) (hl : bs.length ≤ 1000000000) (h0 : 0 ≤ sz) (h2 : sz ≤ 16777216) :
  MSpec Try.prog 97 [(0,eT x),(1,iT u),(2,bT bs)] [.v (.int .i64 sz), .fn 103 [], .box 0 0, .box 2 0, .box 1 0]
   (.v (.string (wordS bs sz valueE (u,x)).1)) [(0,eT (wordS bs sz valueE (u,x)).2.2),(1,iT (wordS bs sz valueE (u,x)).2.1),(2,bT bs)] := by
 unfold eT iT bT
 obtain ⟨z,rfl⟩ := Int.eq_ofNat_of_zero_le h0
 refine mspec_of lay_ok 17181180319 10 Try.func97 rfl rfl rfl ?_
 repeat' ((conv => whnf); first | refine K1.a ?_ | refine K1.b ?_ | refine K1.c ?_ | refine K1.d ?_ | refine K1.e ?_ | refine K1.f ?_ | refine ACall.plain _ _ (value_spec _) (SubL.cons (.eq _) .nil) rfl ?_ | refine Bs.of ((bs.drop u).take z) (((IsB.bytes bs).drop _).take _) (by simp; omega) ?_ | refine Spl.mk (fun _ => ?_) (fun _ => ?_) | refine SNil.mk (fun _ => ?_) ?_ | refine K1.g ?_ | refine ASl.frz ?_ | refine Wr.b64 ?_ | refine Wr.bu64 ?_ | refine Wr.bu32 ?_ | refine Wr.bu8 ?_ | refine K1.u8 ?_ | refine K1.u64 ?_ | refine K1.u32 ?_ | refine K1.h ?_ | refine K1.i ?_ | refine K1.q ?_ | refine K1.j ?_ | refine K1.k ?_ | refine BSpl.dec (fun _ => ?_) (fun _ => ?_) | refine K1.l ?_ | refine K1.n ?_ | refine BSpl.mk (fun _ => ?_) (fun _ => ?_))
 all_goals (conv => whnf)
 all_goals (refine MRet.auto rfl rfl ⟨⟨_,rfl,OEq.box1 ?_⟩,⟨_,rfl,OEq.box1 ?_⟩,⟨_,rfl,OEq.refl _⟩,trivial⟩ rfl rfl (AEq.str ?_))
 all_goals (unfold wordS; first | (simp only [cutB,Int.toNat_natCast] at *; grind) | grind)
theorem numS_le {bs : List UInt8} {lo hi : Int} {s : St} (h : s.1 ≤ bs.length) : (numS bs lo hi s).2.1 ≤ bs.length := by
 have hv := vtake_le (bs.drop s.1)
 rw [List.length_drop] at hv
 unfold numS
 grind
theorem wordS_le {bs : List UInt8} {sz : Int} {may : ByteArray → Int} {s : St} (h : s.1 ≤ bs.length) : (wordS bs sz may s).2.1 ≤ bs.length := by unfold wordS; grind
theorem octS_b {bs : List UInt8} {lo hi : Int} {s : St} : 0 ≤ (octS bs lo hi s).1 ∧ (octS bs lo hi s).1 ≤ 255 := by
 unfold octS
 have := UInt8.toNat_lt (bs.getD s.1 0)
 grind
theorem octet_e (bs : List UInt8) (s s' : St) (lo hi c : Int) (h : octS bs lo hi s = (c,s')) (hl : bs.length ≤ 1000000000) :
  MSpec Try.prog 94 [(0,eT s.2),(1,iT s.1),(2,bT bs)] [.v (.int .i64 lo), .v (.int .i64 hi), .box 0 0, .box 1 0, .box 2 0]
   (.v (.int .i64 c)) [(0,eT s'.2),(1,iT s'.1),(2,bT bs)] := by
 have := octet_m0 bs s.1 s.2 lo hi hl
 rw [show (s.1,s.2) = s from rfl,h] at this
 exact this
theorem number_e (bs : List UInt8) (s s' : St) (lo hi c : Int) (h : numS bs lo hi s = (c,s')) (hu : s.1 ≤ bs.length) (hl : bs.length ≤ 1000000000) (h0 : 0 ≤ lo) (h1 : lo ≤ hi) (h2 : hi ≤ 16777216) :
  MSpec Try.prog 96 [(0,eT s.2),(1,iT s.1),(2,bT bs)] [.v (.int .i64 lo), .v (.int .i64 hi), .box 0 0, .box 2 0, .box 1 0]
   (.v (.int .i64 c)) [(0,eT s'.2),(1,iT s'.1),(2,bT bs)] := by
 have := number_m0 bs s.1 s.2 lo hi hu hl h0 h1 h2
 rw [show (s.1,s.2) = s from rfl,h] at this
 exact this
theorem wordsK_e (bs : List UInt8) (s s' : St) (sz : Int) (c : ByteArray) (h : wordS bs sz keyE s = (c,s')) (hu : s.1 ≤ bs.length) (hl : bs.length ≤ 1000000000) (h0 : 0 ≤ sz ∧ sz ≤ 255) :
  MSpec Try.prog 97 [(0,eT s.2),(1,iT s.1),(2,bT bs)] [.v (.int .i64 sz), .fn 102 [], .box 0 0, .box 2 0, .box 1 0]
   (.v (.string c)) [(0,eT s'.2),(1,iT s'.1),(2,bT bs)] := by
 have := wordsK_m0 bs s.1 s.2 sz hu hl h0.1 (by omega)
 rw [show (s.1,s.2) = s from rfl,h] at this
 exact this
theorem wordsV_e (bs : List UInt8) (s s' : St) (sz : Int) (c : ByteArray) (h : wordS bs sz valueE s = (c,s')) (hu : s.1 ≤ bs.length) (hl : bs.length ≤ 1000000000) (h0 : 0 ≤ sz ∧ sz ≤ 255) :
  MSpec Try.prog 97 [(0,eT s.2),(1,iT s.1),(2,bT bs)] [.v (.int .i64 sz), .fn 103 [], .box 0 0, .box 2 0, .box 1 0]
   (.v (.string c)) [(0,eT s'.2),(1,iT s'.1),(2,bT bs)] := by
 have := wordsV_m0 bs s.1 s.2 sz hu hl h0.1 (by omega)
 rw [show (s.1,s.2) = s from rfl,h] at this
 exact this
end Go.Proofs.Ytmldeejaghflnaa

/-
 What package crc computes: a register's step,the sum,its four bytes.
-/
namespace Go.Proofs.Ytmldeejaghflnaa
open Go.RowKit
def stepBit (r : Nat) : Nat := if r % 2 = 1 then (r / 2) ^^^ 3988292384 else r / 2
def stepK (r : Nat) : Nat → Nat
  | 0 => r
  | j + 1 => stepBit (stepK r j)
def crcStep (r : Nat) (c : UInt8) : Nat := stepK (r ^^^ c.toNat) 8
def crcReg (l : List UInt8) : Nat := l.foldl crcStep 4294967295
def crcSum (l : List UInt8) : Nat := 4294967295 ^^^ crcReg l
def crcTail (l : List UInt8) : List UInt8 := [UInt8.ofNat (crcSum l),UInt8.ofNat (crcSum l / 256),UInt8.ofNat (crcSum l / 65536),UInt8.ofNat (crcSum l / 16777216)]
def sealB (l : List UInt8) : List UInt8 := l ++ crcTail l
theorem stepBit_lt {r : Nat} (h : r < 4294967296) : stepBit r < 4294967296 := by
 unfold stepBit
 split
 · exact Nat.xor_lt_two_pow (n := 32) (by omega) (by omega)
 · omega
theorem stepK_lt {r : Nat} (h : r < 4294967296) : ∀ j,stepK r j < 4294967296
  | 0 => h
  | j + 1 => stepBit_lt (stepK_lt h j)
theorem crcStep_lt {r : Nat} (h : r < 4294967296) (c : UInt8) : crcStep r c < 4294967296 := by
 have := UInt8.toNat_lt c
 exact stepK_lt (Nat.xor_lt_two_pow (n := 32) (by omega) (by omega)) 8
theorem foldl_lt : ∀ (l : List UInt8) (r : Nat),r < 4294967296 → l.foldl crcStep r < 4294967296
  | [],_,h => h
  | c :: l,_,h => foldl_lt l _ (crcStep_lt h c)
theorem crcReg_lt (l : List UInt8) : crcReg l < 4294967296 := foldl_lt l _ (by omega)
theorem crcSum_lt (l : List UInt8) : crcSum l < 4294967296 := Nat.xor_lt_two_pow (n := 32) (by omega) (crcReg_lt l)
theorem sealB_len (l : List UInt8) : (sealB l).length = l.length + 4 := by simp [sealB,crcTail]
theorem xor32 {a b : Nat} (ha : a < 4294967296) (hb : b < 4294967296) : IntKind.u32.wrap ((BitVec.ofInt IntKind.u32.bits (a : Int) ^^^ BitVec.ofInt IntKind.u32.bits (b : Int)).toNat : Int) = ((a ^^^ b : Nat) : Int) :=
 u32_xor_nat a b ha hb
theorem and1 {a : Nat} (ha : a < 4294967296) : IntKind.u32.wrap ((BitVec.ofInt IntKind.u32.bits (a : Int) &&& BitVec.ofInt IntKind.u32.bits (1 : Int)).toNat : Int) = ((a % 2 : Nat) : Int) := by
 have h : IntKind.u32.wrap ((BitVec.ofInt IntKind.u32.bits (a : Int) &&& BitVec.ofInt IntKind.u32.bits ((1 : Nat) : Int)).toNat : Int) = ((a &&& 1 : Nat) : Int) := u32_and_nat a 1 ha (by omega)
 rw [Nat.and_one_is_mod] at h
 exact h
theorem Spl.and1 {a : Nat} (ha : a < 4294967296) {A B : Prop} (h1 : a % 2 = 1 → A) (h2 : ¬ a % 2 = 1 → B) : Spl (IntKind.u32.wrap ((BitVec.ofInt IntKind.u32.bits (a : Int) &&& BitVec.ofInt IntKind.u32.bits (1 : Int)).toNat : Int) = 1) A B := by
 have e := _root_.Go.Proofs.Ytmldeejaghflnaa.and1 ha
 rw [e]
 refine ⟨fun h => h1 (by omega),fun h => h2 (by omega)⟩
theorem shr1 (a : Nat) : (a : Int).fdiv (2 ^ min (Int.toNat 1) IntKind.u32.bits) = ((a / 2 : Nat) : Int) := by
 show (a : Int).fdiv (2 : Int) = _
 rw [Int.fdiv_eq_ediv_of_nonneg _ (by omega)]
 omega
set_option maxHeartbeats 2000000 in
set_option maxRecDepth 100000 in
theorem step_spec (r : Nat) (hr : r < 4294967296) (c : UInt8) : ASpec Try.prog 93 [.v (.int .u32 (r : Int)), .v (.int .u8 (c.toNat : Int))] (.v (.int .u32 (crcStep r c : Int))) [] := by
 have hc := UInt8.toNat_lt c
 have h0 : r ^^^ c.toNat < 4294967296 := Nat.xor_lt_two_pow (n := 32) (by omega) (by omega)
 refine aspec_of lay_ok 9747 Try.func93 rfl rfl rfl ?_
 repeat' ((conv => whnf); first | refine K1.a ?_ | refine K1.b ?_ | refine K1.c ?_ | refine K1.d ?_ | refine K1.e ?_ | refine K1.f ?_ | refine Spl.mk (fun _ => ?_) (fun _ => ?_) | refine SNil.mk (fun _ => ?_) ?_ | refine K1.g ?_ | refine ASl.frz ?_ | refine Wr.b64 ?_ | refine Wr.bu64 ?_ | refine Wr.bu32 ?_ | refine Wr.bu8 ?_ | refine K1.u8 ?_ | refine K1.u64 ?_ | refine K1.u32 ?_ | refine K1.h ?_ | refine K1.i ?_ | refine K1.q ?_ | refine K1.j ?_ | refine K1.k ?_ | refine BSpl.dec (fun _ => ?_) (fun _ => ?_) | refine K1.l ?_ | refine K1.n ?_ | refine BSpl.mk (fun _ => ?_) (fun _ => ?_))
 conv => whnf
 refine ALoop.mk { j : Nat // j ≤ 8 } (fun j => ⟨[(0, .v (.int .u32 (stepK (r ^^^ c.toNat) j.1 : Int))),(9, .v (.int .i64 (j.1 : Int)))],[],[],0⟩) (fun j => 8 - j.1) ⟨0,Nat.zero_le _⟩ _
  (LeR.mk' [] _ _ _ rfl ⟨AEq.int (xor32 hr (by omega)),AEq.int rfl,trivial⟩ trivial rfl) ?_
 rintro ⟨j,hj⟩
 dsimp only
 have hj2 := stepK_lt h0 j
 repeat' ((conv => whnf); first | refine K1.a ?_ | refine K1.b ?_ | refine K1.c ?_ | refine K1.d ?_ | refine K1.e ?_ | refine K1.f ?_ | refine Spl.and1 hj2 (fun _ => ?_) (fun _ => ?_) | refine ARet.hdI ?_ | refine Spl.mk (fun _ => ?_) (fun _ => ?_) | refine SNil.mk (fun _ => ?_) ?_ | refine K1.g ?_ | refine ASl.frz ?_ | refine Wr.b64 ?_ | refine Wr.bu64 ?_ | refine Wr.bu32 ?_ | refine Wr.bu8 ?_ | refine K1.u8 ?_ | refine K1.u64 ?_ | refine K1.u32 ?_ | refine K1.h ?_ | refine K1.i ?_ | refine K1.q ?_ | refine K1.j ?_ | refine K1.k ?_ | refine BSpl.dec (fun _ => ?_) (fun _ => ?_) | refine K1.l ?_ | refine K1.n ?_ | refine BSpl.mk (fun _ => ?_) (fun _ => ?_))
 · rename_i h1
   refine ⟨⟨j + 1,by omega⟩,_,LeR.mk' [] _ _ _ rfl ⟨AEq.int ?_,AEq.int rfl,trivial⟩ trivial rfl,by show 8 - (j + 1) < 8 - j; omega⟩
   show _ = ((stepBit (stepK (r ^^^ c.toNat) j) : Nat) : Int)
   unfold stepBit
   rw [if_pos h1,← xor32 (by omega) (by omega),← shr1]
   rfl
 · rename_i h1
   refine ⟨⟨j + 1,by omega⟩,_,LeR.mk' [] _ _ _ rfl ⟨AEq.int ?_,AEq.int rfl,trivial⟩ trivial rfl,by show 8 - (j + 1) < 8 - j; omega⟩
   show _ = ((stepBit (stepK (r ^^^ c.toNat) j) : Nat) : Int)
   unfold stepBit
   rw [if_neg h1]
   exact shr1 _
 · conv => whnf
   have : j = 8 := by omega
   subst this
   exact AEqI.mk (AEq.refl _)
theorem crcReg_take {l : List UInt8} {j : Nat} (h : j < l.length) : crcReg (l.take (j + 1)) = crcStep (crcReg (l.take j)) (l.getD j 0) := by
 rw [List.take_add_one,List.getElem?_eq_getElem h,List.getD,List.getElem?_eq_getElem h,crcReg,List.foldl_append]
 rfl
theorem Wr.bsh8 {s : Nat} {m : Int} {K : Int → Prop} (h : K (IntKind.u8.wrap ((s : Int).fdiv m))) : Wr ((s : Int).fdiv m) K .u8 := .raw .u8 h
set_option maxHeartbeats 2000000 in
set_option maxRecDepth 100000 in
theorem sum_spec {n : Nat} {F : Nat → List AV} (l : List UInt8) (hF : IsB F l) (hn : n = l.length) (hl : l.length ≤ 140737488355328) : ASpec Try.prog 77 [.sl 1 n true F] (.v (.int .u32 (crcSum l : Int))) [] := by
 refine ASpec.args (bvs := [.sl 1 l.length true (bytesF l)]) ?_ (.of (fun X u hu => AEq.isB (sc := true) hF hn X u hu) .nil)
 have hreg (j : Nat) : crcReg (l.take j) < 4294967296 := crcReg_lt _
 have hs (j : Nat) (c : UInt8) := step_spec (crcReg (l.take j)) (hreg j) c
 refine aspec_of lay_ok 1005 Try.func77 rfl rfl rfl ?_
 repeat' ((conv => whnf); first | refine K1.a ?_ | refine K1.b ?_ | refine K1.c ?_ | refine K1.d ?_ | refine K1.e ?_ | refine K1.f ?_ | refine Spl.mk (fun _ => ?_) (fun _ => ?_) | refine SNil.mk (fun _ => ?_) ?_ | refine K1.g ?_ | refine ASl.frz ?_ | refine Wr.b64 ?_ | refine Wr.bu64 ?_ | refine Wr.bu32 ?_ | refine Wr.bu8 ?_ | refine K1.u8 ?_ | refine K1.u64 ?_ | refine K1.u32 ?_ | refine K1.h ?_ | refine K1.i ?_ | refine K1.q ?_ | refine K1.j ?_ | refine K1.k ?_ | refine BSpl.dec (fun _ => ?_) (fun _ => ?_) | refine K1.l ?_ | refine K1.n ?_ | refine BSpl.mk (fun _ => ?_) (fun _ => ?_))
 conv => whnf
 refine ALoop.mk { j : Nat // j ≤ l.length } (fun j => ⟨[(3, .v (.int .u32 (crcReg (l.take j.1) : Int))),(6, .sl 1 l.length true (bytesF l)),(7, .v (.int .i64 (l.length : Int))),(8, .v (.int .i64 (j.1 : Int)))],[],[],0⟩) (fun j => l.length - j.1) ⟨0,Nat.zero_le _⟩ _
  (LeR.mk' [] _ _ _ rfl ⟨AEq.int rfl,AEq.refl _,AEq.refl _,AEq.int rfl,trivial⟩ trivial rfl) ?_
 rintro ⟨j,hj⟩
 dsimp only
 repeat' ((conv => whnf); first | refine K1.a ?_ | refine K1.b ?_ | refine K1.c ?_ | refine K1.d ?_ | refine K1.e ?_ | refine K1.f ?_ | refine ACall.plain _ _ (hs j _) (SubL.cons (.eq _) (SubL.cons (.eq _) .nil)) rfl ?_ | refine ARet.hdI ?_ | refine Spl.mk (fun _ => ?_) (fun _ => ?_) | refine SNil.mk (fun _ => ?_) ?_ | refine K1.g ?_ | refine ASl.frz ?_ | refine Wr.b64 ?_ | refine Wr.bu64 ?_ | refine Wr.bu32 ?_ | refine Wr.bu8 ?_ | refine K1.u8 ?_ | refine K1.u64 ?_ | refine K1.u32 ?_ | refine K1.h ?_ | refine K1.i ?_ | refine K1.q ?_ | refine K1.j ?_ | refine K1.k ?_ | refine BSpl.dec (fun _ => ?_) (fun _ => ?_) | refine K1.l ?_ | refine K1.n ?_ | refine BSpl.mk (fun _ => ?_) (fun _ => ?_))
 · refine ⟨⟨j + 1,by omega⟩,_,LeR.mk' [] _ _ _ rfl ⟨AEq.int ?_,AEq.refl _,AEq.refl _,AEq.int rfl,trivial⟩ trivial rfl,by show l.length - (j + 1) < l.length - j; omega⟩
   show _ = ((crcReg (l.take (j + 1)) : Nat) : Int)
   rw [crcReg_take (by omega)]
   rfl
 · conv => whnf
   refine AEqI.mk (AEq.int ?_)
   show IntKind.u32.wrap ((BitVec.ofInt IntKind.u32.bits ((4294967295 : Nat) : Int) ^^^ BitVec.ofInt IntKind.u32.bits (crcReg (l.take j) : Int)).toNat : Int) = _
   rw [xor32 (by omega) (hreg j),List.take_of_length_le (by omega)]
   rfl
def u8C (n : Nat) : AV := .v (.int .u8 ((UInt8.ofNat n).toNat : Int))
def tailCs (s : Nat) : List AV := [u8C s,u8C (s / 256),u8C (s / 65536),u8C (s / 16777216)]
theorem u8C_eq (n : Nat) (m : Nat) : IntKind.u8.wrap ((n : Int).fdiv ((m : Nat) : Int)) = ((UInt8.ofNat (n / m)).toNat : Int) := by
 rw [IntKind.wrap_u8,Int.fdiv_eq_ediv_of_nonneg _ (Int.natCast_nonneg m),UInt8.toNat_ofNat']
 simp
theorem u8V (n : Nat) (m : Nat) : AV.v (.int .u8 (IntKind.u8.wrap ((n : Int).fdiv ((m : Nat) : Int)))) = u8C (n / m) := by rw [u8C_eq]; rfl
set_option maxHeartbeats 2000000 in
set_option maxRecDepth 100000 in
theorem tail_spec {n : Nat} {F : Nat → List AV} (l : List UInt8) (hF : IsB F l) (hn : n = l.length) (hl : l.length ≤ 140737488355328) : ASpec Try.prog 51 [.sl 1 n true F] (.agg (tailCs (crcSum l))) [] := by
 have hs := crcSum_lt l
 have hss := sum_spec l hF hn hl
 generalize crcSum l = s at hs hss
 refine aspec_of lay_ok 829 Try.func51 rfl rfl rfl ?_
 repeat' ((conv => whnf); first | refine K1.a ?_ | refine K1.b ?_ | refine K1.c ?_ | refine K1.d ?_ | refine K1.e ?_ | refine K1.f ?_ | refine ACall.plain _ _ (hss) (SubL.cons (.eq _) .nil) rfl ?_ | refine ALoop.rounds 5 ?_ | refine ARet.hdI ?_ | refine Wr.bsh8 ?_ | refine Spl.mk (fun _ => ?_) (fun _ => ?_) | refine SNil.mk (fun _ => ?_) ?_ | refine K1.g ?_ | refine ASl.frz ?_ | refine Wr.b64 ?_ | refine Wr.bu64 ?_ | refine Wr.bu32 ?_ | refine Wr.bu8 ?_ | refine K1.u8 ?_ | refine K1.u64 ?_ | refine K1.u32 ?_ | refine K1.h ?_ | refine K1.i ?_ | refine K1.q ?_ | refine K1.j ?_ | refine K1.k ?_ | refine BSpl.dec (fun _ => ?_) (fun _ => ?_) | refine K1.l ?_ | refine K1.n ?_ | refine BSpl.mk (fun _ => ?_) (fun _ => ?_))
 conv => whnf
 refine AEqI.mk (AEq.of (congrArg AV.agg ?_))
 unfold tailCs
 rw [← u8V s 256,← u8V s 65536,← u8V s 16777216,show u8C s = AV.v (.int .u8 (IntKind.u8.wrap ((s : Int).fdiv ((1 : Nat) : Int)))) by rw [u8V,Nat.div_one]]
 rfl
theorem arr4_eq (a0 a1 a2 a3 b0 b1 b2 b3 : Int) : EqFact Try.prog 103 [.int .u8 a0, .int .u8 a1, .int .u8 a2, .int .u8 a3] [.int .u8 b0, .int .u8 b1, .int .u8 b2, .int .u8 b3] (a0 = b0 ∧ a1 = b1 ∧ a2 = b2 ∧ a3 = b3) := by
 refine ⟨by kernel_rfl,fun w => ⟨decide (a0 = b0 ∧ a1 = b1 ∧ a2 = b2 ∧ a3 = b3),by rw [decide_eq_true_eq],?_⟩⟩
 show (Op.equalIn 10000 103 (.agg #[.int .u8 a0, .int .u8 a1, .int .u8 a2, .int .u8 a3]) (.agg #[.int .u8 b0, .int .u8 b1, .int .u8 b2, .int .u8 b3])).run Try.prog w = _
 rw [show (10000 : Nat) = 9999 + 1 from rfl,Op.equalIn]
 simp only [Sem.run_bind,run_underlying Try.underlying103,Result.andThen_ok]
 simp only [Std.Legacy.Range.forIn_eq_forIn_range',Std.Legacy.Range.size,Nat.sub_zero,Nat.add_sub_cancel,Nat.div_one,List.range'_succ,List.range'_zero,List.forIn_cons,List.forIn_nil]
 have u3 := Try.underlying5
 have a3' := Try.isAgg5
 have z3 := Try.sizeOf5
 go_simp
 repeat' split
 all_goals simp_all
theorem tail_isB (l : List UInt8) : IsB (chunk 1 (tailCs (crcSum l))) (crcTail l) := by
 intro i hi
 have : i = 0 ∨ i = 1 ∨ i = 2 ∨ i = 3 := by simp [crcTail] at hi; omega
 rcases this with rfl | rfl | rfl | rfl <;> rfl
set_option maxHeartbeats 2000000 in
set_option maxRecDepth 100000 in
theorem seal_spec (d : Nat) {n : Nat} {F : Nat → List AV} (l : List UInt8) (hF : IsB F l) (hn : n = l.length) (hl : l.length ≤ 1000000000) :
  ASpec Try.prog 59 [.sl 1 n true F] (.own d) [(d, .row 5 1 (sealB l).length true (bytesF (sealB l)))] := by
 refine ASpec.args (bvs := [.sl 1 l.length true (bytesF l)]) ?_ (.of (fun X u hu => AEq.isB (sc := true) hF hn X u hu) .nil)
 have ht := tail_spec l (IsB.bytes l) rfl (by omega)
 refine aspec_of lay_ok 29 Try.func59 rfl rfl rfl ?_
 repeat' ((conv => whnf); first | refine K1.a ?_ | refine K1.b ?_ | refine K1.c ?_ | refine K1.d ?_ | refine K1.e ?_ | refine K1.f ?_ | refine ACall.plain _ _ (ht) (SubL.cons (.eq _) .nil) rfl ?_ | refine AMk.none rfl (by omega) (by dsimp only; omega) (by omega) ?_ | refine Spl.mk (fun _ => ?_) (fun _ => ?_) | refine SNil.mk (fun _ => ?_) ?_ | refine K1.g ?_ | refine ASl.frz ?_ | refine Wr.b64 ?_ | refine Wr.bu64 ?_ | refine Wr.bu32 ?_ | refine Wr.bu8 ?_ | refine K1.u8 ?_ | refine K1.u64 ?_ | refine K1.u32 ?_ | refine K1.h ?_ | refine K1.i ?_ | refine K1.q ?_ | refine K1.j ?_ | refine K1.k ?_ | refine BSpl.dec (fun _ => ?_) (fun _ => ?_) | refine K1.l ?_ | refine K1.n ?_ | refine BSpl.mk (fun _ => ?_) (fun _ => ?_))
 conv => whnf
 refine ARet.ownX d rfl rfl ?_ (AEq.refl _)
 apply OEq.isB (l := [] ++ l ++ crcTail l)
 · exact IsB.app (IsB.app (IsB.nil _) (IsB.bytes _) rfl) (tail_isB l) (by simp)
 · simp [crcTail]
 · rfl
theorem seal_get (m : List UInt8) (k : Nat) (hk : k = m.length) (i : Nat) : (((sealB m).getD (k + i) default).toNat : Int) = (((crcTail m).getD i default).toNat : Int) := by
 subst hk
 unfold sealB
 rw [List.getD,List.getElem?_append_right (by omega),Nat.add_sub_cancel_left,List.getD]
def okSeal (l : List UInt8) : Prop := 4 ≤ l.length ∧ l = sealB (l.take (l.length - 4))
set_option maxHeartbeats 2000000 in
set_option maxRecDepth 100000 in
theorem open_spec (d : Nat) {n : Nat} {F : Nat → List AV} (m : List UInt8) (hF : IsB F (sealB m)) (hn : n = (sealB m).length) (hl : m.length ≤ 1000000000) :
  ASpec Try.prog 29 [.sl 1 n true F] (.tup [.own d, .v (.bool true)]) [(d, .row 5 1 m.length true (bytesF m))] := by
 refine ASpec.args (bvs := [.sl 1 (sealB m).length true (bytesF (sealB m))]) ?_ (.of (fun X u hu => AEq.isB (sc := true) hF hn X u hu) .nil)
 have hlen := sealB_len m
 have htk : (sealB m).take m.length = m := by simp [sealB]
 have hFm : IsB (bytesF (sealB m)) m := fun i hi => by have := (IsB.bytes (sealB m)).take m.length i; rw [htk] at this; exact this hi
 refine aspec_of lay_ok 2097181 Try.func29 rfl rfl rfl ?_
 repeat' ((conv => whnf); first | refine K1.a ?_ | refine K1.b ?_ | refine K1.c ?_ | refine K1.d ?_ | refine K1.e ?_ | refine K1.f ?_ | refine ACall.plain _ _ (tail_spec m hFm (by omega) (by omega)) (SubL.cons (.eq _) .nil) rfl ?_ | refine EqA.mk [.int .u8 _, .int .u8 _, .int .u8 _, .int .u8 _] [.int .u8 _, .int .u8 _, .int .u8 _, .int .u8 _] _ rfl rfl (arr4_eq _ _ _ _ _ _ _ _) (Spl.yes ⟨seal_get m _ (by omega) 0,seal_get m _ (by omega) 1,seal_get m _ (by omega) 2,seal_get m _ (by omega) 3⟩ ?_) | refine Spl.mk (fun _ => ?_) (fun _ => ?_) | refine SNil.mk (fun _ => ?_) ?_ | refine K1.g ?_ | refine ASl.frz ?_ | refine Wr.b64 ?_ | refine Wr.bu64 ?_ | refine Wr.bu32 ?_ | refine Wr.bu8 ?_ | refine K1.u8 ?_ | refine K1.u64 ?_ | refine K1.u32 ?_ | refine K1.h ?_ | refine K1.i ?_ | refine K1.q ?_ | refine ADraw.sched (id := 2) lay_ok (awp_snd lay_ok _) [(0,none),(1,none),(2,none),(3,none),(4,none),(5,none),(6,none),(7,none),(8,none),(9,none),(10,none),(11,some [1]),(12,none),(13,none)] [(2,[1]),(3,[1]),(4,[1]),(5,[1]),(6,[1]),(7,[1]),(8,[1]),(9,[1]),(10,[1]),(11,[1]),(12,[1]),(13,[1])] follows_ok (by kernel_rfl) ?_ | refine K1.j ?_ | refine K1.k ?_ | refine BSpl.dec (fun _ => ?_) (fun _ => ?_) | refine K1.l ?_ | refine K1.n ?_ | refine BSpl.mk (fun _ => ?_) (fun _ => ?_))
 conv => whnf
 refine ARet.ownX d rfl rfl ?_ (AEq.refl _)
 apply OEq.isB (l := [] ++ m)
 · exact IsB.app (IsB.nil _) hFm rfl
 · simp
   omega
 · rfl
theorem u8_int {a b : UInt8} (h : (a.toNat : Int) = (b.toNat : Int)) : a = b := UInt8.toNat_inj.1 (by omega)
theorem drop4 {l : List UInt8} {k : Nat} (h : l.length = k + 4) : l.drop k = [l.getD (k + 0) default,l.getD (k + 1) default,l.getD (k + 2) default,l.getD (k + 3) default] := by
 apply List.ext_getElem
 · simp [h]
 · intro i h1 h2
   have hi : i < 4 := by simpa using h2
   rw [List.getElem_drop]
   rcases (show i = 0 ∨ i = 1 ∨ i = 2 ∨ i = 3 by omega) with rfl | rfl | rfl | rfl <;> simp [List.getD,h]
theorem seal_of {l : List UInt8} {k : Nat} (h : l.length = k + 4) (e : ((l.getD (k + 0) default).toNat : Int) = ((UInt8.ofNat (crcSum (l.take k))).toNat : Int) ∧ ((l.getD (k + 1) default).toNat : Int) = ((UInt8.ofNat (crcSum (l.take k) / 256)).toNat : Int) ∧
  ((l.getD (k + 2) default).toNat : Int) = ((UInt8.ofNat (crcSum (l.take k) / 65536)).toNat : Int) ∧ ((l.getD (k + 3) default).toNat : Int) = ((UInt8.ofNat (crcSum (l.take k) / 16777216)).toNat : Int)) : okSeal l := by
 obtain ⟨e0,e1,e2,e3⟩ := e
 refine ⟨by omega,?_⟩
 rw [show l.length - 4 = k by omega]
 unfold sealB crcTail
 conv => lhs; rw [← List.take_append_drop k l,drop4 h]
 rw [u8_int e0,u8_int e1,u8_int e2,u8_int e3]
set_option maxHeartbeats 2000000 in
set_option maxRecDepth 100000 in
theorem open_no {n : Nat} {F : Nat → List AV} (l : List UInt8) (h : ¬ okSeal l) (hF : IsB F l) (hn : n = l.length) (hl : l.length ≤ 1000000000) :
  ASpec Try.prog 29 [.sl 1 n true F] (.tup [.v (.slice none 0 0), .v (.bool false)]) [] := by
 refine ASpec.args (bvs := [.sl 1 l.length true (bytesF l)]) ?_ (.of (fun X u hu => AEq.isB (sc := true) hF hn X u hu) .nil)
 have hso (k : Nat) (hk : l.length = k + 4) := fun e => h (seal_of (k := k) hk e)
 refine aspec_of lay_ok 2097181 Try.func29 rfl rfl rfl ?_
 repeat' ((conv => whnf); first | refine K1.a ?_ | refine K1.b ?_ | refine K1.c ?_ | refine K1.d ?_ | refine K1.e ?_ | refine K1.f ?_ | refine ACall.plain _ _ (tail_spec (l.take (l.length - 4)) ((IsB.bytes l).take _) (by rw [List.length_take]; omega) (by rw [List.length_take]; omega)) (SubL.cons (.eq _) .nil) rfl ?_ | refine EqA.mk [.int .u8 _, .int .u8 _, .int .u8 _, .int .u8 _] [.int .u8 _, .int .u8 _, .int .u8 _, .int .u8 _] _ rfl rfl (arr4_eq _ _ _ _ _ _ _ _) (Spl.no (fun e => ?_) ?_) | refine ARet.hdI ?_ | refine Spl.mk (fun _ => ?_) (fun _ => ?_) | refine SNil.mk (fun _ => ?_) ?_ | refine K1.g ?_ | refine ASl.frz ?_ | refine Wr.b64 ?_ | refine Wr.bu64 ?_ | refine Wr.bu32 ?_ | refine Wr.bu8 ?_ | refine K1.u8 ?_ | refine K1.u64 ?_ | refine K1.u32 ?_ | refine K1.h ?_ | refine K1.i ?_ | refine K1.q ?_ | refine ADraw.sched (id := 2) lay_ok (awp_snd lay_ok _) [(0,none),(1,none),(2,none),(3,none),(4,none),(5,none),(6,none),(7,none),(8,none),(9,none),(10,none),(11,some [1]),(12,none),(13,none)] [(2,[1]),(3,[1]),(4,[1]),(5,[1]),(6,[1]),(7,[1]),(8,[1]),(9,[1]),(10,[1]),(11,[1]),(12,[1]),(13,[1])] follows_ok (by kernel_rfl) ?_ | refine K1.j ?_ | refine K1.k ?_ | refine BSpl.dec (fun _ => ?_) (fun _ => ?_) | refine K1.l ?_ | refine K1.n ?_ | refine BSpl.mk (fun _ => ?_) (fun _ => ?_))
 · conv => whnf
   exact AEqI.mk (AEq.refl _)
 · have hk : ((l.length : Int) - 4).toNat = l.length - 4 := by omega
   rw [hk] at e
   exact hso (l.length - 4) (by omega) e
 · conv => whnf
   exact AEqI.mk (AEq.refl _)
end Go.Proofs.Ytmldeejaghflnaa
