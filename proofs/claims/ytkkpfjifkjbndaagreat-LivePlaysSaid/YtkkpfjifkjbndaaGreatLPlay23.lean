/-
  Contracts of the walk: LvX, LvZg, BkR, BkJP, Br1, Br2.
-/
import Derived.Test.YtkkpfjifkjbndaaGreatLPlay22
import Derived.Test.YtkkpfjifkjbndaaGreatLPlay10
import Derived.Test.YtkkpfjifkjbndaaGreatLPlay11
/-
 live.State's Get,of a book told as a whole.
-/
namespace Go.Proofs.YtkkpfjifkjbndaaGreat
open Go.RowKit
theorem ASem.nilmap {P : Program} {st : AS} {K : AV → AS → Prop} {t kt et : TypeId} {x i : Operand} {k : ByteArray} (ht : P.underlying t = some (.map kt et)) (hkt : P.underlying kt = some .string) (hx : st.ev x = .v (.map none)) (hi : st.ev i = .v (.string k))
  (hz : ∀ w,(zeroValue et).run P w = .ok (.slice none 0 0) w) (hK : K (.v (.slice none 0 0)) st) : ASem P st (.lookup t x i false) K := by
 refine .q _ hK fun g N bs ρ a w o ho R => ⟨.slice none 0 0,rfl,?_⟩
 have h1 : a.eval x = .map none := by have := R.ev x; rw [hx] at this; exact this
 have h2 : a.eval i = .string k := by have := R.ev i; rw [hi] at this; exact this
 simp only [execOp,ho,h1,h2,Sem.run_bind,run_lookup_nil ht hkt (hz w),Result.andThen_ok,Sem.run_pure]
abbrev zeroC : List AV := [.v (.string ⟨#[]⟩), .v (.bool false), .v (.bool false), .v (.string ⟨#[]⟩), .v (.string ⟨#[]⟩), .v (.slice none 0 0), .v (.slice none 0 0)]
set_option maxHeartbeats 8000000 in
set_option maxRecDepth 100000 in
theorem get_yes (K : ByteArray → List Ev) (n : Int) (m : Nat) (key : ByteArray) (hks : key.size ≤ 9223372036854775807) (hK : (K key).length ≤ 1000000000) (c : Cont) (r : List Cont) (hO : ofB (K key) = c :: r) (hr : r.length ≤ 1000000000) :
  MSpec Tryz.prog 21 [(0, .obs (liveO K n m))] [.box 0 0, .v (.string key)] (.tup [.agg c.cs, .v (.int .i64 0)]) [(0, .obs (liveO K n (m + 1)))] := by
 refine MSpec.opn (ho := []) ⟨_,_,Tryz.func21,rfl,rfl⟩ (liveO_opens K n m key) (fun y => ?_) rfl
 cases y with
 | new h =>
  rw [h key,of_nil0] at hO
  exact absurd hO (List.cons_ne_nil c r).symm
 | old kv hn hk he hm hky =>
  refine ⟨_,liveO_closes K n (m + 1) 2 (by omega) key (K key) kv hn hk he rfl (by omega) hky hks,rfl,rfl,?_⟩
  have hof := of_m (K key) hK
  rw [hO] at hof
  dsimp only [liveGs,stB,evR,List.length_cons,List.append_nil] at hof ⊢
  generalize hidE kv = rv
  generalize K key = l at *
  refine mspec_of lay_ok 65651 10 Tryz.func21 rfl rfl rfl ?_
  repeat' ((conv => whnf); first | refine Spl.yes (by first | assumption | omega) ?_ | refine Spl.no (by first | assumption | omega) ?_ | refine Wr.i64 (by omega) (by omega) ?_ | refine Still.mk rfl rfl ?_ | refine InB.mk (inB_mk (by omega) (by omega)) ?_ | refine Req.mk (by omega) ?_ | refine Req.mk ⟨by first | omega | (dsimp only; omega),by first | omega | (dsimp only; omega)⟩ ?_ | refine ACall.chgR 1 [(0,_)] (hof) rfl ⟨rfl,trivial⟩ rfl rfl ?_ | refine ZN.mk zn_ev ?_ | refine MpAt.mk 0 2 _ rfl rfl ?_ | refine Spl.mk (fun _ => ?_) (fun _ => ?_) | refine InA.mk (inB_mk (by omega) (by omega)) ?_ | refine Wr.b64 ?_ | refine Wr.bu64 ?_ | refine Wr.bu32 ?_ | refine Wr.bu8 ?_ | refine Wr.u8 (by omega) (by omega) ?_ | refine Wr.u64 (by omega) (by omega) ?_ | refine Wr.u32 (by omega) (by omega) ?_ | refine Dv.pos (by omega) (by omega) ?_ | refine Rm.pos (by omega) (by omega) ?_ | refine ADraw.quiet follows_ok (by kernel_rfl) rfl ?_ | refine BSpl.decY (by first | assumption | omega) ?_ | refine BSpl.decN (by first | assumption | omega) ?_ | refine BSpl.dec (fun _ => ?_) (fun _ => ?_) | refine BSpl.yes (by assumption) ?_ | refine BSpl.no (by assumption) ?_ | refine BSpl.mk (fun _ => ?_) (fun _ => ?_))
  all_goals (conv => whnf)
  exact ⟨[],rfl,rfl,⟨⟨_,rfl,OEq.refl _⟩,⟨_,rfl,OEq.refl _⟩,⟨_,rfl,OEq.refl _⟩,trivial⟩,rfl,rfl,AEq.refl _⟩
theorem get_no (K : ByteArray → List Ev) (n : Int) (m : Nat) (key : ByteArray) (hks : key.size ≤ 9223372036854775807) (hK : (K key).length ≤ 1000000000) (hO : ofB (K key) = []) :
  MSpec Tryz.prog 21 [(0, .obs (liveO K n m))] [.box 0 0, .v (.string key)] (.tup [.agg zeroC, .v (.int .i64 14)]) [(0, .obs (liveO K n (m + 1)))] := by
 refine MSpec.opn (ho := []) ⟨_,_,Tryz.func21,rfl,rfl⟩ (liveO_opens K n m key) (fun y => ?_) rfl
 cases y with
 | new h =>
  refine ⟨_,liveO_new K n (m + 1) h,rfl,rfl,?_⟩
  have hof := (of_spec [] (by simp)).args (.of (fun X u h => C1.nilS (by decide) h) .nil)
  rw [of_nil0] at hof
  dsimp only [liveGs,stB,evR,List.append_nil,List.length_nil] at hof ⊢
  refine mspec_of lay_ok 65651 10 Tryz.func21 rfl rfl rfl ?_
  repeat' ((conv => whnf); first | refine Spl.yes (by first | assumption | omega) ?_ | refine Spl.no (by first | assumption | omega) ?_ | refine Wr.i64 (by omega) (by omega) ?_ | refine Still.mk rfl rfl ?_ | refine InB.mk (inB_mk (by omega) (by omega)) ?_ | refine Req.mk (by omega) ?_ | refine Req.mk ⟨by first | omega | (dsimp only; omega),by first | omega | (dsimp only; omega)⟩ ?_ | refine ACall.plain _ _ (hof) (SubL.cons (.eq _) .nil) rfl ?_ | refine ASem.nilmap Tryz.underlying81 Tryz.underlying9 rfl rfl zn_ev ?_ | refine Spl.mk (fun _ => ?_) (fun _ => ?_) | refine InA.mk (inB_mk (by omega) (by omega)) ?_ | refine Wr.b64 ?_ | refine Wr.bu64 ?_ | refine Wr.bu32 ?_ | refine Wr.bu8 ?_ | refine Wr.u8 (by omega) (by omega) ?_ | refine Wr.u64 (by omega) (by omega) ?_ | refine Wr.u32 (by omega) (by omega) ?_ | refine Dv.pos (by omega) (by omega) ?_ | refine Rm.pos (by omega) (by omega) ?_ | refine ADraw.quiet follows_ok (by kernel_rfl) rfl ?_ | refine BSpl.decY (by first | assumption | omega) ?_ | refine BSpl.decN (by first | assumption | omega) ?_ | refine BSpl.dec (fun _ => ?_) (fun _ => ?_) | refine BSpl.yes (by assumption) ?_ | refine BSpl.no (by assumption) ?_ | refine BSpl.mk (fun _ => ?_) (fun _ => ?_))
  all_goals (conv => whnf)
  exact ⟨[],rfl,rfl,⟨⟨_,rfl,OEq.refl _⟩,trivial⟩,rfl,rfl,AEq.refl _⟩
 | old kv hn hk he hm hky =>
  refine ⟨_,liveO_closes K n (m + 1) 2 (by omega) key (K key) kv hn hk he rfl (by omega) hky hks,rfl,rfl,?_⟩
  have hof := of_m (K key) hK
  rw [hO] at hof
  dsimp only [liveGs,stB,evR,List.length_nil,List.append_nil] at hof ⊢
  generalize hidE kv = rv
  generalize K key = l at *
  refine mspec_of lay_ok 65651 10 Tryz.func21 rfl rfl rfl ?_
  repeat' ((conv => whnf); first | refine Spl.yes (by first | assumption | omega) ?_ | refine Spl.no (by first | assumption | omega) ?_ | refine Wr.i64 (by omega) (by omega) ?_ | refine Still.mk rfl rfl ?_ | refine InB.mk (inB_mk (by omega) (by omega)) ?_ | refine Req.mk (by omega) ?_ | refine Req.mk ⟨by first | omega | (dsimp only; omega),by first | omega | (dsimp only; omega)⟩ ?_ | refine ACall.chgR 1 [(0,_)] (hof) rfl ⟨rfl,trivial⟩ rfl rfl ?_ | refine ZN.mk zn_ev ?_ | refine MpAt.mk 0 2 _ rfl rfl ?_ | refine Spl.mk (fun _ => ?_) (fun _ => ?_) | refine InA.mk (inB_mk (by omega) (by omega)) ?_ | refine Wr.b64 ?_ | refine Wr.bu64 ?_ | refine Wr.bu32 ?_ | refine Wr.bu8 ?_ | refine Wr.u8 (by omega) (by omega) ?_ | refine Wr.u64 (by omega) (by omega) ?_ | refine Wr.u32 (by omega) (by omega) ?_ | refine Dv.pos (by omega) (by omega) ?_ | refine Rm.pos (by omega) (by omega) ?_ | refine ADraw.quiet follows_ok (by kernel_rfl) rfl ?_ | refine BSpl.decY (by first | assumption | omega) ?_ | refine BSpl.decN (by first | assumption | omega) ?_ | refine BSpl.dec (fun _ => ?_) (fun _ => ?_) | refine BSpl.yes (by assumption) ?_ | refine BSpl.no (by assumption) ?_ | refine BSpl.mk (fun _ => ?_) (fun _ => ?_))
  all_goals (conv => whnf)
  exact ⟨[],rfl,rfl,⟨⟨_,rfl,OEq.refl _⟩,⟨_,rfl,OEq.refl _⟩,⟨_,rfl,OEq.refl _⟩,trivial⟩,rfl,rfl,AEq.refl _⟩
end Go.Proofs.YtkkpfjifkjbndaaGreat

/-
 Get,of the book of a past.
-/
namespace Go.Proofs.YtkkpfjifkjbndaaGreat
open Go.RowKit
theorem get_b {P : List Ev} (hp : ∀ key,Pst (onP (eqK key) P) key) (m : Nat) (key : ByteArray) (hk : key.size ≤ 9223372036854775807) (hl : P.length ≤ 1000000) {c : Cont} {r : List Cont} (hc : (ofB P).filter (fun c => decide (c.key = key)) = c :: r) :
  MSpec Tryz.prog 21 [(0, .obs (bookO P m))] [.box 0 0, .v (.string key)] (.tup [.agg c.cs, .v (.int .i64 0)]) [(0, .obs (bookO P (m + 1)))] := by
 have h1 := kept_le P key
 have h2 := of_len P
 have h3 : ((ofB P).filter (fun c => decide (c.key = key))).length ≤ (ofB P).length := List.length_filter_le ..
 rw [hc,List.length_cons] at h3
 exact get_yes (keptK P) (sizeB P) m key hk (by omega) c r (by rw [get_kept hp,hc]) (by omega)
theorem get_b0 {P : List Ev} (hp : ∀ key,Pst (onP (eqK key) P) key) (m : Nat) (key : ByteArray) (hk : key.size ≤ 9223372036854775807) (hl : P.length ≤ 1000000) (hc : (ofB P).filter (fun c => decide (c.key = key)) = []) :
  MSpec Tryz.prog 21 [(0, .obs (bookO P m))] [.box 0 0, .v (.string key)] (.tup [.agg zeroC, .v (.int .i64 14)]) [(0, .obs (bookO P (m + 1)))] := by
 have h1 := kept_le P key
 exact get_no (keptK P) (sizeB P) m key hk (by omega) (by rw [get_kept hp,hc])
end Go.Proofs.YtkkpfjifkjbndaaGreat

/-
 Whether two rows of contacts are the same: kithref09.Same.
-/
namespace Go.Proofs.YtkkpfjifkjbndaaGreat
open Go.RowKit
theorem bool2_eq (a0 a1 b0 b1 : Bool) : EqFact Tryz.prog 41 [.bool a0, .bool a1] [.bool b0, .bool b1] (a0 = b0 ∧ a1 = b1) := by
 refine ⟨by kernel_rfl,fun w => ⟨decide (a0 = b0 ∧ a1 = b1),by rw [decide_eq_true_eq],?_⟩⟩
 show (Op.equalIn 10000 41 (.agg #[.bool a0, .bool a1]) (.agg #[.bool b0, .bool b1])).run Tryz.prog w = _
 rw [show (10000 : Nat) = 9999 + 1 from rfl,Op.equalIn]
 simp only [Sem.run_bind,run_underlying Tryz.underlying41,Result.andThen_ok]
 simp only [Std.Legacy.Range.forIn_eq_forIn_range',Std.Legacy.Range.size,Nat.sub_zero,Nat.add_sub_cancel,Nat.div_one,List.range'_succ,List.range'_zero,List.forIn_cons,List.forIn_nil]
 have u3 := Tryz.underlying4
 have a3' := Tryz.isAgg4
 have z3 := Tryz.sizeOf4
 go_simp
 repeat' split
 all_goals simp_all
theorem tl_iff {a b : ByteArray} : a.toList = b.toList ↔ a = b := ⟨toList_inj,fun h => by rw [h]⟩
theorem str2_eq (a0 a1 b0 b1 : ByteArray) : EqFact Tryz.prog 42 [.string a0, .string a1] [.string b0, .string b1] (a0 = b0 ∧ a1 = b1) := by
 refine ⟨by kernel_rfl,fun w => ⟨decide (a0 = b0 ∧ a1 = b1),by rw [decide_eq_true_eq],?_⟩⟩
 show (Op.equalIn 10000 42 (.agg #[.string a0, .string a1]) (.agg #[.string b0, .string b1])).run Tryz.prog w = _
 rw [show (10000 : Nat) = 9999 + 1 from rfl,Op.equalIn]
 simp only [Sem.run_bind,run_underlying Tryz.underlying42,Result.andThen_ok]
 simp only [Std.Legacy.Range.forIn_eq_forIn_range',Std.Legacy.Range.size,Nat.sub_zero,Nat.add_sub_cancel,Nat.div_one,List.range'_succ,List.range'_zero,List.forIn_cons,List.forIn_nil]
 have u3 := Tryz.underlying9
 have a3' := Tryz.isAgg9
 have z3 := Tryz.sizeOf9
 go_simp
 repeat' split
 all_goals simp_all [tl_iff]
theorem cont_ext {a b : Cont} (h0 : a.key = b.key) (h1 : a.h0 = b.h0 ∧ a.h1 = b.h1) (h2 : a.f0 = b.f0 ∧ a.f1 = b.f1) (h3 : a.s0 = b.s0) (h4 : a.s1 = b.s1) : a = b := by
 obtain ⟨a1,a2,a3,a4,a5,a6,a7⟩ := a
 obtain ⟨b1,b2,b3,b4,b5,b6,b7⟩ := b
 simp only at h0 h1 h2 h3 h4
 rw [h0,h1.1,h1.2,h2.1,h2.2,h3,h4]
theorem str_cell {x y : List UInt8} (h : (⟨x.toArray⟩ : ByteArray) = ⟨y.toArray⟩) : x = y := by
 have := congrArg (fun b => b.data.toList) h
 simpa using this
theorem row_ext {α : Type} {x y : List α} {d : α} (hl : x.length = y.length) (h : ∀ i,i < x.length → x.getD i d = y.getD i d) : x = y := by
 apply List.ext_getElem hl
 intro i h1 h2
 have := h i h1
 rwa [List.getD,List.getD,List.getElem?_eq_getElem h1,List.getElem?_eq_getElem h2] at this
set_option maxHeartbeats 8000000 in
set_option maxRecDepth 100000 in
theorem same_spec (a b : List Cont) (sa sb : Bool) (R : Bool) (hR : R = true ↔ a = b) (ha : a.length ≤ 140737488355328) (hsa : ∀ c ∈ a,c.s0.length ≤ 140737488355328 ∧ c.s1.length ≤ 140737488355328) :
  ASpec Tryz.prog 18 [.sl 7 a.length sa (coF a), .sl 7 b.length sb (coF b)] (.v (.bool R)) [] := by
 have hno : a ≠ b → R = false := fun h => by cases R with | true => exact absurd (hR.1 rfl) h | false => rfl
 have hyes : a = b → R = true := hR.2
 refine aspec_of lay_ok 649037184763663952772478640656627 Tryz.func18 rfl rfl rfl ?_
 by_cases hlen : (a.length : Int) = (b.length : Int)
 · repeat' ((conv => whnf); first | refine Spl.yes (by first | assumption | omega) ?_ | refine Spl.no (by first | assumption | omega) ?_ | refine Wr.i64 (by omega) (by omega) ?_ | refine Still.mk rfl rfl ?_ | refine InB.mk (inB_mk (by omega) (by omega)) ?_ | refine Req.mk (by omega) ?_ | refine Req.mk ⟨by first | omega | (dsimp only; omega),by first | omega | (dsimp only; omega)⟩ ?_ | refine ARet.hdI ?_ | refine Spl.mk (fun _ => ?_) (fun _ => ?_) | refine InA.mk (inB_mk (by omega) (by omega)) ?_ | refine Wr.b64 ?_ | refine Wr.bu64 ?_ | refine Wr.bu32 ?_ | refine Wr.bu8 ?_ | refine Wr.u8 (by omega) (by omega) ?_ | refine Wr.u64 (by omega) (by omega) ?_ | refine Wr.u32 (by omega) (by omega) ?_ | refine Dv.pos (by omega) (by omega) ?_ | refine Rm.pos (by omega) (by omega) ?_ | refine ADraw.quiet follows_ok (by kernel_rfl) rfl ?_ | refine BSpl.decY (by first | assumption | omega) ?_ | refine BSpl.decN (by first | assumption | omega) ?_ | refine BSpl.dec (fun _ => ?_) (fun _ => ?_) | refine BSpl.yes (by assumption) ?_ | refine BSpl.no (by assumption) ?_ | refine BSpl.mk (fun _ => ?_) (fun _ => ?_))
   conv => whnf
   refine ALoop.mk { j : Nat // j ≤ a.length ∧ ∀ i,i < j → a.getD i default = b.getD i default } (fun j => ⟨[(0, .sl 7 a.length sa (coF a)),(1, .sl 7 b.length sb (coF b)),(5, .v (.int .i64 (j.1 : Int)))],[],[],0⟩) (fun j => a.length - j.1) ⟨0,Nat.zero_le _,fun i h => absurd h (Nat.not_lt_zero i)⟩ _
    (LeR.mk' [] _ _ _ rfl ⟨AEq.refl _,AEq.refl _,AEq.int rfl,trivial⟩ trivial rfl) ?_
   rintro ⟨j,hj,hall⟩
   dsimp only
   by_cases hjl : j < a.length
   · have hd : a.getD (j : Int).toNat default ≠ b.getD (j : Int).toNat default → R = false := fun h => hno fun e => h (by rw [e])
     have hup : a.getD (j : Int).toNat default = b.getD (j : Int).toNat default → ∀ i,i < j + 1 → a.getD i default = b.getD i default := fun h i hi => by
      rcases Nat.lt_or_ge i j with h' | h'
      · exact hall i h'
      · obtain rfl : i = j := by omega
        exact h
     have hsl : (a.getD (j : Int).toNat default).s0.length ≤ 140737488355328 ∧ (a.getD (j : Int).toNat default).s1.length ≤ 140737488355328 := hsa _ (by
      rw [List.getD,List.getElem?_eq_getElem (show (j : Int).toNat < a.length from hjl)]
      exact List.getElem_mem _)
     clear hall
     repeat' ((conv => whnf); first | refine Spl.yes (by first | assumption | omega) ?_ | refine Spl.no (by first | assumption | omega) ?_ | refine Wr.i64 (by omega) (by omega) ?_ | refine Still.mk rfl rfl ?_ | refine InB.mk (inB_mk (by omega) (by omega)) ?_ | refine Req.mk (by omega) ?_ | refine Req.mk ⟨by first | omega | (dsimp only; omega),by first | omega | (dsimp only; omega)⟩ ?_ | refine EqA.mk [.bool _, .bool _] [.bool _, .bool _] _ rfl rfl (bool2_eq _ _ _ _) ?_ | refine EqA.mk [.string _, .string _] [.string _, .string _] _ rfl rfl (str2_eq _ _ _ _) ?_ | refine ARet.hdI ?_ | refine Spl.mk (fun _ => ?_) (fun _ => ?_) | refine InA.mk (inB_mk (by omega) (by omega)) ?_ | refine Wr.b64 ?_ | refine Wr.bu64 ?_ | refine Wr.bu32 ?_ | refine Wr.bu8 ?_ | refine Wr.u8 (by omega) (by omega) ?_ | refine Wr.u64 (by omega) (by omega) ?_ | refine Wr.u32 (by omega) (by omega) ?_ | refine Dv.pos (by omega) (by omega) ?_ | refine Rm.pos (by omega) (by omega) ?_ | refine ADraw.quiet follows_ok (by kernel_rfl) rfl ?_ | refine BSpl.decY (by first | assumption | omega) ?_ | refine BSpl.decN (by first | assumption | omega) ?_ | refine BSpl.dec (fun _ => ?_) (fun _ => ?_) | refine BSpl.yes (by assumption) ?_ | refine BSpl.no (by assumption) ?_ | refine BSpl.mk (fun _ => ?_) (fun _ => ?_))
     all_goals (conv => whnf)
     · have hh := (show (a.getD (j : Int).toNat default).key = (b.getD (j : Int).toNat default).key ∧ ((a.getD (j : Int).toNat default).h0 = (b.getD (j : Int).toNat default).h0 ∧ (a.getD (j : Int).toNat default).h1 = (b.getD (j : Int).toNat default).h1) ∧ (a.getD (j : Int).toNat default).f0 = (b.getD (j : Int).toNat default).f0 ∧ (a.getD (j : Int).toNat default).f1 = (b.getD (j : Int).toNat default).f1 from ⟨by assumption,by assumption,by assumption⟩)
       refine ALoop.mk { n : Nat // n ≤ 2 ∧ (1 ≤ n → (a.getD (j : Int).toNat default).s0 = (b.getD (j : Int).toNat default).s0) ∧ (2 ≤ n → (a.getD (j : Int).toNat default).s1 = (b.getD (j : Int).toNat default).s1) } (fun n => ⟨[(0, .sl 7 a.length sa (coF a)),(1, .sl 7 b.length sb (coF b)),(5, .v (.int .i64 (j : Int))),(6, .v (.int .i64 (n.1 : Int)))],[],[],0⟩) (fun n => 2 - n.1) ⟨0,Nat.zero_le _,fun h => absurd h (by omega),fun h => absurd h (by omega)⟩ _
        (LeR.mk' [] _ _ _ rfl ⟨AEq.refl _,AEq.refl _,AEq.int rfl,AEq.int rfl,trivial⟩ trivial rfl) ?_
       rintro ⟨n,hn,h0n,h1n⟩
       dsimp only
       obtain rfl | rfl | rfl : n = 0 ∨ n = 1 ∨ n = 2 := by omega
       · repeat' ((conv => whnf); first | refine Spl.yes (by first | assumption | omega) ?_ | refine Spl.no (by first | assumption | omega) ?_ | refine Wr.i64 (by omega) (by omega) ?_ | refine Still.mk rfl rfl ?_ | refine InB.mk (inB_mk (by omega) (by omega)) ?_ | refine Req.mk (by omega) ?_ | refine Req.mk ⟨by first | omega | (dsimp only; omega),by first | omega | (dsimp only; omega)⟩ ?_ | refine ARet.hdI ?_ | refine Spl.mk (fun _ => ?_) (fun _ => ?_) | refine InA.mk (inB_mk (by omega) (by omega)) ?_ | refine Wr.b64 ?_ | refine Wr.bu64 ?_ | refine Wr.bu32 ?_ | refine Wr.bu8 ?_ | refine Wr.u8 (by omega) (by omega) ?_ | refine Wr.u64 (by omega) (by omega) ?_ | refine Wr.u32 (by omega) (by omega) ?_ | refine Dv.pos (by omega) (by omega) ?_ | refine Rm.pos (by omega) (by omega) ?_ | refine ADraw.quiet follows_ok (by kernel_rfl) rfl ?_ | refine BSpl.decY (by first | assumption | omega) ?_ | refine BSpl.decN (by first | assumption | omega) ?_ | refine BSpl.dec (fun _ => ?_) (fun _ => ?_) | refine BSpl.yes (by assumption) ?_ | refine BSpl.no (by assumption) ?_ | refine BSpl.mk (fun _ => ?_) (fun _ => ?_))
         all_goals (conv => whnf)
         · refine ALoop.mk { k : Nat // k ≤ (a.getD (j : Int).toNat default).s0.length ∧ ∀ i,i < k → (a.getD (j : Int).toNat default).s0.getD i [] = (b.getD (j : Int).toNat default).s0.getD i [] } (fun k => ⟨[(0, .sl 7 a.length sa (coF a)),(1, .sl 7 b.length sb (coF b)),(5, .v (.int .i64 (j : Int))),(6, .v (.int .i64 0)),(7, .v (.int .i64 (k.1 : Int)))],[],[],0⟩) (fun k => (a.getD (j : Int).toNat default).s0.length - k.1) ⟨0,Nat.zero_le _,fun i h => absurd h (Nat.not_lt_zero i)⟩ _
            (LeR.mk' [] _ _ _ rfl ⟨AEq.refl _,AEq.refl _,AEq.int rfl,AEq.int rfl,AEq.int rfl,trivial⟩ trivial rfl) ?_
           rintro ⟨k,hk,hka⟩
           dsimp only
           by_cases hkl : k < (a.getD (j : Int).toNat default).s0.length
           · have hkd : ¬ (⟨((a.getD (j : Int).toNat default).s0.getD (k : Int).toNat []).toArray⟩ : ByteArray) = ⟨((b.getD (j : Int).toNat default).s0.getD (k : Int).toNat []).toArray⟩ → R = false := fun h => hd fun e => h (by rw [e])
             have hku : (⟨((a.getD (j : Int).toNat default).s0.getD (k : Int).toNat []).toArray⟩ : ByteArray) = ⟨((b.getD (j : Int).toNat default).s0.getD (k : Int).toNat []).toArray⟩ → ∀ i,i < k + 1 → (a.getD (j : Int).toNat default).s0.getD i [] = (b.getD (j : Int).toNat default).s0.getD i [] := fun h i hi => by
              rcases Nat.lt_or_ge i k with h' | h'
              · exact hka i h'
              · obtain rfl : i = k := by omega
                exact str_cell h
             clear hka
             repeat' ((conv => whnf); first | refine Spl.yes (by first | assumption | omega) ?_ | refine Spl.no (by first | assumption | omega) ?_ | refine Wr.i64 (by omega) (by omega) ?_ | refine Still.mk rfl rfl ?_ | refine InB.mk (inB_mk (by omega) (by omega)) ?_ | refine Req.mk (by omega) ?_ | refine Req.mk ⟨by first | omega | (dsimp only; omega),by first | omega | (dsimp only; omega)⟩ ?_ | refine ARet.hdI ?_ | refine Spl.mk (fun _ => ?_) (fun _ => ?_) | refine InA.mk (inB_mk (by omega) (by omega)) ?_ | refine Wr.b64 ?_ | refine Wr.bu64 ?_ | refine Wr.bu32 ?_ | refine Wr.bu8 ?_ | refine Wr.u8 (by omega) (by omega) ?_ | refine Wr.u64 (by omega) (by omega) ?_ | refine Wr.u32 (by omega) (by omega) ?_ | refine Dv.pos (by omega) (by omega) ?_ | refine Rm.pos (by omega) (by omega) ?_ | refine ADraw.quiet follows_ok (by kernel_rfl) rfl ?_ | refine BSpl.decY (by first | assumption | omega) ?_ | refine BSpl.decN (by first | assumption | omega) ?_ | refine BSpl.dec (fun _ => ?_) (fun _ => ?_) | refine BSpl.yes (by assumption) ?_ | refine BSpl.no (by assumption) ?_ | refine BSpl.mk (fun _ => ?_) (fun _ => ?_))
             all_goals (conv => whnf)
             all_goals first
               | (rw [hkd (by assumption)]; exact AEqI.mk (AEq.refl _))
               | exact ⟨⟨k + 1,hkl,hku (by assumption)⟩,_,LeR.mk' [] _ _ _ rfl ⟨AEq.refl _,AEq.refl _,AEq.int rfl,AEq.int rfl,AEq.int rfl,trivial⟩ trivial rfl,Nat.sub_succ_lt_self _ _ hkl⟩
           · have hse : (a.getD (j : Int).toNat default).s0 = (b.getD (j : Int).toNat default).s0 := row_ext (by omega) fun i hi => hka i (by omega)
             clear hka
             repeat' ((conv => whnf); first | refine Spl.yes (by first | assumption | omega) ?_ | refine Spl.no (by first | assumption | omega) ?_ | refine Wr.i64 (by omega) (by omega) ?_ | refine Still.mk rfl rfl ?_ | refine InB.mk (inB_mk (by omega) (by omega)) ?_ | refine Req.mk (by omega) ?_ | refine Req.mk ⟨by first | omega | (dsimp only; omega),by first | omega | (dsimp only; omega)⟩ ?_ | refine ARet.hdI ?_ | refine Spl.mk (fun _ => ?_) (fun _ => ?_) | refine InA.mk (inB_mk (by omega) (by omega)) ?_ | refine Wr.b64 ?_ | refine Wr.bu64 ?_ | refine Wr.bu32 ?_ | refine Wr.bu8 ?_ | refine Wr.u8 (by omega) (by omega) ?_ | refine Wr.u64 (by omega) (by omega) ?_ | refine Wr.u32 (by omega) (by omega) ?_ | refine Dv.pos (by omega) (by omega) ?_ | refine Rm.pos (by omega) (by omega) ?_ | refine ADraw.quiet follows_ok (by kernel_rfl) rfl ?_ | refine BSpl.decY (by first | assumption | omega) ?_ | refine BSpl.decN (by first | assumption | omega) ?_ | refine BSpl.dec (fun _ => ?_) (fun _ => ?_) | refine BSpl.yes (by assumption) ?_ | refine BSpl.no (by assumption) ?_ | refine BSpl.mk (fun _ => ?_) (fun _ => ?_))
             conv => whnf
             exact ⟨⟨1,by omega,fun _ => hse,fun h => absurd h (by omega)⟩,_,LeR.mk' [] _ _ _ rfl ⟨AEq.refl _,AEq.refl _,AEq.int rfl,AEq.int rfl,trivial⟩ trivial rfl,by show 2 - 1 < 2 - 0; omega⟩
         · rw [hd fun e => absurd (congrArg (fun c : Cont => (c.s0.length : Int)) e) (by assumption)]
           exact AEqI.mk (AEq.refl _)
       · repeat' ((conv => whnf); first | refine Spl.yes (by first | assumption | omega) ?_ | refine Spl.no (by first | assumption | omega) ?_ | refine Wr.i64 (by omega) (by omega) ?_ | refine Still.mk rfl rfl ?_ | refine InB.mk (inB_mk (by omega) (by omega)) ?_ | refine Req.mk (by omega) ?_ | refine Req.mk ⟨by first | omega | (dsimp only; omega),by first | omega | (dsimp only; omega)⟩ ?_ | refine ARet.hdI ?_ | refine Spl.mk (fun _ => ?_) (fun _ => ?_) | refine InA.mk (inB_mk (by omega) (by omega)) ?_ | refine Wr.b64 ?_ | refine Wr.bu64 ?_ | refine Wr.bu32 ?_ | refine Wr.bu8 ?_ | refine Wr.u8 (by omega) (by omega) ?_ | refine Wr.u64 (by omega) (by omega) ?_ | refine Wr.u32 (by omega) (by omega) ?_ | refine Dv.pos (by omega) (by omega) ?_ | refine Rm.pos (by omega) (by omega) ?_ | refine ADraw.quiet follows_ok (by kernel_rfl) rfl ?_ | refine BSpl.decY (by first | assumption | omega) ?_ | refine BSpl.decN (by first | assumption | omega) ?_ | refine BSpl.dec (fun _ => ?_) (fun _ => ?_) | refine BSpl.yes (by assumption) ?_ | refine BSpl.no (by assumption) ?_ | refine BSpl.mk (fun _ => ?_) (fun _ => ?_))
         all_goals (conv => whnf)
         · refine ALoop.mk { k : Nat // k ≤ (a.getD (j : Int).toNat default).s1.length ∧ ∀ i,i < k → (a.getD (j : Int).toNat default).s1.getD i [] = (b.getD (j : Int).toNat default).s1.getD i [] } (fun k => ⟨[(0, .sl 7 a.length sa (coF a)),(1, .sl 7 b.length sb (coF b)),(5, .v (.int .i64 (j : Int))),(6, .v (.int .i64 1)),(7, .v (.int .i64 (k.1 : Int)))],[],[],0⟩) (fun k => (a.getD (j : Int).toNat default).s1.length - k.1) ⟨0,Nat.zero_le _,fun i h => absurd h (Nat.not_lt_zero i)⟩ _
            (LeR.mk' [] _ _ _ rfl ⟨AEq.refl _,AEq.refl _,AEq.int rfl,AEq.int rfl,AEq.int rfl,trivial⟩ trivial rfl) ?_
           rintro ⟨k,hk,hka⟩
           dsimp only
           by_cases hkl : k < (a.getD (j : Int).toNat default).s1.length
           · have hkd : ¬ (⟨((a.getD (j : Int).toNat default).s1.getD (k : Int).toNat []).toArray⟩ : ByteArray) = ⟨((b.getD (j : Int).toNat default).s1.getD (k : Int).toNat []).toArray⟩ → R = false := fun h => hd fun e => h (by rw [e])
             have hku : (⟨((a.getD (j : Int).toNat default).s1.getD (k : Int).toNat []).toArray⟩ : ByteArray) = ⟨((b.getD (j : Int).toNat default).s1.getD (k : Int).toNat []).toArray⟩ → ∀ i,i < k + 1 → (a.getD (j : Int).toNat default).s1.getD i [] = (b.getD (j : Int).toNat default).s1.getD i [] := fun h i hi => by
              rcases Nat.lt_or_ge i k with h' | h'
              · exact hka i h'
              · obtain rfl : i = k := by omega
                exact str_cell h
             clear hka
             repeat' ((conv => whnf); first | refine Spl.yes (by first | assumption | omega) ?_ | refine Spl.no (by first | assumption | omega) ?_ | refine Wr.i64 (by omega) (by omega) ?_ | refine Still.mk rfl rfl ?_ | refine InB.mk (inB_mk (by omega) (by omega)) ?_ | refine Req.mk (by omega) ?_ | refine Req.mk ⟨by first | omega | (dsimp only; omega),by first | omega | (dsimp only; omega)⟩ ?_ | refine ARet.hdI ?_ | refine Spl.mk (fun _ => ?_) (fun _ => ?_) | refine InA.mk (inB_mk (by omega) (by omega)) ?_ | refine Wr.b64 ?_ | refine Wr.bu64 ?_ | refine Wr.bu32 ?_ | refine Wr.bu8 ?_ | refine Wr.u8 (by omega) (by omega) ?_ | refine Wr.u64 (by omega) (by omega) ?_ | refine Wr.u32 (by omega) (by omega) ?_ | refine Dv.pos (by omega) (by omega) ?_ | refine Rm.pos (by omega) (by omega) ?_ | refine ADraw.quiet follows_ok (by kernel_rfl) rfl ?_ | refine BSpl.decY (by first | assumption | omega) ?_ | refine BSpl.decN (by first | assumption | omega) ?_ | refine BSpl.dec (fun _ => ?_) (fun _ => ?_) | refine BSpl.yes (by assumption) ?_ | refine BSpl.no (by assumption) ?_ | refine BSpl.mk (fun _ => ?_) (fun _ => ?_))
             all_goals (conv => whnf)
             all_goals first
               | (rw [hkd (by assumption)]; exact AEqI.mk (AEq.refl _))
               | exact ⟨⟨k + 1,hkl,hku (by assumption)⟩,_,LeR.mk' [] _ _ _ rfl ⟨AEq.refl _,AEq.refl _,AEq.int rfl,AEq.int rfl,AEq.int rfl,trivial⟩ trivial rfl,Nat.sub_succ_lt_self _ _ hkl⟩
           · have hse : (a.getD (j : Int).toNat default).s1 = (b.getD (j : Int).toNat default).s1 := row_ext (by omega) fun i hi => hka i (by omega)
             clear hka
             repeat' ((conv => whnf); first | refine Spl.yes (by first | assumption | omega) ?_ | refine Spl.no (by first | assumption | omega) ?_ | refine Wr.i64 (by omega) (by omega) ?_ | refine Still.mk rfl rfl ?_ | refine InB.mk (inB_mk (by omega) (by omega)) ?_ | refine Req.mk (by omega) ?_ | refine Req.mk ⟨by first | omega | (dsimp only; omega),by first | omega | (dsimp only; omega)⟩ ?_ | refine ARet.hdI ?_ | refine Spl.mk (fun _ => ?_) (fun _ => ?_) | refine InA.mk (inB_mk (by omega) (by omega)) ?_ | refine Wr.b64 ?_ | refine Wr.bu64 ?_ | refine Wr.bu32 ?_ | refine Wr.bu8 ?_ | refine Wr.u8 (by omega) (by omega) ?_ | refine Wr.u64 (by omega) (by omega) ?_ | refine Wr.u32 (by omega) (by omega) ?_ | refine Dv.pos (by omega) (by omega) ?_ | refine Rm.pos (by omega) (by omega) ?_ | refine ADraw.quiet follows_ok (by kernel_rfl) rfl ?_ | refine BSpl.decY (by first | assumption | omega) ?_ | refine BSpl.decN (by first | assumption | omega) ?_ | refine BSpl.dec (fun _ => ?_) (fun _ => ?_) | refine BSpl.yes (by assumption) ?_ | refine BSpl.no (by assumption) ?_ | refine BSpl.mk (fun _ => ?_) (fun _ => ?_))
             conv => whnf
             exact ⟨⟨2,by omega,fun _ => h0n (by omega),fun h => hse⟩,_,LeR.mk' [] _ _ _ rfl ⟨AEq.refl _,AEq.refl _,AEq.int rfl,AEq.int rfl,trivial⟩ trivial rfl,by show 2 - 2 < 2 - 1; omega⟩
         · rw [hd fun e => absurd (congrArg (fun c : Cont => (c.s1.length : Int)) e) (by assumption)]
           exact AEqI.mk (AEq.refl _)
       · have hae : (a.getD (j : Int).toNat default) = (b.getD (j : Int).toNat default) := cont_ext hh.1 hh.2.1 hh.2.2 (h0n (by omega)) (h1n (by omega))
         repeat' ((conv => whnf); first | refine Spl.yes (by first | assumption | omega) ?_ | refine Spl.no (by first | assumption | omega) ?_ | refine Wr.i64 (by omega) (by omega) ?_ | refine Still.mk rfl rfl ?_ | refine InB.mk (inB_mk (by omega) (by omega)) ?_ | refine Req.mk (by omega) ?_ | refine Req.mk ⟨by first | omega | (dsimp only; omega),by first | omega | (dsimp only; omega)⟩ ?_ | refine ARet.hdI ?_ | refine Spl.mk (fun _ => ?_) (fun _ => ?_) | refine InA.mk (inB_mk (by omega) (by omega)) ?_ | refine Wr.b64 ?_ | refine Wr.bu64 ?_ | refine Wr.bu32 ?_ | refine Wr.bu8 ?_ | refine Wr.u8 (by omega) (by omega) ?_ | refine Wr.u64 (by omega) (by omega) ?_ | refine Wr.u32 (by omega) (by omega) ?_ | refine Dv.pos (by omega) (by omega) ?_ | refine Rm.pos (by omega) (by omega) ?_ | refine ADraw.quiet follows_ok (by kernel_rfl) rfl ?_ | refine BSpl.decY (by first | assumption | omega) ?_ | refine BSpl.decN (by first | assumption | omega) ?_ | refine BSpl.dec (fun _ => ?_) (fun _ => ?_) | refine BSpl.yes (by assumption) ?_ | refine BSpl.no (by assumption) ?_ | refine BSpl.mk (fun _ => ?_) (fun _ => ?_))
         conv => whnf
         exact ⟨⟨j + 1,hjl,hup hae⟩,_,LeR.mk' [] _ _ _ rfl ⟨AEq.refl _,AEq.refl _,AEq.int rfl,trivial⟩ trivial rfl,Nat.sub_succ_lt_self _ _ hjl⟩
     all_goals
      first
      | (rw [hd fun e => absurd (congrArg Cont.key e) (by assumption)]; exact AEqI.mk (AEq.refl _))
      | (rw [hd fun e => absurd (And.intro (congrArg Cont.h0 e) (congrArg Cont.h1 e)) (by assumption)]; exact AEqI.mk (AEq.refl _))
      | (rw [hd fun e => absurd (And.intro (congrArg Cont.f0 e) (congrArg Cont.f1 e)) (by assumption)]; exact AEqI.mk (AEq.refl _))
   · rw [hyes (row_ext (by omega) fun i hi => hall i (by omega))]
     repeat' ((conv => whnf); first | refine Spl.yes (by first | assumption | omega) ?_ | refine Spl.no (by first | assumption | omega) ?_ | refine Wr.i64 (by omega) (by omega) ?_ | refine Still.mk rfl rfl ?_ | refine InB.mk (inB_mk (by omega) (by omega)) ?_ | refine Req.mk (by omega) ?_ | refine Req.mk ⟨by first | omega | (dsimp only; omega),by first | omega | (dsimp only; omega)⟩ ?_ | refine ARet.hdI ?_ | refine Spl.mk (fun _ => ?_) (fun _ => ?_) | refine InA.mk (inB_mk (by omega) (by omega)) ?_ | refine Wr.b64 ?_ | refine Wr.bu64 ?_ | refine Wr.bu32 ?_ | refine Wr.bu8 ?_ | refine Wr.u8 (by omega) (by omega) ?_ | refine Wr.u64 (by omega) (by omega) ?_ | refine Wr.u32 (by omega) (by omega) ?_ | refine Dv.pos (by omega) (by omega) ?_ | refine Rm.pos (by omega) (by omega) ?_ | refine ADraw.quiet follows_ok (by kernel_rfl) rfl ?_ | refine BSpl.decY (by first | assumption | omega) ?_ | refine BSpl.decN (by first | assumption | omega) ?_ | refine BSpl.dec (fun _ => ?_) (fun _ => ?_) | refine BSpl.yes (by assumption) ?_ | refine BSpl.no (by assumption) ?_ | refine BSpl.mk (fun _ => ?_) (fun _ => ?_))
     conv => whnf
     exact AEqI.mk (AEq.refl _)
 · rw [hno fun e => hlen (by rw [e])]
   repeat' ((conv => whnf); first | refine Spl.yes (by first | assumption | omega) ?_ | refine Spl.no (by first | assumption | omega) ?_ | refine Wr.i64 (by omega) (by omega) ?_ | refine Still.mk rfl rfl ?_ | refine InB.mk (inB_mk (by omega) (by omega)) ?_ | refine Req.mk (by omega) ?_ | refine Req.mk ⟨by first | omega | (dsimp only; omega),by first | omega | (dsimp only; omega)⟩ ?_ | refine ARet.hdI ?_ | refine Spl.mk (fun _ => ?_) (fun _ => ?_) | refine InA.mk (inB_mk (by omega) (by omega)) ?_ | refine Wr.b64 ?_ | refine Wr.bu64 ?_ | refine Wr.bu32 ?_ | refine Wr.bu8 ?_ | refine Wr.u8 (by omega) (by omega) ?_ | refine Wr.u64 (by omega) (by omega) ?_ | refine Wr.u32 (by omega) (by omega) ?_ | refine Dv.pos (by omega) (by omega) ?_ | refine Rm.pos (by omega) (by omega) ?_ | refine ADraw.quiet follows_ok (by kernel_rfl) rfl ?_ | refine BSpl.decY (by first | assumption | omega) ?_ | refine BSpl.decN (by first | assumption | omega) ?_ | refine BSpl.dec (fun _ => ?_) (fun _ => ?_) | refine BSpl.yes (by assumption) ?_ | refine BSpl.no (by assumption) ?_ | refine BSpl.mk (fun _ => ?_) (fun _ => ?_))
   all_goals (conv => whnf)
   all_goals exact AEqI.mk (AEq.refl _)
end Go.Proofs.YtkkpfjifkjbndaaGreat

/-
 What counts,counted: small lemmas.
-/
namespace Go.Proofs.YtkkpfjifkjbndaaGreat
open Go.RowKit
theorem filter_takeN {p : Ev → Bool} {l : List Ev} {j : Nat} (hj : j < l.length) : ((l.take (j + 1)).filter p).length = ((l.take j).filter p).length + (if p (l.getD (j : Int).toNat default) = true then 1 else 0) := by
 rw [filter_take hj,List.length_append]
 show _ = _ + (if p (l.getD j default) = true then 1 else 0)
 split <;> rfl
end Go.Proofs.YtkkpfjifkjbndaaGreat

/-
 The reference of layer 9: what is above what,who lives,what counts.
-/
namespace Go.Proofs.YtkkpfjifkjbndaaGreat
open Go.RowKit
theorem below6_spec (a b : Ev) : ASpec Tryz.prog 71 [a.av,b.av] (.v (.bool (belowB a b))) [] := by
 have h := has3_spec b.c a.r a.n
 obtain ⟨q,hq⟩ : ∃ q,hasB b.c a.r a.n = q := ⟨_,rfl⟩
 rw [hq] at h
 rw [show belowB a b = q from hq]
 dsimp only [Ev.av,Ev.cs,Clk.av] at h ⊢
 refine aspec_of lay_ok 31 Tryz.func71 rfl rfl rfl ?_
 repeat' ((conv => whnf); first | refine Spl.yes (by first | assumption | omega) ?_ | refine Spl.no (by first | assumption | omega) ?_ | refine Wr.i64 (by omega) (by omega) ?_ | refine Still.mk rfl rfl ?_ | refine InB.mk (inB_mk (by omega) (by omega)) ?_ | refine Req.mk (by omega) ?_ | refine Req.mk ⟨by first | omega | (dsimp only; omega),by first | omega | (dsimp only; omega)⟩ ?_ | refine ACall.plain _ _ (h) (SubL.cons (.eq _) (SubL.cons (.eq _) (SubL.cons (.eq _) .nil))) rfl ?_ | refine ARet.hdI ?_ | refine Spl.mk (fun _ => ?_) (fun _ => ?_) | refine InA.mk (inB_mk (by omega) (by omega)) ?_ | refine Wr.b64 ?_ | refine Wr.bu64 ?_ | refine Wr.bu32 ?_ | refine Wr.bu8 ?_ | refine Wr.u8 (by omega) (by omega) ?_ | refine Wr.u64 (by omega) (by omega) ?_ | refine Wr.u32 (by omega) (by omega) ?_ | refine Dv.pos (by omega) (by omega) ?_ | refine Rm.pos (by omega) (by omega) ?_ | refine ADraw.quiet follows_ok (by kernel_rfl) rfl ?_ | refine BSpl.decY (by first | assumption | omega) ?_ | refine BSpl.decN (by first | assumption | omega) ?_ | refine BSpl.dec (fun _ => ?_) (fun _ => ?_) | refine BSpl.yes (by assumption) ?_ | refine BSpl.no (by assumption) ?_ | refine BSpl.mk (fun _ => ?_) (fun _ => ?_))
 all_goals (conv => whnf)
 all_goals (refine AEqI.mk (AEq.of ?_))
 all_goals simp [*]
def abvP (kind : Int) (lb vl : Bool) (e x : Ev) : Bool := belowB e x && (decide (x.k = kind) && (decide (x.key = e.key) && ((!lb || decide (x.l = e.l)) && (!vl || decide (x.v = e.v)))))
def abvB (l : List Ev) (e : Ev) (kind : Int) (lb vl : Bool) : Bool := l.any (abvP kind lb vl e)
set_option maxHeartbeats 8000000 in
set_option maxRecDepth 100000 in
theorem aboveR_spec (l : List Ev) (e : Ev) (kind : Int) (lb vl : Bool) (hl : l.length ≤ 1000000000) :
  ASpec Tryz.prog 43 [.sl 12 l.length true (evF l),e.av, .v (.int .i64 kind), .v (.bool lb), .v (.bool vl)] (.v (.bool (abvB l e kind lb vl))) [] := by
 have hyes : ∀ j,j < l.length → abvP kind lb vl e (l.getD j default) = true → abvB l e kind lb vl = true := fun j hj h1 => any_get hj h1
 have hno : (∀ i,i < l.length → abvP kind lb vl e (l.getD i default) = false) → abvB l e kind lb vl = false := fun h => any_none h
 generalize abvB l e kind lb vl = R at hyes hno
 dsimp only [Ev.av,Ev.cs]
 refine aspec_of lay_ok 4611686018427534431 Tryz.func43 rfl rfl rfl ?_
 repeat' ((conv => whnf); first | refine Spl.yes (by first | assumption | omega) ?_ | refine Spl.no (by first | assumption | omega) ?_ | refine Wr.i64 (by omega) (by omega) ?_ | refine Still.mk rfl rfl ?_ | refine InB.mk (inB_mk (by omega) (by omega)) ?_ | refine Req.mk (by omega) ?_ | refine Req.mk ⟨by first | omega | (dsimp only; omega),by first | omega | (dsimp only; omega)⟩ ?_ | refine ARet.hdI ?_ | refine Spl.mk (fun _ => ?_) (fun _ => ?_) | refine InA.mk (inB_mk (by omega) (by omega)) ?_ | refine Wr.b64 ?_ | refine Wr.bu64 ?_ | refine Wr.bu32 ?_ | refine Wr.bu8 ?_ | refine Wr.u8 (by omega) (by omega) ?_ | refine Wr.u64 (by omega) (by omega) ?_ | refine Wr.u32 (by omega) (by omega) ?_ | refine Dv.pos (by omega) (by omega) ?_ | refine Rm.pos (by omega) (by omega) ?_ | refine ADraw.quiet follows_ok (by kernel_rfl) rfl ?_ | refine BSpl.decY (by first | assumption | omega) ?_ | refine BSpl.decN (by first | assumption | omega) ?_ | refine BSpl.dec (fun _ => ?_) (fun _ => ?_) | refine BSpl.yes (by assumption) ?_ | refine BSpl.no (by assumption) ?_ | refine BSpl.mk (fun _ => ?_) (fun _ => ?_))
 conv => whnf
 refine ALoop.mk { j : Nat // j ≤ l.length ∧ ∀ i,i < j → abvP kind lb vl e (l.getD i default) = false } (fun j => ⟨[(0, .sl 12 l.length true (evF l)),(2, .v (.int .i64 kind)),(3, .v (.bool lb)),(4, .v (.bool vl)),(6, .box 0 0),(11, .v (.int .i64 (j.1 : Int)))],
   [(0, .box 36 e.cs)],[],1⟩) (fun j => l.length - j.1) ⟨0,Nat.zero_le _,fun i h => absurd h (Nat.not_lt_zero i)⟩ _
  (LeR.mk' [] _ _ _ rfl ⟨AEq.refl _,AEq.refl _,AEq.refl _,AEq.refl _,AEq.refl _,AEq.int rfl,trivial⟩ ⟨⟨_,rfl,OEq.refl _⟩,trivial⟩ rfl) ?_
 rintro ⟨j,hj,hall⟩
 dsimp only
 by_cases hjl : j < l.length
 · have hyj := hyes j hjl
   have hnj : abvP kind lb vl e (l.getD j default) = false → ∀ i,i < j + 1 → abvP kind lb vl e (l.getD i default) = false := by
    intro h i hi
    rcases Nat.lt_or_ge i j with h' | h'
    · exact hall i h'
    · obtain rfl : i = j := by omega
      exact h
   have hb := below6_spec e (l.getD (j : Int).toNat default)
   have hw : abvP kind lb vl e (l.getD j default) = (belowB e (l.getD (j : Int).toNat default) && (decide ((l.getD (j : Int).toNat default).k = kind) && (decide ((l.getD (j : Int).toNat default).key = e.key) && ((!lb || decide ((l.getD (j : Int).toNat default).l = e.l)) && (!vl || decide ((l.getD (j : Int).toNat default).v = e.v)))))) := rfl
   rw [hw] at hyj hnj
   generalize belowB e (l.getD (j : Int).toNat default) = q at hb hyj hnj
   clear hw hyes hno hall
   dsimp only [Ev.av,Ev.cs] at hb ⊢
   repeat' ((conv => whnf); first | refine Spl.yes (by first | assumption | omega) ?_ | refine Spl.no (by first | assumption | omega) ?_ | refine Wr.i64 (by omega) (by omega) ?_ | refine Still.mk rfl rfl ?_ | refine InB.mk (inB_mk (by omega) (by omega)) ?_ | refine Req.mk (by omega) ?_ | refine Req.mk ⟨by first | omega | (dsimp only; omega),by first | omega | (dsimp only; omega)⟩ ?_ | refine ACall.plain _ _ (hb) (SubL.cons (.eq _) (SubL.cons (.eq _) .nil)) rfl ?_ | refine ARet.hdI ?_ | refine Spl.mk (fun _ => ?_) (fun _ => ?_) | refine InA.mk (inB_mk (by omega) (by omega)) ?_ | refine Wr.b64 ?_ | refine Wr.bu64 ?_ | refine Wr.bu32 ?_ | refine Wr.bu8 ?_ | refine Wr.u8 (by omega) (by omega) ?_ | refine Wr.u64 (by omega) (by omega) ?_ | refine Wr.u32 (by omega) (by omega) ?_ | refine Dv.pos (by omega) (by omega) ?_ | refine Rm.pos (by omega) (by omega) ?_ | refine ADraw.quiet follows_ok (by kernel_rfl) rfl ?_ | refine BSpl.decY (by first | assumption | omega) ?_ | refine BSpl.decN (by first | assumption | omega) ?_ | refine BSpl.dec (fun _ => ?_) (fun _ => ?_) | refine BSpl.yes (by assumption) ?_ | refine BSpl.no (by assumption) ?_ | refine BSpl.mk (fun _ => ?_) (fun _ => ?_))
   all_goals (conv => whnf)
   all_goals (clear hb)
   all_goals first
     | (rw [hyj (by generalize l.getD (j : Int).toNat default = x at *; simp [*])]; exact AEqI.mk (AEq.refl _))
     | exact ⟨⟨j + 1,hjl,hnj (by generalize l.getD (j : Int).toNat default = x at *; simp [*])⟩,_,LeR.mk' [] _ _ _ rfl ⟨AEq.refl _,AEq.refl _,AEq.refl _,AEq.refl _,AEq.refl _,AEq.int rfl,trivial⟩ ⟨⟨_,rfl,OEq.refl _⟩,trivial⟩ rfl,Nat.sub_succ_lt_self _ _ hjl⟩
 · rw [hno fun i hi => hall i (by omega)]
   dsimp only [Ev.cs]
   repeat' ((conv => whnf); first | refine Spl.yes (by first | assumption | omega) ?_ | refine Spl.no (by first | assumption | omega) ?_ | refine Wr.i64 (by omega) (by omega) ?_ | refine Still.mk rfl rfl ?_ | refine InB.mk (inB_mk (by omega) (by omega)) ?_ | refine Req.mk (by omega) ?_ | refine Req.mk ⟨by first | omega | (dsimp only; omega),by first | omega | (dsimp only; omega)⟩ ?_ | refine ARet.hdI ?_ | refine Spl.mk (fun _ => ?_) (fun _ => ?_) | refine InA.mk (inB_mk (by omega) (by omega)) ?_ | refine Wr.b64 ?_ | refine Wr.bu64 ?_ | refine Wr.bu32 ?_ | refine Wr.bu8 ?_ | refine Wr.u8 (by omega) (by omega) ?_ | refine Wr.u64 (by omega) (by omega) ?_ | refine Wr.u32 (by omega) (by omega) ?_ | refine Dv.pos (by omega) (by omega) ?_ | refine Rm.pos (by omega) (by omega) ?_ | refine ADraw.quiet follows_ok (by kernel_rfl) rfl ?_ | refine BSpl.decY (by first | assumption | omega) ?_ | refine BSpl.decN (by first | assumption | omega) ?_ | refine BSpl.dec (fun _ => ?_) (fun _ => ?_) | refine BSpl.yes (by assumption) ?_ | refine BSpl.no (by assumption) ?_ | refine BSpl.mk (fun _ => ?_) (fun _ => ?_))
   conv => whnf
   exact AEqI.mk (AEq.refl _)
theorem abv_K (l : List Ev) (e : Ev) (k : Int) : abvB l e k false false = aboveB k sameK l e := any_congr fun x _ => by
 unfold abvP sameK
 cases belowB e x <;> simp
theorem abv_L (l : List Ev) (e : Ev) (k : Int) : abvB l e k true false = aboveB k sameL l e := any_congr fun x _ => by
 unfold abvP sameL sameK
 cases belowB e x <;> simp
theorem abv_V (l : List Ev) (e : Ev) (k : Int) : abvB l e k true true = aboveB k sameV l e := any_congr fun x _ => by
 unfold abvP sameV sameL sameK
 cases belowB e x <;> simp [Bool.and_assoc]
theorem livesR_spec (l : List Ev) (e : Ev) (hl : l.length ≤ 1000000000) : ASpec Tryz.prog 39 [.sl 12 l.length true (evF l),e.av] (.v (.bool (livesB l e))) [] := by
 have h := aboveR_spec l e 2 false false hl
 rw [abv_K] at h
 have hL : livesB l e = (decide (e.k = 1) && !aboveB 2 sameK l e) := rfl
 rw [hL]
 generalize aboveB 2 sameK l e = q at h
 dsimp only [Ev.av,Ev.cs] at h ⊢
 refine aspec_of lay_ok 27 Tryz.func39 rfl rfl rfl ?_
 repeat' ((conv => whnf); first | refine Spl.yes (by first | assumption | omega) ?_ | refine Spl.no (by first | assumption | omega) ?_ | refine Wr.i64 (by omega) (by omega) ?_ | refine Still.mk rfl rfl ?_ | refine InB.mk (inB_mk (by omega) (by omega)) ?_ | refine Req.mk (by omega) ?_ | refine Req.mk ⟨by first | omega | (dsimp only; omega),by first | omega | (dsimp only; omega)⟩ ?_ | refine ACall.plain _ _ (h) (SubL.cons (.eq _) (SubL.cons (.eq _) (SubL.cons (.eq _) (SubL.cons (.eq _) (SubL.cons (.eq _) .nil))))) rfl ?_ | refine ARet.hdI ?_ | refine Spl.mk (fun _ => ?_) (fun _ => ?_) | refine InA.mk (inB_mk (by omega) (by omega)) ?_ | refine Wr.b64 ?_ | refine Wr.bu64 ?_ | refine Wr.bu32 ?_ | refine Wr.bu8 ?_ | refine Wr.u8 (by omega) (by omega) ?_ | refine Wr.u64 (by omega) (by omega) ?_ | refine Wr.u32 (by omega) (by omega) ?_ | refine Dv.pos (by omega) (by omega) ?_ | refine Rm.pos (by omega) (by omega) ?_ | refine ADraw.quiet follows_ok (by kernel_rfl) rfl ?_ | refine BSpl.decY (by first | assumption | omega) ?_ | refine BSpl.decN (by first | assumption | omega) ?_ | refine BSpl.dec (fun _ => ?_) (fun _ => ?_) | refine BSpl.yes (by assumption) ?_ | refine BSpl.no (by assumption) ?_ | refine BSpl.mk (fun _ => ?_) (fun _ => ?_))
 all_goals (conv => whnf)
 all_goals (refine AEqI.mk (AEq.of ?_))
 all_goals simp [*]
end Go.Proofs.YtkkpfjifkjbndaaGreat

/-
 The reference of layer 9: what counts; which stamp is the last; a row of texts with one more.
-/
namespace Go.Proofs.YtkkpfjifkjbndaaGreat
open Go.RowKit
def rcntP (l : List Ev) (e x : Ev) : Bool := livesB l x && (decide (x.key = e.key) && belowB x e)
def countR (l : List Ev) (e : Ev) : Bool := (decide (e.k = 3) || (decide (e.k = 4) && !aboveB 5 sameV l e)) && l.any (rcntP l e)
theorem countR_eq (l : List Ev) (e : Ev) : countR l e = countB l (livingB l) e := by
 unfold countR countB
 congr 1
 unfold underB livingB
 rw [List.any_filter]
 refine any_congr fun x _ => ?_
 unfold rcntP sameK
 cases hx : livesB l x with
 | false => rfl
 | true =>
  have : x.k = 1 := by
   simp only [livesB,Bool.and_eq_true,decide_eq_true_eq] at hx
   exact hx.1
  simp [this]
set_option maxHeartbeats 8000000 in
set_option maxRecDepth 100000 in
theorem countsR_spec (l : List Ev) (e : Ev) (hl : l.length ≤ 1000000000) :
  ASpec Tryz.prog 41 [.sl 12 l.length true (evF l),e.av] (.v (.bool (countB l (livingB l) e))) [] := by
 rw [← countR_eq]
 have hyes : ∀ j,j < l.length → rcntP l e (l.getD j default) = true → l.any (rcntP l e) = true := fun j hj h1 => any_get hj h1
 have hno : (∀ i,i < l.length → rcntP l e (l.getD i default) = false) → l.any (rcntP l e) = false := fun h => any_none h
 have hR : countR l e = ((decide (e.k = 3) || (decide (e.k = 4) && !aboveB 5 sameV l e)) && l.any (rcntP l e)) := rfl
 rw [hR]
 generalize l.any (rcntP l e) = R at hyes hno
 have ha := aboveR_spec l e 5 true true hl
 rw [abv_V] at ha
 generalize aboveB 5 sameV l e = q at ha
 dsimp only [Ev.av,Ev.cs] at ha ⊢
 refine aspec_of lay_ok 9007199326060667 Tryz.func41 rfl rfl rfl ?_
 repeat' ((conv => whnf); first | refine Spl.yes (by first | assumption | omega) ?_ | refine Spl.no (by first | assumption | omega) ?_ | refine Wr.i64 (by omega) (by omega) ?_ | refine Still.mk rfl rfl ?_ | refine InB.mk (inB_mk (by omega) (by omega)) ?_ | refine Req.mk (by omega) ?_ | refine Req.mk ⟨by first | omega | (dsimp only; omega),by first | omega | (dsimp only; omega)⟩ ?_ | refine ACall.plain _ _ (ha) (SubL.cons (.eq _) (SubL.cons (.eq _) (SubL.cons (.eq _) (SubL.cons (.eq _) (SubL.cons (.eq _) .nil))))) rfl ?_ | refine ARet.hdI ?_ | refine Spl.mk (fun _ => ?_) (fun _ => ?_) | refine InA.mk (inB_mk (by omega) (by omega)) ?_ | refine Wr.b64 ?_ | refine Wr.bu64 ?_ | refine Wr.bu32 ?_ | refine Wr.bu8 ?_ | refine Wr.u8 (by omega) (by omega) ?_ | refine Wr.u64 (by omega) (by omega) ?_ | refine Wr.u32 (by omega) (by omega) ?_ | refine Dv.pos (by omega) (by omega) ?_ | refine Rm.pos (by omega) (by omega) ?_ | refine ADraw.quiet follows_ok (by kernel_rfl) rfl ?_ | refine ADraw.sched (id := 9) lay_ok (awp_snd lay_ok _) [(0,none),(1,none),(2,none),(3,none),(4,none),(5,none),(6,none),(7,none),(8,none),(9,none),(10,none),(11,none),(12,none),(13,none),(14,none),(15,none),(16,none),(17,some [9,8,6,16,15]),(18,none)] [(9,[8,6]),(10,[9,8,6]),(11,[9,8,6]),(12,[9,8,6]),(13,[9,8,6]),(14,[9,8,6]),(15,[9,8,6]),(16,[9,8,6]),(17,[9,8,6,16,15]),(18,[9,8,6,16,15])] follows_ok (by kernel_rfl) ?_ | refine BSpl.decY (by first | assumption | omega) ?_ | refine BSpl.decN (by first | assumption | omega) ?_ | refine BSpl.dec (fun _ => ?_) (fun _ => ?_) | refine BSpl.yes (by assumption) ?_ | refine BSpl.no (by assumption) ?_ | refine BSpl.mk (fun _ => ?_) (fun _ => ?_))
 all_goals (conv => whnf)
 any_goals (refine AEqI.mk (AEq.of ?_); simp [*]; done)
 all_goals
  have hE : ((decide (e.k = 3) || (decide (e.k = 4) && !q)) && R) = R := by simp [*]
  rw [hE]
  clear hE ha
  refine ALoop.mk { j : Nat // j ≤ l.length ∧ ∀ i,i < j → rcntP l e (l.getD i default) = false } (fun j => ⟨[(0, .sl 12 l.length true (evF l)),(3, .box 0 0),(5, .v (.int .i64 (j.1 : Int)))],
    [(0, .box 36 e.cs)],[],1⟩) (fun j => l.length - j.1) ⟨0,Nat.zero_le _,fun i h => absurd h (Nat.not_lt_zero i)⟩ _
   (LeR.mk' [] _ _ _ rfl ⟨AEq.refl _,AEq.refl _,AEq.int rfl,trivial⟩ ⟨⟨_,rfl,OEq.refl _⟩,trivial⟩ rfl) ?_
  rintro ⟨j,hj,hall⟩
  dsimp only
  by_cases hjl : j < l.length
  · have hyj := hyes j hjl
    have hnj : rcntP l e (l.getD j default) = false → ∀ i,i < j + 1 → rcntP l e (l.getD i default) = false := by
     intro h i hi
     rcases Nat.lt_or_ge i j with h' | h'
     · exact hall i h'
     · obtain rfl : i = j := by omega
       exact h
    have hb := below6_spec (l.getD (j : Int).toNat default) e
    have hv := livesR_spec l (l.getD (j : Int).toNat default) hl
    have hw : rcntP l e (l.getD j default) = (livesB l (l.getD (j : Int).toNat default) && (decide ((l.getD (j : Int).toNat default).key = e.key) && belowB (l.getD (j : Int).toNat default) e)) := rfl
    rw [hw] at hyj hnj
    generalize belowB (l.getD (j : Int).toNat default) e = q1 at hb hyj hnj
    generalize livesB l (l.getD (j : Int).toNat default) = q2 at hv hyj hnj
    clear hw hyes hno hall
    dsimp only [Ev.av,Ev.cs] at hb hv ⊢
    repeat' ((conv => whnf); first | refine Spl.yes (by first | assumption | omega) ?_ | refine Spl.no (by first | assumption | omega) ?_ | refine Wr.i64 (by omega) (by omega) ?_ | refine Still.mk rfl rfl ?_ | refine InB.mk (inB_mk (by omega) (by omega)) ?_ | refine Req.mk (by omega) ?_ | refine Req.mk ⟨by first | omega | (dsimp only; omega),by first | omega | (dsimp only; omega)⟩ ?_ | refine ACall.plain _ _ (hb) (SubL.cons (.eq _) (SubL.cons (.eq _) .nil)) rfl ?_ | refine ACall.plain _ _ (hv) (SubL.cons (.eq _) (SubL.cons (.eq _) .nil)) rfl ?_ | refine ARet.hdI ?_ | refine Spl.mk (fun _ => ?_) (fun _ => ?_) | refine InA.mk (inB_mk (by omega) (by omega)) ?_ | refine Wr.b64 ?_ | refine Wr.bu64 ?_ | refine Wr.bu32 ?_ | refine Wr.bu8 ?_ | refine Wr.u8 (by omega) (by omega) ?_ | refine Wr.u64 (by omega) (by omega) ?_ | refine Wr.u32 (by omega) (by omega) ?_ | refine Dv.pos (by omega) (by omega) ?_ | refine Rm.pos (by omega) (by omega) ?_ | refine ADraw.quiet follows_ok (by kernel_rfl) rfl ?_ | refine ADraw.sched (id := 9) lay_ok (awp_snd lay_ok _) [(0,none),(1,none),(2,none),(3,none),(4,none),(5,none),(6,none),(7,none),(8,none),(9,none),(10,none),(11,none),(12,none),(13,none),(14,none),(15,none),(16,none),(17,some [9,8,6,16,15]),(18,none)] [(9,[8,6]),(10,[9,8,6]),(11,[9,8,6]),(12,[9,8,6]),(13,[9,8,6]),(14,[9,8,6]),(15,[9,8,6]),(16,[9,8,6]),(17,[9,8,6,16,15]),(18,[9,8,6,16,15])] follows_ok (by kernel_rfl) ?_ | refine BSpl.decY (by first | assumption | omega) ?_ | refine BSpl.decN (by first | assumption | omega) ?_ | refine BSpl.dec (fun _ => ?_) (fun _ => ?_) | refine BSpl.yes (by assumption) ?_ | refine BSpl.no (by assumption) ?_ | refine BSpl.mk (fun _ => ?_) (fun _ => ?_))
    all_goals (conv => whnf)
    all_goals (clear hb hv)
    all_goals first
      | (rw [hyj (by generalize l.getD (j : Int).toNat default = x at *; simp [*])]; exact AEqI.mk (AEq.refl _))
      | exact ⟨⟨j + 1,hjl,hnj (by generalize l.getD (j : Int).toNat default = x at *; simp [*])⟩,_,LeR.mk' [] _ _ _ rfl ⟨AEq.refl _,AEq.refl _,AEq.int rfl,trivial⟩ ⟨⟨_,rfl,OEq.refl _⟩,trivial⟩ rfl,Nat.sub_succ_lt_self _ _ hjl⟩
  · rw [hno fun i hi => hall i (by omega)]
    dsimp only [Ev.cs]
    repeat' ((conv => whnf); first | refine Spl.yes (by first | assumption | omega) ?_ | refine Spl.no (by first | assumption | omega) ?_ | refine Wr.i64 (by omega) (by omega) ?_ | refine Still.mk rfl rfl ?_ | refine InB.mk (inB_mk (by omega) (by omega)) ?_ | refine Req.mk (by omega) ?_ | refine Req.mk ⟨by first | omega | (dsimp only; omega),by first | omega | (dsimp only; omega)⟩ ?_ | refine ARet.hdI ?_ | refine Spl.mk (fun _ => ?_) (fun _ => ?_) | refine InA.mk (inB_mk (by omega) (by omega)) ?_ | refine Wr.b64 ?_ | refine Wr.bu64 ?_ | refine Wr.bu32 ?_ | refine Wr.bu8 ?_ | refine Wr.u8 (by omega) (by omega) ?_ | refine Wr.u64 (by omega) (by omega) ?_ | refine Wr.u32 (by omega) (by omega) ?_ | refine Dv.pos (by omega) (by omega) ?_ | refine Rm.pos (by omega) (by omega) ?_ | refine ADraw.quiet follows_ok (by kernel_rfl) rfl ?_ | refine ADraw.sched (id := 9) lay_ok (awp_snd lay_ok _) [(0,none),(1,none),(2,none),(3,none),(4,none),(5,none),(6,none),(7,none),(8,none),(9,none),(10,none),(11,none),(12,none),(13,none),(14,none),(15,none),(16,none),(17,some [9,8,6,16,15]),(18,none)] [(9,[8,6]),(10,[9,8,6]),(11,[9,8,6]),(12,[9,8,6]),(13,[9,8,6]),(14,[9,8,6]),(15,[9,8,6]),(16,[9,8,6]),(17,[9,8,6,16,15]),(18,[9,8,6,16,15])] follows_ok (by kernel_rfl) ?_ | refine BSpl.decY (by first | assumption | omega) ?_ | refine BSpl.decN (by first | assumption | omega) ?_ | refine BSpl.dec (fun _ => ?_) (fun _ => ?_) | refine BSpl.yes (by assumption) ?_ | refine BSpl.no (by assumption) ?_ | refine BSpl.mk (fun _ => ?_) (fun _ => ?_))
    conv => whnf
    exact AEqI.mk (AEq.refl _)
theorem lessR_spec (a b : St) : ASpec Tryz.prog 72 [.agg (stC a), .agg (stC b)] (.v (.bool (lessB a b))) [] := by
 dsimp only [stC]
 refine aspec_of lay_ok 31 Tryz.func72 rfl rfl rfl ?_
 repeat' ((conv => whnf); first | refine Spl.yes (by first | assumption | omega) ?_ | refine Spl.no (by first | assumption | omega) ?_ | refine Wr.i64 (by omega) (by omega) ?_ | refine Still.mk rfl rfl ?_ | refine InB.mk (inB_mk (by omega) (by omega)) ?_ | refine Req.mk (by omega) ?_ | refine Req.mk ⟨by first | omega | (dsimp only; omega),by first | omega | (dsimp only; omega)⟩ ?_ | refine ARet.hdI ?_ | refine Spl.mk (fun _ => ?_) (fun _ => ?_) | refine InA.mk (inB_mk (by omega) (by omega)) ?_ | refine Wr.b64 ?_ | refine Wr.bu64 ?_ | refine Wr.bu32 ?_ | refine Wr.bu8 ?_ | refine Wr.u8 (by omega) (by omega) ?_ | refine Wr.u64 (by omega) (by omega) ?_ | refine Wr.u32 (by omega) (by omega) ?_ | refine Dv.pos (by omega) (by omega) ?_ | refine Rm.pos (by omega) (by omega) ?_ | refine ADraw.quiet follows_ok (by kernel_rfl) rfl ?_ | refine BSpl.decY (by first | assumption | omega) ?_ | refine BSpl.decN (by first | assumption | omega) ?_ | refine BSpl.dec (fun _ => ?_) (fun _ => ?_) | refine BSpl.yes (by assumption) ?_ | refine BSpl.no (by assumption) ?_ | refine BSpl.mk (fun _ => ?_) (fun _ => ?_))
 all_goals (conv => whnf)
 all_goals (refine AEqI.mk (AEq.of ?_))
 all_goals (unfold lessB; split <;> (congr 2; simp; omega))
end Go.Proofs.YtkkpfjifkjbndaaGreat
