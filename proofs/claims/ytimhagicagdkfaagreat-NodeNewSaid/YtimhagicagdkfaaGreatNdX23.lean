/-
  Contracts of the walk: LvW, LvY, MkM, LvZ, NdG, NdH, NdK, NdI, NdJ, RcX, NdM.
-/
import Derived.Test.YtimhagicagdkfaaGreatNdX18
import Derived.Test.YtimhagicagdkfaaGreatNdX22
import Derived.Test.YtimhagicagdkfaaGreatNdX17
import Derived.Test.YtimhagicagdkfaaGreatNdX10
import Derived.Test.YtimhagicagdkfaaGreatNdX11
import Derived.Test.YtimhagicagdkfaaGreatNdX15
import Derived.WalkMore
import Derived.Test.YtimhagicagdkfaaGreatNdX12
import Derived.Test.YtimhagicagdkfaaGreatNdX14
/-
 live.State's List and Get,of a book told as a whole.
-/
namespace Go.Proofs.YtimhagicagdkfaaGreat
open Go.RowKit
theorem of_nil0 : ofB [] = [] := by
 rw [of_same (l := []) (key := ⟨#[]⟩) (fun x hx => by cases hx)]
 rfl
def lOf (K : ByteArray → List Ev) (ss : List Str) : List Cont := ss.flatMap fun k => ofB (K (keyS k))
theorem lOf_snoc {K : ByteArray → List Ev} {ss : List Str} {i : Nat} (h : i < ss.length) : lOf K (ss.take (i + 1)) = lOf K (ss.take i) ++ ofB (K (keyS (ss.getD i []))) := by
 unfold lOf
 rw [List.take_add_one,List.flatMap_append,List.getD,List.getElem?_eq_getElem h]
 simp
theorem lOf_le {K : ByteArray → List Ev} {ss : List Str} (i : Nat) : (lOf K (ss.take i)).length ≤ (lOf K ss).length := by
 have : lOf K ss = lOf K (ss.take i) ++ lOf K (ss.drop i) := by
  unfold lOf
  rw [← List.flatMap_append,List.take_append_drop]
 rw [this,List.length_append]
 omega
inductive LstX (K : ByteArray → List Ev) (m : Nat) (ss : List Str) (kv0 : List (ByteArray × List Ev)) : Type where
  | key (i : Nat) (k : ByteArray) (kv : List (ByteArray × List Ev)) (hi : i < ss.length) (hk : k = keyS (ss.getD i [])) (h : FOK K m k (ss.map keyS) kv) (hp : kv0.Perm ((k,K k) :: kv))
  | done
def LstX.n {K : ByteArray → List Ev} {m : Nat} {ss : List Str} {kv0 : List (ByteArray × List Ev)} : LstX K m ss kv0 → Nat
  | .key i .. => ss.length - i
  | .done => 0
def lstL (ss : List Str) (i : Nat) : List (Nat × AV) := [(0, .box 0 0),(3, .own 90),(11, .own 11),(12, .v (.int .i64 (ss.length : Int))),(13, .v (.int .i64 (i : Int)))]
def lstH (K : ByteArray → List Ev) (ss : List Str) (i : Nat) : List (Nat × AO) := [(90, .row 76 7 (lOf K (ss.take i)).length false (coF (lOf K (ss.take i)))),(11, .row 9 1 ss.length true (strF ss))]
def lstS (K : ByteArray → List Ev) (n : Int) (m : Nat) (ss : List Str) (kv0 : List (ByteArray × List Ev)) : LstX K m ss kv0 → AS
  | .key i k kv _ _ _ _ => ⟨lstL ss i,(0,stB 1 (.own 1) n) :: (1, .mp mapT [(k,some 2)] (hidE kv)) :: (2,evR (K k)) :: lstH K ss i,[[(0, .box 0 0),(1, .own 1)]],91⟩
  | .done => ⟨lstL ss ss.length,(0,stB 1 (.own 1) n) :: (1, .mp mapT [] (hidE kv0)) :: lstH K ss ss.length,[[(0, .box 0 0),(1, .own 1)]],91⟩
theorem kv_has {K : ByteArray → List Ev} {m : Nat} {kv : List (ByteArray × List Ev)} (h : KV K m kv) {q : ByteArray} (hq : K q ≠ []) : ∃ p ∈ hidE kv,p.1 = q ∧ 0 < p.2.n := by
 by_cases hm : q ∈ kv.map (·.1)
 · obtain ⟨pre,l,post,rfl,hn⟩ := kvGet_mem hm
   have : K q = l := by rw [h.eq,kvGet_app hn]; simp [kvGet]
   refine ⟨(q,rwE l),by simp [hidE],rfl,?_⟩
   rw [this] at hq
   exact List.length_pos_iff.2 hq
 · exact absurd (by rw [h.eq,kvGet_none hm]) hq
set_option maxHeartbeats 8000000 in
set_option maxRecDepth 100000 in
theorem list_m (K : ByteArray → List Ev) (n : Int) (m : Nat) (O : List Cont) (hK : ∀ k,(K k).length ≤ 1000000000) (hm : m ≤ 1000000000) (hOl : O.length ≤ 1000000000)
  (hO : ∀ ss : List Str,ss.Pairwise (· < ·) → (∀ k,K (keyS k) ≠ [] → k ∈ ss) → lOf K ss = O) :
  MSpec Tryz.prog 50 [(0, .obs (liveO K n m))] [.box 0 0] (.own 3) [(0, .obs (liveO K n m)),(3, .row 76 7 O.length false (coF O))] := by
 refine MSpec.opn (ho := [(3, .row 76 7 O.length false (coF O))]) ⟨_,_,Tryz.func50,rfl,rfl⟩ (Opens.pack (liveHs K n m)) (fun y => ⟨_,liveHs_closes K n m y,?_⟩) rfl
 cases y with
 | new h =>
   refine ⟨rfl,rfl,?_⟩
   have hO0 : O = [] := (hO [] List.Pairwise.nil fun k hk => absurd (h _) hk).symm
   subst hO0
   simp only [liveHs,List.cons_append,List.nil_append] 
   dsimp only [stB]
   refine K1.M 0x782d Tryz.func50 10 ?_
   repeat' ((conv => whnf); first | refine K1.w ?_ | refine K1.u ?_ | refine K1.I 0x7 Tryz.func90 ?_ | refine ACall.sorted0 11 10 rfl ?_ | refine K1.z ?_ | refine K1.y (fun _ => ?_) (fun _ => ?_) | fail)
   conv => whnf
   refine ALoop.nil 3 90 76 7 (coF []) rfl (by omega) ?_
   conv => whnf
   refine ALoop.rounds 1 ?_
   repeat' ((conv => whnf); first | refine K1.w ?_ | refine K1.u ?_ | refine K1.z ?_ | refine K1.y (fun _ => ?_) (fun _ => ?_) | fail)
   conv => whnf
   exact ⟨[(90,3)],rfl,rfl,⟨⟨_,rfl,OEq.refl _⟩,⟨_,rfl,OEq.rowF rfl (fun i hi => absurd hi (Nat.not_lt_zero i))⟩,trivial⟩,rfl,rfl,AEq.refl _⟩
 | old kv h =>
   refine ⟨rfl,rfl,?_⟩
   have hky : ∀ p ∈ hidE kv,p.1.size ≤ 9223372036854775807 := fun p hp => by
    obtain ⟨q,hq,rfl⟩ := List.mem_map.1 hp
    exact h.ky q hq
   have hln : (hidE kv).length ≤ 1000000000 := by
    unfold hidE
    rw [List.length_map]
    exact Nat.le_trans h.ln hm
   simp only [liveHs,List.cons_append,List.nil_append] 
   dsimp only [stB]
   refine K1.M 0x782d Tryz.func50 10 ?_
   repeat' ((conv => whnf); first | refine K1.w ?_ | refine K1.u ?_ | refine K1.I 0x7 Tryz.func90 ?_ | refine ACall.sorted 11 10 1 rfl rfl hky hln (fun ss hss => ?_) | refine K1.z ?_ | refine K1.y (fun _ => ?_) (fun _ => ?_) | fail)
   have hks : ∀ x ∈ ss.map keyS,x ∈ kv.map (·.1) := fun x hx => by
    obtain ⟨k,hk,rfl⟩ := List.mem_map.1 hx
    obtain ⟨p,hp,e⟩ := hss.mem k hk
    rw [← hidE_keys]
    exact List.mem_map.2 ⟨p,hp,by rw [← e]; exact strL_inj rfl⟩
   have hO' : lOf K ss = O := hO ss hss.up fun k hk => by
    obtain ⟨p,hp,e,hpos⟩ := kv_has h hk
    have := hss.all p hp hpos
    rwa [e,strL_keyS] at this
   have hsl : ss.length ≤ 1000000000 := Nat.le_trans hss.len hln
   have hle := fun i => lOf_le (K := K) (ss := ss) i
   rw [hO'] at hle
   conv => whnf
   refine ALoop.nil 3 90 76 7 (coF []) rfl (by omega) ?_
   conv => whnf
   refine ALoop.imp ⟨lstL ss 0,(0,stB 1 (.own 1) n) :: (1, .mp mapT [] (hidE kv)) :: lstH K ss 0,[[(0, .box 0 0),(1, .own 1)]],91⟩
    (Imp.leR (σ := []) ?_) ?_
   · dsimp only [lstL,lstH]
     exact LeR.mk' [] _ _ _ rfl ⟨AEq.refl _,AEq.refl _,AEq.refl _,AEq.int rfl,AEq.int rfl,trivial⟩ ⟨⟨_,rfl,OEq.refl _⟩,⟨_,rfl,OEq.refl _⟩,⟨_,rfl,OEq.rowF rfl (fun i hi => absurd hi (Nat.not_lt_zero i))⟩,⟨_,rfl,OEq.refl _⟩,trivial⟩ rfl
   have hst : ∃ x0 : LstX K m ss kv,Imp ⟨lstL ss 0,(0,stB 1 (.own 1) n) :: (1, .mp mapT [] (hidE kv)) :: lstH K ss 0,[[(0, .box 0 0),(1, .own 1)]],91⟩ (lstS K n m ss kv x0) := by
    by_cases hz : 0 < ss.length
    · obtain ⟨kv',hf,hpp,hI⟩ := imp_first (sl := lstL ss 0) (back := [[(0, .box 0 0),(1, .own 1)]]) (b := 91) (n := n) (H := lstH K ss 0) h hks (k' := keyS (ss.getD 0 [])) (List.mem_map.2 ⟨_,by rw [List.getD,List.getElem?_eq_getElem hz]; exact List.getElem_mem hz,rfl⟩) rfl rfl rfl
      exact ⟨.key 0 _ kv' hz rfl hf hpp,hI⟩
    · have hn : ss = [] := List.eq_nil_of_length_eq_zero (by omega)
      subst hn
      exact ⟨.done,Imp.refl _⟩
   obtain ⟨x0,hI0⟩ := hst
   refine ALoop.mkI (LstX K m ss kv) (lstS K n m ss kv) LstX.n x0 hI0 ?_
   clear x0 hI0
   intro x
   cases x with
   | done =>
     dsimp only [lstS,lstL,lstH]
     rw [List.take_of_length_le (Nat.le_refl _),hO']
     repeat' ((conv => whnf); first | refine K1.w ?_ | refine K1.u ?_ | refine K1.z ?_ | refine K1.y (fun _ => ?_) (fun _ => ?_) | fail)
     conv => whnf
     exact ⟨[(1,1),(90,3)],rfl,rfl,⟨⟨_,rfl,OEq.refl _⟩,⟨_,rfl,OEq.refl _⟩,⟨_,rfl,OEq.refl _⟩,trivial⟩,rfl,rfl,AEq.refl _⟩
   | key i k kv' hi hk hf hp =>
     have hof := of_m (K k) (hK k)
     have hsn := lOf_snoc (K := K) hi
     rw [← hk] at hsn
     have hb : (lOf K (ss.take i)).length + (ofB (K k)).length ≤ 1000000000 := by
      have := hle (i + 1)
      rw [hsn,List.length_append] at this
      omega
     have hJ : ∃ y : LstX K m ss kv,Imp ⟨lstL ss (i + 1),(0,stB 1 (.own 1) n) :: (1, .mp mapT [(k,some 2)] (hidE kv')) :: (2,evR (K k)) :: lstH K ss (i + 1),[[(0, .box 0 0),(1, .own 1)]],91⟩ (lstS K n m ss kv y) ∧ y.n < ss.length - i := by
      by_cases hl : i + 1 < ss.length
      · obtain ⟨kv2,hf2,hpp,hI⟩ := imp_next (sl := lstL ss (i + 1)) (back := [[(0, .box 0 0),(1, .own 1)]]) (b := 91) (n := n) (H := lstH K ss (i + 1)) hf (k' := keyS (ss.getD (i + 1) [])) (List.mem_map.2 ⟨_,by rw [List.getD,List.getElem?_eq_getElem hl]; exact List.getElem_mem hl,rfl⟩) rfl rfl rfl
        exact ⟨.key (i + 1) _ kv2 hl rfl hf2 (hp.trans hpp),hI,by show ss.length - (i + 1) < _; omega⟩
      · have e : ss.length = i + 1 := by omega
        refine ⟨.done,?_,by show 0 < _; omega⟩
        show Imp _ ⟨lstL ss ss.length,(0,stB 1 (.own 1) n) :: (1, .mp mapT [] (hidE kv)) :: lstH K ss ss.length,[[(0, .box 0 0),(1, .own 1)]],91⟩
        rw [e]
        exact (imp_close rfl rfl rfl).trans (imp_perm hp.symm rfl rfl rfl)
     obtain ⟨y,hI,hy⟩ := hJ
     dsimp only [lstS,lstL,lstH,stB,evR]
     repeat' ((conv => whnf); first | refine K1.w ?_ | refine K1.u ?_ | refine K1.C 1 [(0,_)] (hof) rfl ?_ | refine ZN.mk zn_ev ?_ | refine MpAt.mk 0 2 _ rfl (by rw [hk]; rfl) ?_ | refine K1.z ?_ | refine K1.y (fun _ => ?_) (fun _ => ?_) | fail)
     rotate_left
     · exact absurd (show Nat.ble _ _ = false by assumption) (by rw [Bool.not_eq_false,Nat.ble_eq]; omega)
     conv => whnf
     refine ⟨y,Imp.trans (Imp.leR (σ := [(92,90)]) ?_) hI,hy⟩
     dsimp only [lstL,lstH]
     refine LeR.mk' [(92,90)] _ _ _ rfl ⟨AEq.refl _,AEq.refl _,AEq.refl _,AEq.refl _,AEq.int rfl,trivial⟩ ⟨⟨_,rfl,OEq.refl _⟩,⟨_,rfl,OEq.refl _⟩,⟨_,rfl,OEq.refl _⟩,⟨_,rfl,OEq.row ?_ (fun m hm => ?_)⟩,⟨_,rfl,OEq.refl _⟩,trivial⟩ rfl
     · show _ = (lOf K (ss.take (i + 1))).length
       rw [hsn,List.length_append]
     · show _ = coF (lOf K (ss.take (i + 1))) m
       rw [hsn]
       exact els_app (c := Cont.cs) rfl m
end Go.Proofs.YtimhagicagdkfaaGreat

/-
 A book that is kept,step by step,in plain words: what is kept of each key,and how much.
-/
namespace Go.Proofs.YtimhagicagdkfaaGreat
open Go.RowKit
theorem upd_kept {P : List Ev} {e : Ev} (t : Nxt (onP (eqK e.key) P) e) : updK (keptK P) e = keptK (P ++ [e]) := by
 funext q
 by_cases h : q = e.key
 · subst h
   rw [updK_key,keptK_same t]
 · rw [updK_ne h,keptK_other h]
theorem sum_upd {f g : Str → Nat} {k0 : Str} : ∀ {ks : List Str},ks.Nodup → k0 ∈ ks → (∀ k,k ≠ k0 → g k = f k) → (ks.map g).sum + f k0 = (ks.map f).sum + g k0
  | [],_,h,_ => by cases h
  | k :: ks,hn,hk,h => by
    obtain ⟨h1,h2⟩ := List.nodup_cons.1 hn
    simp only [List.map_cons,List.sum_cons]
    by_cases e : k = k0
    · subst e
      have : ks.map g = ks.map f := List.map_congr_left fun x hx => h x fun e => h1 (e ▸ hx)
      rw [this]
      omega
    · have := sum_upd h2 ((List.mem_cons.1 hk).resolve_left fun h => e h.symm) h
      have := h k e
      omega
theorem size_step {P : List Ev} {e : Ev} (t : Nxt (onP (eqK e.key) P) e) : sizeK (keptK P) (sizeB P) e = sizeB (P ++ [e]) := by
 have hu := uniq_props ((P ++ [e]).map fun x : Ev => strL x.key)
 generalize uniq ((P ++ [e]).map fun x : Ev => strL x.key) = ks at hu
 have hn : ks.Nodup := hu.1.imp fun h => by rintro rfl; exact List.lt_irrefl _ h
 have hm : ∀ x ∈ P ++ [e],strL x.key ∈ ks := fun x hx => (hu.2 _).2 (List.mem_map.2 ⟨x,hx,rfl⟩)
 have h1 := size_keys _ P hn fun x hx => hm x (List.mem_append_left _ (List.mem_filter.1 hx).1)
 have h2 := size_keys _ (P ++ [e]) hn fun x hx => hm x (List.mem_filter.1 hx).1
 have h3 := sum_upd (f := fun k => (keptK P (keyS k)).length) (g := fun k => (keptK (P ++ [e]) (keyS k)).length) (k0 := strL e.key) hn (hm e (by simp)) fun k hk => by
  rw [keptK_other fun h => hk (by rw [← h]; rfl)]
 unfold sizeK
 have hk : keyS (strL e.key) = e.key := strL_inj rfl
 rw [hk,keptK_same t] at h3
 omega
theorem kept_le (P : List Ev) (key : ByteArray) : (keptK P key).length ≤ P.length :=
 Nat.le_trans (List.length_filter_le _ _) (List.length_filter_le _ _)
theorem list_any {P : List Ev} (hp : ∀ key,Pst (onP (eqK key) P) key) {ss : List Str} (hs : ss.Pairwise (· < ·)) (hm : ∀ k,keptK P (keyS k) ≠ [] → k ∈ ss) : lOf (keptK P) ss = ofB P := by
 have h := list_kept hp (ks := ss.filter fun k => decide (keptK P (keyS k) ≠ [])) (hs.filter _) fun k => by
  rw [List.mem_filter]
  simp only [decide_eq_true_eq]
  exact ⟨fun h => h.2,fun h => ⟨hm k h,h⟩⟩
 rw [← h]
 unfold lOf
 have key : ∀ l : List Str,l.flatMap (fun k => ofB (keptK P (keyS k))) = (l.filter fun k => decide (keptK P (keyS k) ≠ [])).flatMap fun k => ofB (keptK P (keyS k)) := by
  intro l
  induction l with
  | nil => rfl
  | cons k l ih =>
    rw [List.flatMap_cons,List.filter_cons,ih]
    by_cases hk : keptK P (keyS k) = []
    · rw [if_neg (by simpa using hk),hk,of_nil0]
      rfl
    · rw [if_pos (by simpa using hk),List.flatMap_cons]
 exact key ss
end Go.Proofs.YtimhagicagdkfaaGreat

/-
 What kithref08.Make makes may be.
-/
namespace Go.Proofs.YtimhagicagdkfaaGreat
end Go.Proofs.YtimhagicagdkfaaGreat

/-
 live.State's methods,of the book of a past.
-/
namespace Go.Proofs.YtimhagicagdkfaaGreat
open Go.RowKit
theorem of_len (P : List Ev) : (ofB P).length ≤ P.length := by
 unfold ofB keysB
 rw [List.length_map]
 refine Nat.le_trans (compact_le _) ?_
 unfold sortL
 rw [List.length_mergeSort,List.length_map]
 exact List.length_filter_le ..
theorem size_len (P : List Ev) : sizeB P ≤ P.length := by
 rw [← size_kept]
 exact List.length_filter_le ..
def bookO (P : List Ev) (m : Nat) : OB := liveO (keptK P) (sizeB P : Int) m
theorem new_b : MSpec Tryz.prog 100 [] [] (.box 0 0) [(0, .obs (bookO [] 0))] := new_m
theorem apply_b {P : List Ev} {e : Ev} (t : Nxt (onP (eqK e.key) P) e) (hm : mayE e = 0) (hl : P.length ≤ 1000000) (m : Nat) :
  MSpec Tryz.prog 96 [(0, .obs (bookO P m))] [.box 0 0,e.av] (.v (.int .i64 0)) [(0, .obs (bookO (P ++ [e]) (m + 1)))] := by
 have h1 := kept_le P e.key
 have h2 := size_len P
 have := apply_m (keptK P) (sizeB P) m e hm (by omega) (by omega) (by omega)
 rw [upd_kept t,size_step t] at this
 exact this
theorem list_b {P : List Ev} (hp : ∀ key,Pst (onP (eqK key) P) key) (m : Nat) (hl : P.length ≤ 1000000) (hm : m ≤ 1000000) :
  MSpec Tryz.prog 50 [(0, .obs (bookO P m))] [.box 0 0] (.own 3) [(0, .obs (bookO P m)),(3, .row 76 7 (ofB P).length false (coF (ofB P)))] := by
 have h1 := of_len P
 exact list_m (keptK P) (sizeB P) m (ofB P) (fun k => by have := kept_le P k; omega) (by omega) (by omega) fun ss hs h => list_any hp hs h
end Go.Proofs.YtimhagicagdkfaaGreat

/-
 A replica (layer 19),told as a whole; New,List,Cut.
-/
namespace Go.Proofs.YtimhagicagdkfaaGreat
open Go.RowKit
theorem CSem.scope {P : Program} {L : Lay} (hL : LayOk P L) (lv : Nat) {N : Nat} {c : Code} {Q : AExit → AS → Prop} {st : AS} (h : awp P L 8 N lv c Q st) : CSem P N (.scope c) Q st :=
 ⟨fun _ _ E _ _ _ hq R => wp_scope_straight (awp_snd hL 8 _ _ lv _ c Q (Exit.noGoto E) ⟨hq.1,hq.2.1,hq.2.2⟩ R h)⟩
theorem CSem.label {P : Program} {N l : Nat} {Q : AExit → AS → Prop} {st : AS} (h : Q .normal st) : CSem P N (.label l) Q st :=
 ⟨fun _ _ _ _ _ _ hq R => wp_label (hq.1 _ _ _ _ R h)⟩
structure Nd where
 (c : Cfg) (r : Nat) (up : Bool) (d : Dk) (log : List Ev) (sent : Int) (ic : Clk) (held wait : List Ev)
def ndB (h : Nd) (dk lg bk ib ou : AV) : AO := .box 82 [.v (.int .i64 h.c.n), .v (.int .i64 h.c.w), .v (.int .i64 h.c.q), .v (.int .i64 h.c.h), .v (.int .i64 h.c.l), .v (.int .i64 h.c.p), .v (.int .i64 (h.r : Int)), .v (.bool h.up),dk,lg, .v (.int .i64 h.sent),bk,ib,ou]
def slE (l : List Ev) : AV := .sl 12 l.length true (evF l)
def ndH (h : Nd) (_ : Unit) : List (Nat × AO) := [(0,ndB h (.box 8 0) (.own 10) (.box 11 0) (.box 12 0) (.box 13 0)),(8,dkB (.own 9) h.d),(11, .obs (bookO h.log h.log.length)),(12,ibB h.c.h h.ic (slE h.held)),(13,ouB h.c.q h.c.w h.sent (.own 14)),(9,bRow h.d.bs),(10,evRow h.log),(14,evRow h.wait)]
def ndO (h : Nd) : OB := OB.pack (ndH h)
theorem nd_close (h : Nd) : Closes (ndH h ()) 0 (ndO h) := Closes.pack (ndH h) () rfl fun _ hok => boxO_one (hok _ List.mem_cons_self)
theorem nd_opn (σ : List (Nat × Nat)) {f : FuncId} {h h' : Nd} {avs : List AV} {r : AV} {ho : List (Nat × AO)} (hE : Enters Tryz.prog f) (hs : lookN σ 0 = some 0) (hk : keyH σ (ndH h' ()) = true) (hh : hasN 0 (renH σ (ndH h' ())) = true) (hm : MSpec Tryz.prog f (ndH h ()) avs r (renH σ (ndH h' ()) ++ ho))
  (hb : (avs.all (refQ1 (fun _ => false) 0) && refQ2 (fun i => hasN i ho) 0 r && closedH ho ho && !(hasN 0 ho)) = true) : MSpec Tryz.prog f [(0, .obs (ndO h))] avs r ((0, .obs (ndO h')) :: ho) :=
 MSpec.opn hE (Opens.pack (ndH h)) (fun _ => ⟨_,(nd_close h').ren σ hs hk,rfl,hh,hm⟩) hb
theorem nd_opn0 {f : FuncId} {h h' : Nd} {avs : List AV} {r : AV} {ho : List (Nat × AO)} (hE : Enters Tryz.prog f) (hm : MSpec Tryz.prog f (ndH h ()) avs r (ndH h' () ++ ho))
  (hb : (avs.all (refQ1 (fun _ => false) 0) && refQ2 (fun i => hasN i ho) 0 r && closedH ho ho && !(hasN 0 ho)) = true) : MSpec Tryz.prog f [(0, .obs (ndO h))] avs r ((0, .obs (ndO h')) :: ho) :=
 MSpec.opn hE (Opens.pack (ndH h)) (fun _ => ⟨_,nd_close h',rfl,rfl,hm⟩) hb
def nd0 (c : Cfg) (r : Nat) : Nd := ⟨c,r,true,dk0,[],0,clk0,[],[]⟩
theorem nd_nil (c : Cfg) (r : Nat) : Closes [(0,ndB (nd0 c r) (.box 8 0) nilS (.box 11 0) (.box 12 0) (.box 13 0)),(8,dkB nilS dk0),(11, .obs (bookO [] 0)),(12,ibB c.h clk0 (slE [])),(13,ouB c.q c.w 0 nilS)] 0 (ndO (nd0 c r)) := by
 unfold ndB dkB ouB nilS
 refine Closes.nilc (A := [_]) (id := 8) (B := [_,_,_]) (k := 0) (d := 9) (e := 5) (s := 1) (f := bytesF []) ?_ rfl (by decide) rfl
 refine Closes.nilc (A := []) (id := 0) (B := [_,_,_,_,_]) (k := 9) (d := 10) (e := 42) (s := 12) (f := evF []) ?_ rfl (by decide) rfl
 refine Closes.nilc (A := [_,_,_,_]) (id := 13) (B := [_,_]) (k := 3) (d := 14) (e := 42) (s := 12) (f := evF []) ?_ rfl (by decide) rfl
 exact nd_close (nd0 c r)
theorem nd_new_no (c : Cfg) (r : Int) (h : mayC c = false ∨ r < 0 ∨ c.n ≤ r) : ASpec Tryz.prog 9 [c.av, .v (.int .i64 r)] (.tup [.v (.pointer none), .v (.int .i64 1)]) [] := by
 have hm := mayC_spec c
 obtain ⟨n,w,q,hh,l,p⟩ := c
 dsimp only [Cfg.av,Cfg.cs] at hm h ⊢
 cases hq : mayC ⟨n,w,q,hh,l,p⟩ with
 | false =>
   rw [hq] at hm
   refine K1.E 0x80077 Tryz.func9 ?_
   repeat' ((conv => whnf); first | refine K1.w ?_ | refine K1.u ?_ | refine K1.P1 (hm) rfl ?_ | refine ARet.hdI ?_ | refine K1.z ?_ | refine K1.y (fun _ => ?_) (fun _ => ?_) | fail)
   all_goals (conv => whnf)
   exact AEqI.mk (AEq.refl _)
 | true =>
   rw [hq] at hm h
   have h : r < 0 ∨ n ≤ r := by simpa using h
   refine K1.E 0x80077 Tryz.func9 ?_
   by_cases h1 : r < 0
   · clear h
     repeat' ((conv => whnf); first | refine K1.w ?_ | refine K1.u ?_ | refine K1.P1 (hm) rfl ?_ | refine ARet.hdI ?_ | refine K1.z ?_ | refine K1.y (fun _ => ?_) (fun _ => ?_) | fail)
     all_goals (conv => whnf)
     all_goals exact AEqI.mk (AEq.refl _)
   · have h : n ≤ r := by omega
     repeat' ((conv => whnf); first | refine K1.w ?_ | refine K1.u ?_ | refine K1.P1 (hm) rfl ?_ | refine ARet.hdI ?_ | refine K1.z ?_ | refine K1.y (fun _ => ?_) (fun _ => ?_) | fail)
     all_goals (conv => whnf)
     all_goals exact AEqI.mk (AEq.refl _)
set_option maxHeartbeats 4000000 in
set_option maxRecDepth 100000 in
theorem nd_new_m (c : Cfg) (r : Nat) (hc : mayC c = true) (hr : (r : Int) < c.n) : MSpec Tryz.prog 9 [] [c.av, .v (.int .i64 (r : Int))] (.tup [.box 0 0, .v (.int .i64 0)]) [(0, .obs (ndO (nd0 c r)))] := by
 have hm := mayC_spec c
 rw [hc] at hm
 have ha := all_nil
 refine MSpec.cls (hs' := _) (ho := []) (nd_nil c r) ?_ rfl
 obtain ⟨cn,w,q,hh,l,p⟩ := c
 dsimp only [Cfg.av,Cfg.cs,ndB,nd0,dkB,dk0,List.append_nil,nilS] at hm hr ⊢
 refine K1.M 0x80077 Tryz.func9 40 ?_
 repeat' ((conv => whnf); first | refine K1.w ?_ | refine K1.u ?_ | refine K1.P1 (hm) rfl ?_ | refine K1.P1 (ha) rfl ?_ | refine K1.P1 (clone_nil) rfl ?_ | refine K1.C 0 [] (in_new_m hh clk0) rfl ?_ | refine K1.C 0 [] (ou_new_m q w 0) rfl ?_ | refine K1.C 0 [] (new_b) rfl ?_ | refine K1.I 0x40c7800008bd Tryz.func26 ?_ | refine K1.I 0x80000003c0000015 Tryz.func63 ?_ | refine K1.I 0x85 Tryz.func47 ?_ | refine K1.I 0x1 Tryz.func83 ?_ | refine K1.I 0x1 Tryz.func59 ?_ | refine K1.I 0x5 Tryz.func61 ?_ | refine K1.I 0x4003 Tryz.func62 ?_ | refine CSem.scope lay_ok 0x40c7800008bd ?_ | refine CSem.label ?_ | refine ALoop.unr 33 1 rfl ?_ | refine ALoop.unr 32 1 rfl ?_ | refine K1.o (id := 15) [(0,none),(1,none),(2,none),(3,none),(4,none),(5,none),(6,some [4]),(7,none),(8,none),(9,some [4,3,7])] [(5,[4]),(6,[4]),(7,[4,3]),(8,[4,3,7]),(9,[4,3,7])] ?_ | refine K1.o (id := 16) [(0,none),(1,none),(2,none),(3,none),(4,none),(5,none),(6,none),(7,some [6,4,2]),(8,none),(9,none),(10,some [6,4,2,8])] [(3,[2]),(4,[2]),(7,[6,4,2]),(8,[6,4,2]),(9,[6,4,2,8]),(10,[6,4,2,8])] ?_ | refine K1.o (id := 2) [(0,none),(1,none),(2,none),(3,none),(4,none),(5,none),(6,none),(7,none),(8,none),(9,none),(10,none),(11,none),(12,none),(13,none),(14,none),(15,some [14,12,10,7,5,2]),(16,none),(17,none),(18,some [14,12,10,7,5,2,16])] [(3,[2]),(4,[2]),(5,[2]),(8,[7]),(9,[7]),(10,[7]),(13,[12]),(14,[12]),(15,[14,12,10,7,5,2]),(16,[14,12,10,7,5,2]),(17,[14,12,10,7,5,2,16]),(18,[14,12,10,7,5,2,16])] ?_ | refine K1.o (id := 7) [(0,none),(1,none),(2,none),(3,none),(4,none),(5,some [4,3,1])] [(2,[1]),(3,[1]),(5,[4,3,1])] ?_ | refine K1.o (id := 9) [(0,none),(1,none),(2,none),(3,none),(4,none),(5,some [4,3,1])] [(2,[1]),(3,[1]),(5,[4,3,1])] ?_ | refine K1.o (id := 11) [(0,none),(1,none),(2,none),(3,none),(4,none),(5,none),(6,none),(7,some [6,5,2]),(8,none),(9,none),(10,some [6,5,2,8])] [(3,[2]),(4,[2]),(5,[2]),(7,[6,5,2]),(8,[6,5,2]),(9,[6,5,2,8]),(10,[6,5,2,8])] ?_ | refine K1.z ?_ | refine K1.y (fun _ => ?_) (fun _ => ?_) | fail)
 all_goals (conv => whnf)
 exact ⟨[(41,0),(42,8),(44,11),(46,12),(45,13)],rfl,rfl,⟨⟨_,rfl,OEq.refl _⟩,⟨_,rfl,OEq.refl _⟩,⟨_,rfl,OEq.refl _⟩,⟨_,rfl,OEq.box fun X us h => All2.setC (k := 6) (x := .v (.slice none 0 0)) (y := slE []) rfl (fun X u h => C1.nilS (s := 12) (by decide) (show C1 X (.v (.slice none 0 0)) u from h)) h⟩,⟨_,rfl,OEq.refl _⟩,trivial⟩,rfl,rfl,AEq.refl _⟩
def mkE (e : Ev) : List AV := [.v (.int .i64 e.r), .v (.int .i64 e.n)]
abbrev mkF (l : List Ev) : Nat → List AV := elsF mkE l
set_option maxHeartbeats 4000000 in
set_option maxRecDepth 100000 in
theorem marks_spec (l : List Ev) (hl : l.length ≤ 1000000) (d : Nat) : ASpec Tryz.prog 30 [slE l] (.own d) [(d, .row 44 2 l.length true (mkF l))] := by
 dsimp only [slE]
 refine K1.E 0x3ed Tryz.func30 ?_
 repeat' ((conv => whnf); first | refine K1.w ?_ | refine K1.u ?_ | refine K1.z ?_ | refine K1.y (fun _ => ?_) (fun _ => ?_) | fail)
 conv => whnf
 refine ALoop.nil 3 40 44 2 (mkF []) rfl (by decide) ?_
 refine ALoop.mk { j : Nat // j ≤ l.length } (fun j => ⟨[(8, .v (.int .i64 (j.1 : Int))),(7, .v (.int .i64 (l.length : Int))),(6,slE l),(3, .own 40)],[(40, .row 44 2 j.1 true (mkF (l.take j.1)))],[],41⟩)
  (fun j => l.length - j.1) ⟨0,Nat.zero_le _⟩ _ (LeR.mk' [] _ _ _ rfl ⟨AEq.int rfl,AEq.refl _,AEq.refl _,AEq.refl _,trivial⟩ ⟨⟨_,rfl,OEq.row rfl fun i hi => absurd hi (by omega)⟩,trivial⟩ rfl) ?_
 rintro ⟨j,hj⟩
 dsimp only [slE]
 by_cases hjl : j < l.length
 · repeat' ((conv => whnf); first | refine K1.w ?_ | refine K1.u ?_ | refine K1.z ?_ | refine K1.y (fun _ => ?_) (fun _ => ?_) | fail)
   all_goals (conv => whnf)
   exact ⟨⟨j + 1,hjl⟩,_,LeR.mk' [(43,40)] _ _ _ rfl ⟨AEq.int rfl,AEq.refl _,AEq.refl _,AEq.refl _,trivial⟩ ⟨⟨_,rfl,OEq.row rfl fun i hi => by
    rw [show l.take (j + 1) = l.take j ++ [l.getD (j : Int).toNat default] by rw [List.take_add_one,List.getElem?_eq_getElem hjl]; simp [List.getD,hjl]]
    exact els_app1 (c := mkE) (l := l.take j) (show j = (l.take j).length by rw [List.length_take]; omega) rfl i hi⟩,trivial⟩ rfl,by show l.length - (j + 1) < l.length - j; omega⟩
 · obtain rfl : j = l.length := by omega
   rw [List.take_of_length_le (Nat.le_refl _)]
   repeat' ((conv => whnf); first | refine K1.w ?_ | refine K1.u ?_ | refine K1.z ?_ | refine K1.y (fun _ => ?_) (fun _ => ?_) | fail)
   all_goals (conv => whnf)
   exact ARet.ownX d rfl rfl (OEq.refl _) (AEq.refl _)
theorem nd_list_m (h : Nd) (hu : h.up = true) (hp : ∀ key,Pst (onP (eqK key) h.log) key) (hl : h.log.length ≤ 1000000) : MSpec Tryz.prog 25 [(0, .obs (ndO h))] [.box 0 0] (.tup [.own 3, .v (.int .i64 0)]) [(0, .obs (ndO h)),(3, .row 76 7 (ofB h.log).length false (coF (ofB h.log)))] := by
 refine nd_opn0 (ho := [_]) ⟨_,_,Tryz.func25,rfl,rfl⟩ ?_ rfl
 have hli := list_b hp h.log.length hl hl
 obtain ⟨c,r,up,d,log,sent,ic,held,wait⟩ := h
 dsimp only [ndH,ndB,List.append_nil] at hu hli ⊢
 subst hu
 refine K1.M 0x10d Tryz.func25 40 ?_
 repeat' ((conv => whnf); first | refine K1.w ?_ | refine K1.u ?_ | refine K1.C 3 [(0,_)] (hli) rfl ?_ | refine K1.z ?_ | refine K1.y (fun _ => ?_) (fun _ => ?_) | fail)
 all_goals (conv => whnf)
 exact ⟨[(40,3)],rfl,rfl,⟨⟨_,rfl,OEq.refl _⟩,⟨_,rfl,OEq.refl _⟩,⟨_,rfl,OEq.refl _⟩,⟨_,rfl,OEq.refl _⟩,⟨_,rfl,OEq.refl _⟩,⟨_,rfl,OEq.refl _⟩,⟨_,rfl,OEq.refl _⟩,⟨_,rfl,OEq.refl _⟩,⟨_,rfl,OEq.refl _⟩,trivial⟩,rfl,rfl,AEq.refl _⟩
set_option maxHeartbeats 4000000 in
set_option maxRecDepth 100000 in
theorem nd_cut_m (h : Nd) (k : Int) : MSpec Tryz.prog 21 [(0, .obs (ndO h))] [.box 0 0, .v (.int .i64 k)] (.tup []) [(0, .obs (ndO ⟨h.c,h.r,h.up,⟨h.d.bs,h.d.down,true,k⟩,h.log,h.sent,h.ic,h.held,h.wait⟩))] := by
 refine nd_opn0 (ho := []) ⟨_,_,Tryz.func21,rfl,rfl⟩ ?_ rfl
 obtain ⟨c,r,up,⟨bs,down,cut,keep⟩,log,sent,ic,held,wait⟩ := h
 dsimp only [ndH,ndB,dkB,List.append_nil]
 refine K1.M 0x3 Tryz.func21 40 ?_
 repeat' ((conv => whnf); first | refine K1.w ?_ | refine K1.u ?_ | refine K1.I 0x85 Tryz.func47 ?_ | refine K1.I 0x3 Tryz.func48 ?_ | refine K1.z ?_ | refine K1.y (fun _ => ?_) (fun _ => ?_) | fail)
 all_goals (conv => whnf)
 exact ⟨[],rfl,rfl,⟨⟨_,rfl,OEq.refl _⟩,⟨_,rfl,OEq.refl _⟩,⟨_,rfl,OEq.refl _⟩,⟨_,rfl,OEq.refl _⟩,⟨_,rfl,OEq.refl _⟩,⟨_,rfl,OEq.refl _⟩,⟨_,rfl,OEq.refl _⟩,⟨_,rfl,OEq.refl _⟩,trivial⟩,rfl,rfl,AEq.refl _⟩
def siteV (h : Nd) : AV := bif h.up then .agg [.v (.bool true), .v (.int .i64 h.ic.c0), .v (.int .i64 h.ic.c1), .v (.int .i64 h.ic.c2), .v (.int .i64 h.ic.c3), .v (.int .i64 h.ic.c4), .v (.int .i64 h.sent), .sl 2 h.held.length true (mkF h.held), .sl 2 h.log.length true (mkF h.log)]
 else .agg [.v (.bool false), .v (.int .i64 0), .v (.int .i64 0), .v (.int .i64 0), .v (.int .i64 0), .v (.int .i64 0), .v (.int .i64 0), .v (.slice none 0 0), .v (.slice none 0 0)]
set_option maxHeartbeats 4000000 in
set_option maxRecDepth 100000 in
theorem nd_site_m (h : Nd) (h1 : h.log.length ≤ 1000000) (h2 : h.held.length ≤ 1000000) : MSpec Tryz.prog 11 [(0, .obs (ndO h))] [.box 0 0] (siteV h) [(0, .obs (ndO h))] := by
 refine nd_opn0 (ho := []) ⟨_,_,Tryz.func11,rfl,rfl⟩ ?_ (by unfold siteV; cases h.up <;> rfl)
 have m1 := marks_spec h.log h1
 have m2 := marks_spec h.held h2
 have hcl := cloneE_sl (n := h.held.length) (F := evF h.held) (by omega)
 have hck := clock_spec h.c.h h.ic (slE h.held) (.inr ⟨_,_,rfl⟩)
 obtain ⟨c,r,up,d,log,sent,⟨c0,c1,c2,c3,c4⟩,held,wait⟩ := h
 dsimp only [ndH,ndB,siteV,List.append_nil,slE,ibB,Clk.av,Clk.cs] at m1 m2 hcl hck ⊢
 cases up
 all_goals
  refine K1.M 0x85 Tryz.func11 40 ?_
  repeat' ((conv => whnf); first | refine K1.w ?_ | refine K1.u ?_ | refine K1.F1 (m1 _) rfl ?_ | refine K1.F1 (m2 _) rfl ?_ | refine K1.P1 (hcl) rfl ?_ | refine K1.C 1 [(0,_)] (hck) rfl ?_ | refine K1.I 0x5 Tryz.func31 ?_ | refine K1.o (id := 3) [(0,none),(1,none),(2,none),(3,none),(5,none),(6,none),(7,none),(8,none),(9,none),(10,none),(11,none),(12,none),(15,none),(16,none),(17,none),(18,none),(4,some [3,1]),(13,some [3,1,12,10]),(14,some [3,1,12,10]),(19,some [3,1,12,10,18,16]),(20,none),(21,some [3,1,12,10,18,16,8,6])] [(2,[1]),(3,[1]),(4,[3,1]),(7,[6]),(8,[6]),(11,[10]),(12,[10]),(13,[3,1,12,10]),(14,[3,1,12,10]),(17,[16]),(18,[16]),(19,[3,1,12,10,18,16]),(20,[3,1,12,10,18,16,8,6]),(21,[3,1,12,10,18,16,8,6])] ?_ | refine K1.z ?_ | refine K1.y (fun _ => ?_) (fun _ => ?_) | fail)
  all_goals (conv => whnf)
  exact ⟨[],rfl,rfl,⟨⟨_,rfl,OEq.refl _⟩,⟨_,rfl,OEq.refl _⟩,⟨_,rfl,OEq.refl _⟩,⟨_,rfl,OEq.refl _⟩,⟨_,rfl,OEq.refl _⟩,⟨_,rfl,OEq.refl _⟩,⟨_,rfl,OEq.refl _⟩,⟨_,rfl,OEq.refl _⟩,trivial⟩,rfl,rfl,AEq.refl _⟩
end Go.Proofs.YtimhagicagdkfaaGreat

/-
 A replica: write.
-/
namespace Go.Proofs.YtimhagicagdkfaaGreat
open Go.RowKit
def ndN (h : Nd) (i9 i10 i11 i12 i13 i14 : Nat) : List (Nat × AO) := [(0,ndB h (.box 8 0) (.own i10) (.box i11 0) (.box i12 0) (.box i13 0)),(8,dkB (.own i9) h.d),(i11, .obs (bookO h.log h.log.length)),(i12,ibB h.c.h h.ic (slE h.held)),(i13,ouB h.c.q h.c.w h.sent (.own i14)),(i9,bRow h.d.bs),(i10,evRow h.log),(i14,evRow h.wait)]
theorem nd_opnN (i9 i10 i11 i12 i13 i14 : Nat) {f : FuncId} {h h' : Nd} {avs : List AV} {r : AV} {ho : List (Nat × AO)} (hE : Enters Tryz.prog f) (hk : keyH [(0,0),(8,8),(9,i9),(10,i10),(11,i11),(12,i12),(13,i13),(14,i14)] (ndH h' ()) = true) (hm : MSpec Tryz.prog f (ndH h ()) avs r (ndN h' i9 i10 i11 i12 i13 i14 ++ ho))
  (hb : (avs.all (refQ1 (fun _ => false) 0) && refQ2 (fun i => hasN i ho) 0 r && closedH ho ho && !(hasN 0 ho)) = true) : MSpec Tryz.prog f [(0, .obs (ndO h))] avs r ((0, .obs (ndO h')) :: ho) :=
 nd_opn [(0,0),(8,8),(9,i9),(10,i10),(11,i11),(12,i12),(13,i13),(14,i14)] hE rfl hk rfl hm hb
def rcA (x : Rc) (n : Nat) (F : Nat → List AV) : AV := .agg [.v (.int .i64 x.k), .v (.int .i64 x.r), .v (.int .i64 x.u), .v (.int .i64 x.c.c0), .v (.int .i64 x.c.c1), .v (.int .i64 x.c.c2), .v (.int .i64 x.c.c3), .v (.int .i64 x.c.c4), .sl 12 n true F]
theorem rcPut_any (x : Rc) (h : mayR x = true) {n : Nat} {F : Nat → List AV} (hn : n = x.ev.length) (hF : ∀ i,i < n → F i = evF x.ev i) :
  ASpec Tryz.prog 93 [rcA x n F] (.tup [.sl 1 (rcBytes x).length true (bytesF (rcBytes x)), .v (.int .i64 0)]) [] :=
 (rcPut_yes 0 x h).thaw.args (.of (fun X u hu => by
  obtain ⟨us,e,ha⟩ := hu
  exact ⟨us,e,All2.setC (k := 8) rfl (x := .sl 12 n true F) (y := .sl 12 x.ev.length true (evF x.ev)) (fun X u hu => show C2 X (.sl 12 x.ev.length true (evF x.ev)) u from AEq.sl hn hF X u (show C2 X (.sl 12 n true F) u from hu)) ha⟩) .nil)
end Go.Proofs.YtimhagicagdkfaaGreat

/-
 A replica: Start: plain part.
-/
namespace Go.Proofs.YtimhagicagdkfaaGreat
open Go.RowKit
def repS (s : List Ev × Int) (x : Rc) : List Ev × Int := if x.k = 3 then (s.1,x.u) else if x.k = 4 then (x.ev,x.u) else (s.1 ++ x.ev,s.2)
def rpL (l : List Rc) : List Ev × Int := l.foldl repS ([],0)
def clkL (l : List Ev) : Clk := l.foldl (fun c e => c.inc e.r.toNat) clk0
def waitS (q sent r : Int) (w : List Ev) (e : Ev) : List Ev := if e.r = r ∧ sent < e.n then (addO q sent w e).1 else w
def waitL (q sent r : Int) (l : List Ev) : List Ev := l.foldl (waitS q sent r) []
structure LogOk (l : List Ev) : Prop where
 len : l.length ≤ 1000000
 nx : ∀ j,j < l.length → Nxt (onP (eqK (l.getD j default).key) (l.take j)) (l.getD j default)
 may : ∀ j,j < l.length → mayE (l.getD j default) = 0
 r : ∀ j,j < l.length → 0 ≤ (l.getD j default).r ∧ (l.getD j default).r < 5
 n : ∀ e ∈ l,0 ≤ e.n ∧ e.n ≤ 1000000
theorem waitS_mem {q sent r : Int} {w : List Ev} {e x : Ev} (h : x ∈ waitS q sent r w e) : x ∈ w ∨ x = e := by
 unfold waitS addO at h
 split at h
 · split at h
   · exact .inl h
   · split at h
     · simpa using h
     · exact .inl h
 · exact .inl h
theorem waitF_mem {q sent r : Int} : ∀ (l w : List Ev) {x : Ev},x ∈ l.foldl (waitS q sent r) w → x ∈ w ∨ x ∈ l
  | [],_,_,h => .inl h
  | e :: l,w,x,h => by
    rcases waitF_mem l _ h with h | h
    · rcases waitS_mem h with h | rfl
      · exact .inl h
      · exact .inr List.mem_cons_self
    · exact .inr (List.mem_cons_of_mem _ h)
theorem waitS_len {q sent r : Int} {w : List Ev} {e : Ev} : (waitS q sent r w e).length ≤ w.length + 1 := by
 unfold waitS addO
 split
 · split
   · simp
   · split <;> simp
 · simp
theorem waitF_len {q sent r : Int} : ∀ (l w : List Ev),(l.foldl (waitS q sent r) w).length ≤ w.length + l.length
  | [],_ => by simp
  | e :: l,w => by
    have h1 := waitF_len (q := q) (sent := sent) (r := r) l (waitS q sent r w e)
    have h2 := waitS_len (q := q) (sent := sent) (r := r) (w := w) (e := e)
    simp only [List.foldl_cons,List.length_cons]
    omega
theorem wait_n {q sent r : Int} {l : List Ev} (h : ∀ e ∈ l,0 ≤ e.n ∧ e.n ≤ 1000000) (j : Nat) : 0 ≤ ((waitL q sent r l).getD j default).n ∧ ((waitL q sent r l).getD j default).n ≤ 1000000 := by
 by_cases hj : j < (waitL q sent r l).length
 · rw [show (waitL q sent r l).getD j default = (waitL q sent r l)[j] by simp [List.getD,hj]]
   rcases waitF_mem l [] (List.getElem_mem hj) with h1 | h1
   · cases h1
   · exact h _ h1
 · rw [show (waitL q sent r l).getD j default = default by simp [List.getD,hj]]
   decide
def Clk.upto (c : Clk) (k : Int) : Prop := (0 ≤ c.c0 ∧ c.c0 ≤ k) ∧ (0 ≤ c.c1 ∧ c.c1 ≤ k) ∧ (0 ≤ c.c2 ∧ c.c2 ≤ k) ∧ (0 ≤ c.c3 ∧ c.c3 ≤ k) ∧ (0 ≤ c.c4 ∧ c.c4 ≤ k)
theorem Clk.upto_inc {c : Clk} {k : Int} (h : c.upto k) (r : Nat) : (c.inc r).upto (k + 1) := by
 unfold Clk.upto at *
 match r with
 | 0 => simp only [Clk.inc]; omega
 | 1 => simp only [Clk.inc]; omega
 | 2 => simp only [Clk.inc]; omega
 | 3 => simp only [Clk.inc]; omega
 | n + 4 => simp only [Clk.inc]; omega
theorem clkF_le : ∀ (l : List Ev) (c : Clk) (k : Int),c.upto k → (l.foldl (fun c e => c.inc e.r.toNat) c).upto (k + l.length)
  | [],c,k,h => by simpa using h
  | e :: l,c,k,h => by
    have := clkF_le l _ _ (Clk.upto_inc h e.r.toNat)
    rw [List.length_cons]
    rw [show k + ((l.length + 1 : Nat) : Int) = k + 1 + l.length by omega]
    exact this
theorem clkL_le (l : List Ev) : (clkL l).upto l.length := by
 have := clkF_le l clk0 0 (by unfold Clk.upto clk0; decide)
 rwa [Int.zero_add] at this
theorem rpL_take {l : List Rc} {j : Nat} (h : j < l.length) : rpL (l.take (j + 1)) = repS (rpL (l.take j)) (l.getD j default) := fold_take h
theorem clkL_take {l : List Ev} {j : Nat} (h : j < l.length) : clkL (l.take (j + 1)) = (clkL (l.take j)).inc (l.getD j default).r.toNat := fold_take h
theorem waitL_take {q sent r : Int} {l : List Ev} {j : Nat} (h : j < l.length) : waitL q sent r (l.take (j + 1)) = waitS q sent r (waitL q sent r (l.take j)) (l.getD j default) := fold_take h
theorem take_snoc {l : List Ev} {j : Nat} (h : j < l.length) : l.take (j + 1) = l.take j ++ [l.getD j default] := by
 rw [List.take_add_one,List.getElem?_eq_getElem h]
 simp [List.getD,h]
end Go.Proofs.YtimhagicagdkfaaGreat

/-
 A replica: Edit.
-/
namespace Go.Proofs.YtimhagicagdkfaaGreat
open Go.RowKit
theorem InA.five {r : Nat} (hr : r < 5) {K : Nat → Prop} (h0 : r = 0 → K 0) (h1 : r = 1 → K 1) (h2 : r = 2 → K 2) (h3 : r = 3 → K 3) (h4 : r = 4 → K 4) : InA (r : Int) 5 K := by
 rcases (show r = 0 ∨ r = 1 ∨ r = 2 ∨ r = 3 ∨ r = 4 by omega) with rfl | rfl | rfl | rfl | rfl
 · exact .lit 0 rfl rfl (h0 rfl)
 · exact .lit 1 rfl rfl (h1 rfl)
 · exact .lit 2 rfl rfl (h2 rfl)
 · exact .lit 3 rfl rfl (h3 rfl)
 · exact .lit 4 rfl rfl (h4 rfl)
def editV (h : Nd) (e : Ed) : Ev := ⟨h.r,h.ic.at h.r + 1,h.ic,hgt h.log h.ic,e.k,e.key,e.l,e.v⟩
def rcE1 (h : Nd) (v : Ev) : Rc := ⟨1,h.r,0,clk0,[v]⟩
structure NdB (h : Nd) : Prop where
 r : h.r < 5
 ic : ∀ r,0 ≤ h.ic.at r ∧ h.ic.at r ≤ 1000000
 pst : ∀ key,Pst (onP (eqK key) h.log) key
 len : h.log.length ≤ 1000000
 hh : ∀ e ∈ h.log,0 ≤ e.h ∧ e.h ≤ 1000000
 cs : ∀ x ∈ ofB h.log,x.s0.length ≤ 1000000 ∧ x.s1.length ≤ 1000000
 bs : h.d.bs.length ≤ 1000000
 wl : h.wait.length ≤ 1000000
 sent : 0 ≤ h.sent ∧ h.sent ≤ 1000000
 wn : ∀ j,0 ≤ (h.wait.getD j default).n ∧ (h.wait.getD j default).n ≤ 1000000
set_option maxHeartbeats 8000000 in
set_option maxRecDepth 100000 in
theorem nd_edit_ok (h : Nd) (e : Ed) (d' : Dk) (hB : NdB h) (hu : h.up = true) (hck : checkE h.c.l h.c.p (ofB h.log) e = 0) (hq : (h.wait.length : Int) < h.c.q) (hH : hgt h.log h.ic ≤ 1000001)
  (hm : mayR (rcE1 h (editV h e)) = true) (hw : writeD h.d (rcBytes (rcE1 h (editV h e))) = (d',0)) (hd : drainL h.ic [editV h e] = ([editV h e],[],h.ic.inc h.r)) (ha : addO h.c.q h.sent h.wait (editV h e) = (h.wait ++ [editV h e],0))
  (hnx : Nxt (onP (eqK (editV h e).key) h.log) (editV h e)) (hmay : mayE (editV h e) = 0) :
  MSpec Tryz.prog 22 [(0, .obs (ndO h))] [.box 0 0,e.av] (.tup [(editV h e).av, .v (.int .i64 0)]) [(0, .obs (ndO ⟨h.c,h.r,true,d',h.log ++ [editV h e],h.sent,h.ic.inc h.r,h.held,h.wait ++ [editV h e]⟩))] := by
 refine nd_opnN (ho := []) 15 16 11 12 13 17 ⟨_,_,Tryz.func22,rfl,rfl⟩ rfl ?_ rfl
 have hli := list_b hB.pst h.log.length hB.len hB.len
 have hch := check_spec h.c (ofB h.log) e (Nat.le_trans (of_len _) hB.len) hB.cs
 rw [hck] at hch
 have hcl := clock_spec h.c.h h.ic (slE h.held) (.inr ⟨_,_,rfl⟩)
 have hcn := cnext_spec h.ic h.r hB.r (hB.ic _).1
 have hlt : h.ic.at h.r < 1048576 := by have := (hB.ic h.r).2; omega
 unfold nextC at hcn
 rw [if_pos hlt,if_pos hlt] at hcn
 have hhg := pheight_spec h.log h.ic (by have := hB.len; omega) fun e he => by have := hB.hh e he; omega
 have hpu := rcPut_any (rcE1 h (editV h e)) hm (n := 1) (F := chunk 12 (editV h e).cs) rfl fun i hi => by
  obtain rfl : i = 0 := by omega
  rfl
 have hmx := rcBytes_max (rcE1 h (editV h e)) hm
 have hdk := dk_write_m h.d d' (rcBytes (rcE1 h (editV h e))) 0 (IsB.bytes _) rfl (by have := hB.bs; omega) (by omega) hw
 generalize rcBytes (rcE1 h (editV h e)) = wb at hpu hdk hmx hw
 have how := in_own_m h.c.h h.ic (slE h.held) (.inr ⟨_,_,rfl⟩) (editV h e) hB.ic hd
 have had := ou_add_m h.c.q h.c.w h.sent h.wait _ (editV h e) 0 hB.wl (by have := hB.sent; omega) (fun j => by have := hB.wn j; omega) ha
 have hap := apply_b hnx hmay hB.len h.log.length
 rw [if_neg (by simp),if_neg (by simp)] at how
 obtain ⟨b1, -, -,b4, -, -,b7,b8, -, -⟩ := hB
 clear hm hw hd ha hnx hmay hck
 obtain ⟨c,r,up,d,log,sent,⟨c0,c1,c2,c3,c4⟩,held,wait⟩ := h
 obtain ⟨ek,key,lab,val⟩ := e
 dsimp only at hu b1 hlt
 subst hu
 dsimp only [editV,rcE1,rcA] at *
 generalize hgt log ⟨c0,c1,c2,c3,c4⟩ = H at *
 dsimp only [ndH,ndN,ndB,dkB,ibB,ouB,Cfg.av,Cfg.cs,Ed.av,Ed.cs,Ev.av,Ev.cs,Clk.av,Clk.cs,rcA] at *
 refine K1.M 0x8000000040000008080021ffb Tryz.func22 40 ?_
 repeat' ((conv => whnf); first | refine K1.w ?_ | refine K1.u ?_ | refine K1.C 3 [(0,_)] (hli) rfl ?_ | refine K1.P1 (hch) rfl ?_ | refine K1.C 1 [(0,_)] (hcl) rfl ?_ | refine K1.P1 (hcn) rfl ?_ | refine K1.P1 (hhg) rfl ?_ | refine K1.P1 (hpu) rfl ?_ | refine K1.C 2 [(0,_),(1,_)] (hdk) rfl ?_ | refine K1.C 1 [(0,_)] (how) rfl ?_ | refine K1.C 2 [(0,_),(1,_)] (had) rfl ?_ | refine K1.C 1 [(0,_)] (hap) rfl ?_ | (refine InA.five b1 (fun e => ?_) (fun e => ?_) (fun e => ?_) (fun e => ?_) (fun e => ?_) <;> subst e) | refine K1.I 0x5 Tryz.func51 ?_ | refine K1.I 0x78023 Tryz.func57 ?_ | refine K1.I 0x8207b Tryz.func54 ?_ | refine K1.I 0x85 Tryz.func47 ?_ | refine ALoop.unr 17 2 rfl ?_ | refine K1.o (id := 3) [(0,none),(1,none),(2,none),(3,none),(4,none),(5,none),(6,none),(7,none),(9,none),(8,some [7,5]),(10,some [7,5,9,3,1]),(11,none)] [(2,[1]),(3,[1]),(6,[5]),(7,[5]),(8,[7,5]),(10,[7,5,9,3,1]),(11,[7,5,9,3,1])] ?_ | refine K1.o (id := 10) [(0,none),(1,none),(2,none),(3,none),(4,none),(5,some [4,3,1]),(6,none)] [(2,[1]),(3,[1]),(5,[4,3,1]),(6,[4,3,1])] ?_ | refine K1.o (id := 13) [(0,none),(1,none),(2,none),(3,none),(4,none),(5,none),(6,none),(7,none),(8,none),(9,none),(10,none),(11,none),(12,none),(13,none),(14,none),(15,none),(16,none),(17,none),(18,none),(19,none),(20,none),(21,some []),(22,some [19,17,15,13,10,9,7,5,3,1])] [(2,[1]),(3,[1]),(6,[5]),(7,[5]),(8,[7,5]),(9,[7,5]),(20,[19,17,15,13,10,9,7,5,3,1]),(21,[]),(22,[19,17,15,13,10,9,7,5,3,1])] ?_ | refine K1.o (id := 14) [(0,none),(1,none),(2,none),(3,none),(4,none),(5,none),(6,some [5]),(7,none),(8,some [5,4,2]),(9,none)] [(3,[2]),(4,[2]),(6,[5]),(7,[5,4,2]),(8,[5,4,2]),(9,[5,4,2])] ?_ | refine K1.o (id := 17) [(0,none),(1,none),(2,none),(3,none),(4,none),(5,some [4,3,1])] [(2,[1]),(3,[1]),(5,[4,3,1])] ?_ | refine K1.o (id := 18) [(0,none),(1,none),(2,none),(3,none),(4,none),(5,some [4,3,1])] [(2,[1]),(3,[1]),(5,[4,3,1])] ?_ | refine K1.o (id := 4) [(0,none),(1,none),(2,none),(3,none),(4,none),(5,some [4,3,1])] [(2,[1]),(3,[1]),(5,[4,3,1])] ?_ | refine ADraw.lex 70 lay_ok (awp_snd lay_ok _) follows_ok (by kernel_rfl) ?_ | refine Both.mk ?_ ?_ | exact LeC.mk rfl rfl rfl rfl rfl | refine K1.z ?_ | refine K1.y (fun _ => ?_) (fun _ => ?_) | fail)
 all_goals (conv => whnf)
 all_goals exact ⟨[(49,15),(53,16),(51,17)],rfl,rfl,⟨⟨_,rfl,OEq.refl _⟩,⟨_,rfl,OEq.refl _⟩,⟨_,rfl,(by simp only [List.length_append,List.length_singleton]; exact OEq.refl _)⟩,⟨_,rfl,OEq.refl _⟩,⟨_,rfl,OEq.refl _⟩,⟨_,rfl,OEq.refl _⟩,⟨_,rfl,OEq.row (by simp) fun m hm => els_app1 (c := Ev.cs) (l := log) rfl rfl m hm⟩,⟨_,rfl,OEq.refl _⟩,trivial⟩,rfl,rfl,AEq.refl _⟩
end Go.Proofs.YtimhagicagdkfaaGreat

/-
 A replica: an edit that does not succeed.
-/
namespace Go.Proofs.YtimhagicagdkfaaGreat
open Go.RowKit
def evZ : Ev := ⟨0,0,clk0,0,0,⟨#[]⟩,0,⟨#[]⟩⟩
set_option maxHeartbeats 8000000 in
set_option maxRecDepth 100000 in
theorem nd_edit_down (h : Nd) (e : Ed) (d' : Dk) (y : Int) (hy : y ≠ 0) (hB : NdB h) (hu : h.up = true) (hck : checkE h.c.l h.c.p (ofB h.log) e = 0) (hq : (h.wait.length : Int) < h.c.q) (hH : hgt h.log h.ic ≤ 1000001)
  (hm : mayR (rcE1 h (editV h e)) = true) (hw : writeD h.d (rcBytes (rcE1 h (editV h e))) = (d',y)) :
  MSpec Tryz.prog 22 [(0, .obs (ndO h))] [.box 0 0,e.av] (.tup [evZ.av, .v (.int .i64 18)]) [(0, .obs (ndO ⟨h.c,h.r,false,d',h.log,h.sent,h.ic,h.held,h.wait⟩))] := by
 refine nd_opnN (ho := []) 15 10 11 12 13 14 ⟨_,_,Tryz.func22,rfl,rfl⟩ rfl ?_ rfl
 have hli := list_b hB.pst h.log.length hB.len hB.len
 have hch := check_spec h.c (ofB h.log) e (Nat.le_trans (of_len _) hB.len) hB.cs
 rw [hck] at hch
 have hcl := clock_spec h.c.h h.ic (slE h.held) (.inr ⟨_,_,rfl⟩)
 have hcn := cnext_spec h.ic h.r hB.r (hB.ic _).1
 have hlt : h.ic.at h.r < 1048576 := by have := (hB.ic h.r).2; omega
 unfold nextC at hcn
 rw [if_pos hlt,if_pos hlt] at hcn
 have hhg := pheight_spec h.log h.ic (by have := hB.len; omega) fun e he => by have := hB.hh e he; omega
 have hpu := rcPut_any (rcE1 h (editV h e)) hm (n := 1) (F := chunk 12 (editV h e).cs) rfl fun i hi => by
  obtain rfl : i = 0 := by omega
  rfl
 have hmx := rcBytes_max (rcE1 h (editV h e)) hm
 have hdk := dk_write_m h.d d' (rcBytes (rcE1 h (editV h e))) y (IsB.bytes _) rfl (by have := hB.bs; omega) (by omega) hw
 generalize rcBytes (rcE1 h (editV h e)) = wb at hpu hdk hmx hw
 obtain ⟨b1, -, -,b4, -, -,b7,b8, -, -⟩ := hB
 clear hm hw hck
 obtain ⟨c,r,up,d,log,sent,⟨c0,c1,c2,c3,c4⟩,held,wait⟩ := h
 obtain ⟨ek,key,lab,val⟩ := e
 dsimp only at hu b1 hlt
 subst hu
 dsimp only [editV,rcE1,rcA,evZ,clk0] at *
 generalize hgt log ⟨c0,c1,c2,c3,c4⟩ = H at *
 dsimp only [ndH,ndN,ndB,dkB,ibB,ouB,Cfg.av,Cfg.cs,Ed.av,Ed.cs,Ev.av,Ev.cs,Clk.av,Clk.cs,rcA] at *
 refine K1.M 0x8000000040000008080021ffb Tryz.func22 40 ?_
 repeat' ((conv => whnf); first | refine K1.w ?_ | refine K1.u ?_ | refine K1.C 3 [(0,_)] (hli) rfl ?_ | refine K1.P1 (hch) rfl ?_ | refine K1.C 1 [(0,_)] (hcl) rfl ?_ | refine K1.P1 (hcn) rfl ?_ | refine K1.P1 (hhg) rfl ?_ | refine K1.P1 (hpu) rfl ?_ | refine K1.C 2 [(0,_),(1,_)] (hdk) rfl ?_ | (refine InA.five b1 (fun e => ?_) (fun e => ?_) (fun e => ?_) (fun e => ?_) (fun e => ?_) <;> subst e) | refine K1.I 0x5 Tryz.func51 ?_ | refine K1.I 0x8207b Tryz.func54 ?_ | refine K1.I 0x85 Tryz.func47 ?_ | refine K1.o (id := 3) [(0,none),(1,none),(2,none),(3,none),(4,none),(5,none),(6,none),(7,none),(9,none),(8,some [7,5]),(10,some [7,5,9,3,1]),(11,none)] [(2,[1]),(3,[1]),(6,[5]),(7,[5]),(8,[7,5]),(10,[7,5,9,3,1]),(11,[7,5,9,3,1])] ?_ | refine K1.o (id := 10) [(0,none),(1,none),(2,none),(3,none),(4,none),(5,some [4,3,1]),(6,none)] [(2,[1]),(3,[1]),(5,[4,3,1]),(6,[4,3,1])] ?_ | refine K1.o (id := 13) [(0,none),(1,none),(2,none),(3,none),(4,none),(5,none),(6,none),(7,none),(8,none),(9,none),(10,none),(11,none),(12,none),(13,none),(14,none),(15,none),(16,none),(17,none),(18,none),(19,none),(20,none),(21,some []),(22,some [19,17,15,13,10,9,7,5,3,1])] [(2,[1]),(3,[1]),(6,[5]),(7,[5]),(8,[7,5]),(9,[7,5]),(20,[19,17,15,13,10,9,7,5,3,1]),(21,[]),(22,[19,17,15,13,10,9,7,5,3,1])] ?_ | refine K1.o (id := 14) [(0,none),(1,none),(2,none),(3,none),(4,none),(5,none),(6,some [5]),(7,none),(8,some [5,4,2]),(9,none)] [(3,[2]),(4,[2]),(6,[5]),(7,[5,4,2]),(8,[5,4,2]),(9,[5,4,2])] ?_ | refine K1.o (id := 17) [(0,none),(1,none),(2,none),(3,none),(4,none),(5,some [4,3,1])] [(2,[1]),(3,[1]),(5,[4,3,1])] ?_ | refine K1.o (id := 18) [(0,none),(1,none),(2,none),(3,none),(4,none),(5,some [4,3,1])] [(2,[1]),(3,[1]),(5,[4,3,1])] ?_ | refine ADraw.lex 70 lay_ok (awp_snd lay_ok _) follows_ok (by kernel_rfl) ?_ | refine Both.mk ?_ ?_ | exact LeC.mk rfl rfl rfl rfl rfl | refine K1.z ?_ | refine K1.y (fun _ => ?_) (fun _ => ?_) | fail)
 all_goals (conv => whnf)
 all_goals exact ⟨[(49,15)],rfl,rfl,⟨⟨_,rfl,OEq.refl _⟩,⟨_,rfl,OEq.refl _⟩,⟨_,rfl,OEq.refl _⟩,⟨_,rfl,OEq.refl _⟩,⟨_,rfl,OEq.refl _⟩,⟨_,rfl,OEq.refl _⟩,⟨_,rfl,OEq.refl _⟩,⟨_,rfl,OEq.refl _⟩,trivial⟩,rfl,rfl,AEq.refl _⟩
end Go.Proofs.YtimhagicagdkfaaGreat

/-
 A record that is cut is none.
-/
namespace Go.Proofs.YtimhagicagdkfaaGreat
theorem first_nil : firstF [] = none := by unfold firstF; rw [if_pos (.inl (by decide))]
theorem first_cut (x : Rc) (h : mayR x = true) (i : Nat) (hi : i < (rcBytes x).length) : firstF ((rcBytes x).take i) = none := by
 have hb := rcBody_len x h
 have hs := sealB_len (rcBody x)
 have hl : (rcBytes x).length = (vput (sealB (rcBody x)).length).length + (sealB (rcBody x)).length := by unfold rcBytes; rw [List.length_append]
 unfold firstF
 by_cases hc : i < (vput (sealB (rcBody x)).length).length
 · have e : (rcBytes x).take i = (vput (sealB (rcBody x)).length).take i := by unfold rcBytes; rw [List.take_append_of_le_length (by omega)]
   rw [e,vtake_cut hc,if_pos (.inl (by decide))]
 · have e : (rcBytes x).take i = vput (sealB (rcBody x)).length ++ (sealB (rcBody x)).take (i - (vput (sealB (rcBody x)).length).length) := by
    unfold rcBytes
    rw [List.take_append,List.take_of_length_le (by omega)]
   rw [e,vtake_put _ _ (by omega)]
   rw [if_pos (.inr (by rw [List.length_append,List.length_take]; dsimp only; omega))]
end Go.Proofs.YtimhagicagdkfaaGreat

/-
 Layer 19's example: plain part.
-/
namespace Go.Proofs.YtimhagicagdkfaaGreat
open Go.RowKit
theorem drain_one {c : Clk} {r : Nat} (hr : r < 5) {v : Ev} (h1 : v.r = (r : Int)) (h2 : v.n = c.at r + 1) (h3 : v.c.le c = true) (h0 : 0 ≤ c.at r) : drainL c [v] = ([v],[],c.inc r) := by
 have hh : hasB c v.r v.n = false := by
  unfold hasB
  rw [h1,h2]
  refine decide_eq_false fun h => ?_
  have : c.get (r : Int) = c.at r := by
   rcases (show r = 0 ∨ r = 1 ∨ r = 2 ∨ r = 3 ∨ r = 4 by omega) with rfl | rfl | rfl | rfl | rfl <;> rfl
  omega
 have hw : wait0 c [v] = [v] := by
  unfold wait0
  rw [List.foldl_cons,List.foldl_nil]
  unfold dStep
  rw [hh]
  rfl
 have hn : nextW c [v] = some v := by
  refine next_some hr (fun q hq => ?_) ?_
  · unfold rdyAt atM
    rw [List.find?_cons,show decide (v.r = (q : Int) ∧ v.n = c.at q + 1) = false from decide_eq_false fun h => by omega]
    rfl
  · unfold rdyAt atM
    rw [List.find?_cons,show decide (v.r = (r : Int) ∧ v.n = c.at r + 1) = true from decide_eq_true ⟨h1,h2⟩]
    exact if_pos ⟨by omega,h3⟩
 have hm : remM [v] v = [] := by simp [remM]
 unfold drainL
 rw [hw]
 show drn 1 c [v] [] = _
 unfold drn
 rw [hn]
 dsimp only
 rw [hm,h1,Int.toNat_natCast]
 rfl
theorem recs_snoc {bs : List UInt8} {l : List Rc} {x : Rc} (h : Recs bs l []) (hx : mayR x = true) : Recs (bs ++ rcBytes x) (l ++ [x]) [] := by
 have e := h.eq
 rw [List.append_nil] at e
 refine ⟨fun r hr => ?_,?_,first_nil⟩
 · rcases List.mem_append.1 hr with hr | hr
   · exact h.may r hr
   · rw [List.mem_singleton.1 hr]; exact hx
 · rw [e,List.append_nil,rcsB_snoc]
theorem recs_part {bs : List UInt8} {l : List Rc} {x : Rc} (h : Recs bs l []) (hx : mayR x = true) {i : Nat} (hi : i < (rcBytes x).length) : Recs (bs ++ (rcBytes x).take i) l ((rcBytes x).take i) := by
 have e := h.eq
 rw [List.append_nil] at e
 exact ⟨h.may,by rw [e],first_cut x hx i hi⟩
theorem recs_no : Recs [] [] [] := ⟨by simp,rfl,first_nil⟩
def cfS : Cfg := ⟨2,1,4,4,4,3⟩
def cyK : ByteArray := ⟨#[99,121]⟩
def ed1 : Ed := ⟨1,cyK,0,⟨#[]⟩⟩
def ed2 : Ed := ⟨2,cyK,0,⟨#[]⟩⟩
def nv1 : Ev := ⟨1,1,clk0,1,1,cyK,0,⟨#[]⟩⟩
def nv2 : Ev := ⟨1,2,⟨0,1,0,0,0⟩,2,2,cyK,0,⟨#[]⟩⟩
def rc1 : Rc := ⟨1,1,0,clk0,[nv1]⟩
def rc2 : Rc := ⟨1,1,0,clk0,[nv2]⟩
def nS1 : Nd := ⟨cfS,1,true,⟨rcBytes rc1,false,false,0⟩,[nv1],0,⟨0,1,0,0,0⟩,[],[nv1]⟩
def nS2 : Nd := ⟨cfS,1,true,⟨rcBytes rc1,false,true,3⟩,[nv1],0,⟨0,1,0,0,0⟩,[],[nv1]⟩
def nS3 : Nd := ⟨cfS,1,false,⟨rcBytes rc1 ++ (rcBytes rc2).take 3,true,false,3⟩,[nv1],0,⟨0,1,0,0,0⟩,[],[nv1]⟩
def nS4 : Nd := ⟨cfS,1,true,⟨rcsB [rc1],false,false,3⟩,[nv1],0,⟨0,1,0,0,0⟩,[],[nv1]⟩
theorem nxt_nil {e : Ev} (h1 : belowB e e = false) (h2 : 1 ≤ e.k ∧ e.k ≤ 5) : Nxt (onP (eqK e.key) []) e := ⟨fun x hx => (by cases hx),fun x hx => (by cases hx),h1,fun x hx => (by cases hx),h2,fun x hx => (by cases hx)⟩
theorem Pst.mk' {P : List Ev} (one : OneStamp P) (hi : ∀ a ∈ P,∀ b ∈ P,belowB a b = true → a.h < b.h) (tr : ∀ a ∈ P,∀ b ∈ P,∀ c ∈ P,belowB a b = true → belowB b c = true → belowB a c = true) (key : ByteArray) : Pst (onP (eqK key) P) key := by
 have hs : ∀ x ∈ onP (eqK key) P,x ∈ P := fun x hx => (List.mem_filter.1 hx).1
 exact ⟨on_key,fun a ha b hb => one a (hs a ha) b (hs b hb),fun a ha b hb => hi a (hs a ha) b (hs b hb),fun a ha b hb c hc => tr a (hs a ha) b (hs b hb) c (hs c hc)⟩
theorem pst_nil (key : ByteArray) : Pst (onP (eqK key) []) key := Pst.mk' (fun a ha => by cases ha) (fun a ha => by cases ha) (fun a ha => by cases ha) key
theorem pst_one {e : Ev} (h : belowB e e = false) (key : ByteArray) : Pst (onP (eqK key) [e]) key :=
 Pst.mk' (fun a ha b hb _ => by rw [List.mem_singleton.1 ha,List.mem_singleton.1 hb]) (fun a ha b hb hq => by rw [List.mem_singleton.1 ha,List.mem_singleton.1 hb,h] at hq; cases hq)
  (fun a ha b hb c hc hq _ => by rw [List.mem_singleton.1 ha,List.mem_singleton.1 hc,h]; rw [List.mem_singleton.1 ha,List.mem_singleton.1 hb,h] at hq; cases hq) key
theorem ofB_nil : ofB [] = [] := by rw [of_same (l := []) (key := cyK) (fun x hx => by cases hx)]; rfl
theorem ofB_one : ofB [nv1] = [contactB cyK (countingB [nv1] (livingB [nv1]))] := by
 rw [of_same (l := [nv1]) (key := cyK) (fun x hx => by rw [List.mem_singleton.1 hx]; rfl)]
 rw [if_neg (fun h => by have : (livingB [nv1]).length = 0 := by rw [h]; rfl
                         revert this; decide)]
theorem valsF_len (A : List Ev) : (valsF A).length ≤ A.length := by
 unfold valsF
 refine Nat.le_trans (compact_le _) ?_
 unfold sortL
 rw [List.length_mergeSort,List.length_map]
 exact Nat.le_refl _
theorem adds_len (key : ByteArray) (l : Int) (ws : List Ev) : (addsB key l ws).length ≤ ws.length := List.length_filter_le ..
theorem of_sets (P : List Ev) (hP : P.length ≤ 1000000) : ∀ x ∈ ofB P,x.s0.length ≤ 1000000 ∧ x.s1.length ≤ 1000000 := fun x hx => by
 unfold ofB at hx
 obtain ⟨k,_,rfl⟩ := List.mem_map.1 hx
 have hc : (countingB P (livingB P)).length ≤ P.length := List.length_filter_le ..
 exact ⟨Nat.le_trans (Nat.le_trans (valsF_len _) (adds_len _ _ _)) (by omega),Nat.le_trans (Nat.le_trans (valsF_len _) (adds_len _ _ _)) (by omega)⟩
theorem clk0_at (q : Nat) : clk0.at q = 0 := by
 match q with
 | 0 => rfl
 | 1 => rfl
 | 2 => rfl
 | 3 => rfl
 | _ + 4 => rfl
theorem ndB0 (c : Cfg) (r : Nat) (hr : r < 5) : NdB (nd0 c r) where
 r := hr
 ic q := by show 0 ≤ clk0.at q ∧ clk0.at q ≤ 1000000; rw [clk0_at]; decide
 pst := pst_nil
 len := Nat.zero_le _
 hh e he := by cases he
 cs x hx := by rw [show ofB (nd0 c r).log = [] from ofB_nil] at hx; cases hx
 bs := Nat.zero_le _
 wl := Nat.zero_le _
 sent := ⟨Int.le_refl _,by show (0 : Int) ≤ 1000000; decide⟩
 wn j := by show 0 ≤ (([] : List Ev).getD j default).n ∧ (([] : List Ev).getD j default).n ≤ 1000000; rw [List.getD_nil]; decide
end Go.Proofs.YtimhagicagdkfaaGreat
