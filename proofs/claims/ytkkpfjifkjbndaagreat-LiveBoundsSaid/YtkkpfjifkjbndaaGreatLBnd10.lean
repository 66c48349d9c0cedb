/-
  Contracts of the walk: OpG, BkO, Ch, Mk1.
-/
import Derived.Test.YtkkpfjifkjbndaaGreatRows
import Derived.Test.YtkkpfjifkjbndaaGreatLBnd6
import Derived.ProofKit
import Derived.OpenShut
import Derived.SizedLaws
import Derived.ChangeOld
import Derived.Test.YtkkpfjifkjbndaaGreatLBnd9
/-
 The frame of every law's proof: if the call returns true and leaves all that was there as it was,the given statement holds; how the arguments of a law are opened,for the abstract machine.
-/
namespace Go.Proofs.YtkkpfjifkjbndaaGreat
open Go.ChangeShapes Go.WideShapes Go.ChangeAt Go.RowKit
theorem own : ownKnob Tryz.prog.godebug = none := by kernel_rfl
theorem laidOut : laidOutB Tryz.prog = true := by kernel_rfl
section
variable {H : Type} {enc : TypeId × Value → H}
theorem trodAll_below {W W' : World} (hb : Below W.heap.size W W') : ∀ (ts : List TypeId) (vs : List Value) (ds : List (DataW H)) (ps : List MemPlace),
  (∀ t ∈ ts,Tryz.prog.readableRec t = true ∧ t < Tryz.prog.types.size) → DataW.TrodAll enc Tryz.prog W 0 (fun _ => true) true ts vs ds ps → (∀ x ∈ ps,x.block < W.heap.size) →
  DataW.TrodAll enc Tryz.prog W' 0 (fun b => decide (b < W.heap.size)) true ts vs ds ps
  | [],vs,ds,ps,_,h,_ => by
   obtain ⟨rfl,rfl,rfl⟩ := trodAll_nil h
   exact trodAll_mk0
  | t :: ts,vs,ds,ps,ht,h,hlt => by
   obtain ⟨v,vs',d,ds',p,q,rfl,rfl,rfl,h0,h1⟩ := trodAll_cons h
   have hp := ht t (by simp)
   exact trodAll_cons_mk (Below.trod laidOut hp.1 hp.2 h0 hb (fun x hx => hlt x (by simp [hx]))) (trodAll_below hb ts vs' ds' q (fun u hu => ht u (by simp [hu])) h1 (fun x hx => hlt x (by simp [hx])))
set_option maxRecDepth 100000 in
theorem law_lifted (os : Os) (started : os.Started) (f : FuncId) (fn : Func) (s : ChangeSpec) (hvars : s.vars = []) (noInit : Tryz.prog.inits.idxOf? f = none) (hfn : Tryz.prog.funcs[f]? = some fn)
  (hres : fn.resultTypes = #[4]) (hparams : ∀ t ∈ fn.params.toList,Tryz.prog.readableRec t = true ∧ t < Tryz.prog.types.size)
  (hspec : ∀ ds : List (DataW H),ds.length = fn.params.toList.length → s.fn H ds = { results := [.lit (.bool true)],args := ds })
  (witness : ∃ (w : World) (tape : Tape) (i : Input),w.os = os ∧ (w.forCall tape i).Shaped Tryz.checked.prog ∧ i.vars = [] ∧ Input.okWide Tryz.checked.prog (w.forCall tape i) .any w.heap.size f i ∧
   s.pre6 enc Tryz.checked.prog fn [] false (w.forCall tape i).memory i.args ∧ ({} : Assume).holds Tryz.checked.prog (lone (Frame.enter Tryz.checked.prog f i.args .normal) [] (w.forCall tape i)))
  (walk : ∀ (W : World) (base : Nat) (args : Array Value) (ds : List (DataW H)) (p : List MemPlace),
   (∀ (j : Nat) t v,fn.params[j]? = some t → args[j]? = some v → Value.okWide Tryz.prog W .any base t v) →
   DataW.TrodAll enc Tryz.prog W 0 (fun _ => true) true fn.params.toList args.toList ds p →
   (DataW.weightsEach Tryz.prog fn.params.toList ds).all (· ≤ reachBytes) = true →
   Calls Tryz.prog f args W fun e W' => e = .returned (.bool true) ∧ Below W.heap.size W W') :
  ReturnsInHanded {} Tryz.checked os f .any (s.pre6 enc Tryz.prog fn [] false) (s.post enc Tryz.prog fn false true false false) := by
 refine returnsInHanded_of_change_sized (C := Tryz.checked) own started noInit hfn witness ?_
 intro W base args ds gs before hval0 hW _ hsz0 _
 have hval : ∀ (j : Nat) t v,fn.params[j]? = some t → args[j]? = some v → Value.okWide Tryz.prog W .any base t v := hval0
 have hW' := hW
 have hlt : ∀ x ∈ before,x.block < W.heap.size := fun x hx => by simpa using hW'.lt x hx
 obtain ⟨p,q,hA0,hV,rfl,hfz,hnd⟩ := hW
 have hA : DataW.TrodAll enc Tryz.prog W 0 (fun _ => true) true fn.params.toList args.toList ds p := hA0
 rw [hvars] at hV
 obtain ⟨rfl,rfl⟩ := trodVars_none hV
 simp only [List.append_nil] at hW' hlt
 have hsz : (DataW.weightsEach Tryz.prog fn.params.toList ds).all (· ≤ reachBytes) = true := by
  have h : (DataW.weightsEach Tryz.prog (fn.params.toList ++ s.plain.varTypes Tryz.prog) (ds ++ [])).all (· ≤ reachBytes) = true := hsz0
  have hv : s.plain.varTypes Tryz.prog = [] := by
   show s.vars.filterMap _ = []
   rw [hvars]; rfl
  simpa [hv] using h
 refine (walk W base args ds p hval hA hsz).mono fun e W' ⟨he,bel⟩ => ?_
 subst he
 have hlen : ds.length = fn.params.toList.length := trodAll_len fn.params.toList args.toList ds p hA
 have hsp := hspec ds hlen
 refine ⟨_,rfl,ds,[],p,[],p,[],hW',?_,?_,?_,bel.frame _,fun h => by cases h⟩
 · rw [List.append_nil,hsp,hres]
   exact trodAll_mk1 (shut_bool Tryz.underlying4 _)
 · rw [List.append_nil,hsp]
   exact trodAll_below bel _ _ _ _ hparams hA hlt
 · rw [hvars]
   rw [List.append_nil,hsp]
   rfl
where
 trodAll_len {W : World} : ∀ (ts : List TypeId) (vs : List Value) (ds : List (DataW H)) (ps : List MemPlace),DataW.TrodAll enc Tryz.prog W 0 (fun _ => true) true ts vs ds ps → ds.length = ts.length
   | [],vs,ds,ps,h => by
    obtain ⟨rfl,rfl,rfl⟩ := trodAll_nil h
    rfl
   | t :: ts,vs,ds,ps,h => by
    obtain ⟨v,vs',d,ds',p,q,rfl,rfl,rfl,h0,h1⟩ := trodAll_cons h
    simp [trodAll_len ts vs' ds' q h1]
end
abbrev allOf (w : World) : Nat → Prop := fun b => b < w.heap.size
structure Sh (t : TypeId) (S : List AV → Prop) : Prop where
 mk ::
 h : ∀ (H : Type) (enc : TypeId × Value → H) (w : World) (spare : Nat → Bool) (held : Bool) (fuel : Nat) (cs : List Value) (x : DataW H × List MemPlace),
  DataW.trod enc Tryz.prog w 0 spare held fuel t cs = some x → (∀ n ∈ x.1.weights Tryz.prog t,n ≤ reachBytes) → ∃ avs,All2 (PC w (allOf w)) avs cs ∧ S avs
theorem Sh.imp {t : TypeId} {S T : List AV → Prop} (h : Sh t S) (hi : ∀ avs,S avs → T avs) : Sh t T := ⟨fun _ _ _ _ _ _ _ _ h1 h2 => by
 obtain ⟨avs,h3,h4⟩ := h.h _ _ _ _ _ _ _ _ h1 h2
 exact ⟨avs,h3,hi avs h4⟩⟩
theorem sh_int {t : TypeId} {k : IntKind} (ht : Tryz.prog.underlying t = some (.int k)) : Sh t (fun avs => ∃ n : Int,avs = [.v (.int k n)] ∧ (Lit.int k n).wf = true) := ⟨fun _ _ _ _ _ _ _ _ h _ => by
 obtain ⟨n,rfl,rfl,hw⟩ := DataW.trod_int ht h
 exact ⟨_,All2.cons (PC.v _ rfl) All2.nil,n,rfl,hw⟩⟩
theorem sh_bool {t : TypeId} (ht : Tryz.prog.underlying t = some .bool) : Sh t (fun avs => ∃ b : Bool,avs = [.v (.bool b)]) := ⟨fun _ _ _ _ _ _ _ _ h _ => by
 obtain ⟨n,rfl,rfl⟩ := DataW.trod_bool ht h
 exact ⟨_,All2.cons (PC.v _ rfl) All2.nil,n,rfl⟩⟩
theorem sh_string {t : TypeId} (ht : Tryz.prog.underlying t = some .string) : Sh t (fun avs => ∃ s : ByteArray,avs = [.v (.string s)] ∧ s.size ≤ 140737488355328) := ⟨fun _ _ _ _ _ _ _ _ h hw => by
 obtain ⟨s,rfl,rfl,_⟩ := DataW.trod_string ht h
 refine ⟨_,All2.cons (PC.v _ rfl) All2.nil,s,rfl,?_⟩
 have := hw s.size (by simp [DataW.weights])
 have hr : reachBytes ≤ 140737488355328 := by decide
 omega⟩
def Cat : List (List AV → Prop) → List AV → Prop
  | [],avs => avs = []
  | S :: Ss,avs => ∃ a b,avs = a ++ b ∧ S a ∧ Cat Ss b
def Contig : Nat → List Field → Nat → Prop
  | o,[],m => o = m
  | o,f :: fs,m => f.offset = o ∧ Contig (o + Tryz.prog.cellsOf f.type) fs m
def contigB (c : TypeId → Nat) : Nat → List Field → Nat → Bool
  | o,[],m => Nat.beq o m
  | o,f :: fs,m => Nat.beq f.offset o && contigB c (o + c f.type) fs m
theorem contig_of : ∀ {o : Nat} {fs : List Field} {m : Nat},contigB Tryz.prog.cellsOf o fs m = true → Contig o fs m
  | _,[],_,h => Nat.eq_of_beq_eq_true h
  | _,_ :: _,_,h => by
   simp only [contigB,Bool.and_eq_true] at h
   exact ⟨Nat.eq_of_beq_eq_true h.1,contig_of h.2⟩
inductive ShL : List TypeId → List (List AV → Prop) → Prop where
  | nil : ShL [] []
  | cons {t : TypeId} {S : List AV → Prop} {ts : List TypeId} {Ss : List (List AV → Prop)} (h : Sh t S) (hs : ShL ts Ss) : ShL (t :: ts) (S :: Ss)
theorem sh_fields {H : Type} {enc : TypeId × Value → H} {w : World} {spare : Nat → Bool} {held : Bool} {fuel : Nat} {cs : List Value} : ∀ (fs : List Field) (xs : List (DataW H × List MemPlace)) (Ss : List (List AV → Prop)) (o : Nat),Contig o fs cs.length → xs.length = fs.length →
  (∀ (i : Nat) (f : Field),fs[i]? = some f → DataW.trod enc Tryz.prog w 0 spare held fuel f.type ((cs.drop f.offset).take (Tryz.prog.cellsOf f.type)) = xs[i]?) → ShL (fs.map (·.type)) Ss → (∀ n ∈ DataW.weightsEach Tryz.prog (fs.map (·.type)) (xs.map (·.1)),n ≤ reachBytes) →
  ∃ avs,All2 (PC w (allOf w)) avs (cs.drop o) ∧ Cat Ss avs
  | [],xs,Ss,o,hc,hl,_,hs,_ => by
   cases hs
   refine ⟨[],?_,rfl⟩
   rw [List.drop_eq_nil_of_le (by simp only [Contig] at hc; omega)]
   exact All2.nil
  | f :: fs,xs,_,o,hc,hl,hg,hs,hw => by
   cases hs with
   | cons hS hs' =>
    cases xs with
    | nil => simp at hl
    | cons x xs =>
     obtain ⟨ho,hc'⟩ := hc
     have g0 := hg 0 f rfl
     rw [ho] at g0
     simp only [List.map_cons,DataW.weightsEach,List.mem_append] at hw
     obtain ⟨a,ha,hSa⟩ := hS.h _ _ _ _ _ _ _ _ g0 (fun n hn => hw n (.inl hn))
     obtain ⟨b,hb,hSb⟩ := sh_fields fs xs _ (o + Tryz.prog.cellsOf f.type) hc' (by simpa using hl) (fun i g hi => hg (i + 1) g (by simpa using hi)) hs' (fun n hn => hw n (.inr hn))
     refine ⟨a ++ b,?_,a,b,rfl,hSa,hSb⟩
     have e : cs.drop o = (cs.drop o).take (Tryz.prog.cellsOf f.type) ++ cs.drop (o + Tryz.prog.cellsOf f.type) := by
      rw [← List.drop_drop,List.take_append_drop]
     rw [e]
     exact All2.app ha hb
theorem sh_struct {t : TypeId} {fs : Array Field} {Ss : List (List AV → Prop)} (ht : Tryz.prog.underlying t = some (.struct fs)) (hc0 : contigB Tryz.prog.cellsOf 0 fs.toList (Tryz.prog.cellsOf t) = true) {ts : List TypeId} (hts : fs.toList.map (·.type) = ts) (hs : ShL ts Ss) : Sh t (Cat Ss) := ⟨fun _ _ _ _ _ _ _ _ h hw => by
 subst hts
 have hc := contig_of hc0
 obtain ⟨xs,m,_,rfl,hlen,hxl,hg⟩ := DataW.trod_struct ht h
 rw [← hlen] at hc
 obtain ⟨avs,h1,h2⟩ := sh_fields fs.toList xs Ss 0 hc (by simpa using hxl) (fun i f hf => hg i f (by simpa using hf)) hs (by simpa [DataW.weights,ht] using hw)
 exact ⟨avs,by simpa using h1,h2⟩⟩
theorem cells_of {w : World} {a : Addr} {s : Nat} {cs : List Value} (h : w.cells? 0 a s = some cs) : cs.length = s ∧ ∀ i,i < s → w.cell? (a.add i) = cs[i]? := by
 unfold World.cells? at h
 rw [if_pos (Nat.zero_le _)] at h
 refine ⟨by simpa using mapM_some_length h,fun i hi => mapM_some_get h i i (by simp [hi])⟩
theorem add_add (a : Addr) (i j : Nat) : (a.add i).add j = a.add (i + j) := by
 unfold Addr.add
 by_cases hi : i = 0
 · subst hi; simp
 · by_cases hj : j = 0
   · subst hj; simp [hi]
   · simp [hi,hj,Nat.add_assoc]
theorem add_lit {b o j : Nat} : (⟨b,o,none⟩ : Addr).add j = ⟨b,o + j,none⟩ := by
 unfold Addr.add
 split
 · rename_i h; subst h; rfl
 · rfl
theorem flat_els {α : Type} [Inhabited α] (c : α → List AV) : ∀ l : List α,flat l.length (elsF c l) = l.flatMap c
  | [] => rfl
  | a :: l => by
   show elsF c (a :: l) 0 ++ flat l.length (fun i => elsF c (a :: l) (i + 1)) = _
   rw [List.flatMap_cons,← flat_els c l]
   rfl
theorem sh_slice {t e : TypeId} {s : Nat} {α : Type} [Inhabited α] {c : α → List AV} {good : α → Prop} (sc : Bool) (ht : Tryz.prog.underlying t = some (.slice e)) (he : Tryz.prog.cellsOf e = s) (hs0 : 0 < s) (hb : 0 < Tryz.prog.bytesOf e) (hlen : ∀ a,(c a).length = s) (hsc : sc = true → ∀ a,∀ x ∈ c a,∃ y,x = .v y)
  (hs : Sh e (fun avs => ∃ a,avs = c a ∧ good a)) : Sh t (fun avs => ∃ l : List α,avs = [.sl s l.length sc (elsF c l)] ∧ (∀ a ∈ l,good a) ∧ l.length ≤ 140737488355328) := by
 refine ⟨fun H enc w spare held fuel cs x h hw => ?_⟩
 rcases DataW.trod_slice ht h with ⟨rfl,rfl⟩ | ⟨a,len,cap,elems,rest,n,_,rfl,rfl,_,hlc,hcm,hel,hg,_,_⟩
 · refine ⟨[.sl s 0 sc (elsF c [])],All2.cons (.sl s 0 sc _ none 0 [] hs0 (Nat.le_refl _) (Nat.zero_le _) (by simp) (fun i hi => absurd hi (Nat.not_lt_zero _)) (fun _ x hx => by simp [flat] at hx) (fun i x u hx => by simp [flat] at hx) (.inl rfl)) All2.nil,[],rfl,(fun a ha => by cases ha),Nat.zero_le _⟩
 · rw [he] at hg
   simp only [DataW.weights,ht] at hw
   have hwb := hw ((elems.length + rest.length) * Tryz.prog.bytesOf e) (by simp)
   have hr : reachBytes ≤ 140737488355328 := by decide
   have hlm : elems.length ≤ 140737488355328 := by
    have : elems.length * 1 ≤ (elems.length + rest.length) * Tryz.prog.bytesOf e := Nat.mul_le_mul (Nat.le_add_right _ _) hb
    omega
   have hwe : ∀ n ∈ DataW.weightsAll Tryz.prog e (elems.map (·.1)),n ≤ reachBytes := fun n hn => hw n (by simp only [List.mem_cons,List.mem_append] at hn ⊢; simp [hn])
   have main : ∀ (k o : Nat) (elems : List (DataW H × List MemPlace)),elems.length = k → (∀ i,i < k → (w.cells? 0 (a.add ((o + i) * s)) s).bind (DataW.trod enc Tryz.prog w 0 spare held n e) = elems[i]?) → (∀ n ∈ DataW.weightsAll Tryz.prog e (elems.map (·.1)),n ≤ reachBytes) →
     ∃ (l : List α) (us : List Value),l.length = k ∧ us.length = k * s ∧ (∀ a ∈ l,good a) ∧ All2 (PC w (allOf w)) (l.flatMap c) us ∧ ∀ (j : Nat) (u : Value),us[j]? = some u → w.cell? (a.add (o * s + j)) = some u := by
    intro k
    induction k with
    | zero => intro o elems _ _ _; exact ⟨[],[],rfl,by simp,(fun a ha => by cases ha),All2.nil,fun j u hj => by simp at hj⟩
    | succ k ih =>
     intro o elems hl hg hw
     cases elems with
     | nil => simp at hl
     | cons x xs =>
      simp only [List.map_cons,DataW.weightsAll,List.mem_append] at hw
      obtain ⟨l,us,h1,h2,h3,h4,h5⟩ := ih (o + 1) xs (by simpa using hl) (fun i hi => by have := hg (i + 1) (by omega); rw [show o + 1 + i = o + (i + 1) by omega]; simpa using this) (fun n hn => hw n (.inr hn))
      have g0 := hg 0 (by omega)
      simp only [Nat.add_zero,List.getElem?_cons_zero,Option.bind_eq_some_iff] at g0
      obtain ⟨ds,hd1,hd2⟩ := g0
      obtain ⟨avs,ha,a0,rfl,hg0⟩ := hs.h _ _ _ _ _ _ _ _ hd2 (fun n hn => hw n (.inl hn))
      obtain ⟨hdl,hdc⟩ := cells_of hd1
      refine ⟨a0 :: l,ds ++ us,by simp [h1],by simp [hdl,h2,Nat.add_mul,Nat.add_comm],?_,by simpa using All2.app ha h4,fun j u hj => ?_⟩
      · intro a ha
        rcases List.mem_cons.1 ha with rfl | ha
        · exact hg0
        · exact h3 a ha
      · by_cases hjs : j < s
        · rw [List.getElem?_append_left (by omega)] at hj
          have := hdc j hjs
          rw [hj] at this
          rw [← this,← add_add a]
        · rw [List.getElem?_append_right (by omega),hdl] at hj
          have := h5 _ _ hj
          rw [← this,show (o + 1) * s + (j - s) = o * s + j by rw [Nat.add_mul]; omega]
   obtain ⟨l,us,h1,h2,h3,h4,h5⟩ := main elems.length 0 elems rfl (fun i hi => by simpa using hg i (by omega)) hwe
   have hfl : flat len (elsF c l) = l.flatMap c := by
    rw [← hel,← h1]
    exact flat_els c l
   refine ⟨[.sl s len sc (elsF c l)],All2.cons (.sl s len sc _ (some a) cap us hs0 hlc hcm (by rw [h2,hel]) (fun i _ => hlen _) (fun hsct x hx => ?_) (fun i x u hx hu => ?_) ?_) All2.nil,l,by rw [h1,hel],h3,by omega⟩
   · rw [hfl] at hx
     obtain ⟨a0,_,hx⟩ := List.mem_flatMap.1 hx
     exact hsc hsct a0 x hx
   · rw [hfl] at hx
     exact h4.2 i x u hx hu
   · by_cases h0 : len = 0
     · exact .inl h0
     · obtain ⟨b,o,sp⟩ := a
       have hpos : 0 < us.length := by rw [h2,hel]; exact Nat.mul_pos (by omega) hs0
       have c0 := h5 0 _ (List.getElem?_eq_getElem hpos)
       have hsp : sp = none := by simpa [Addr.add] using World.cell?_spot c0
       subst hsp
       refine .inr ⟨b,o,rfl,?_,fun j u hj => ?_⟩
       · rcases Nat.lt_or_ge b w.heap.size with h | h
         · exact h
         · exfalso
           unfold World.cell? at c0
           rw [Array.getElem?_eq_none (by simpa [Addr.add] using h)] at c0
           cases c0
       · have := h5 j u hj
         rw [Nat.zero_mul,Nat.zero_add] at this
         rw [← this,add_lit]
section
variable {H : Type} {enc : TypeId × Value → H} {w : World} {spare : Nat → Bool} {held : Bool} {v : Value} {d : DataW H} {p : List MemPlace} {r : Reach} {b0 : Nat}
theorem arg_one {t : TypeId} {S : List AV → Prop} (hs : Sh t S) (h1 : ∀ avs,S avs → avs.length = 1) (h : DataW.Trod enc Tryz.prog w 0 spare held t v d p) (hw : ∀ n ∈ d.weights Tryz.prog t,n ≤ reachBytes) (hv : v.cells.toList = [v]) : ∃ x,S [x] ∧ C1 ⟨w,allOf w,fun _ => undef⟩ x v := by
 obtain ⟨fuel,hf⟩ := h
 obtain ⟨avs,ha,hS⟩ := hs.h _ _ _ _ _ _ _ _ hf hw
 match avs,h1 avs hS with
 | [x],_ =>
  rw [hv] at ha
  exact ⟨x,hS,C1.of0 (C0.ofPC (X := ⟨w,allOf w,fun _ => undef⟩) (ha.2 0 x v rfl rfl))⟩
end
theorem weights_at {H : Type} {ts : List TypeId} {ds : List (DataW H)} (h : (DataW.weightsEach Tryz.prog ts ds).all (· ≤ reachBytes) = true) {j : Nat} {t : TypeId} {d : DataW H} (ht : ts[j]? = some t) (hd : ds[j]? = some d) :
  ∀ n ∈ d.weights Tryz.prog t,n ≤ reachBytes := fun n hn => by
 simpa using List.all_eq_true.1 h _ (DataW.weights_mem_each ht hd n hn)
theorem walk_of {f : FuncId} {avs : List AV} (h : ASpec Tryz.prog f avs (.v (.bool true)) []) {W : World} {args : List Value} (ha : All2 (C1 ⟨W,allOf W,fun _ => undef⟩) avs args) :
  Calls Tryz.prog f args.toArray W fun e W' => e = .returned (.bool true) ∧ Below W.heap.size W W' :=
 (h.2 W (allOf W) args (fun _ hb => hb) ha).mono fun e W' ⟨u,ρ,h1,h2,h3,_⟩ => ⟨by rw [h1,show u = .bool true from h3],h2⟩
end Go.Proofs.YtkkpfjifkjbndaaGreat

/-
 Arguments that are events,rows of events,bytes.
-/
namespace Go.Proofs.YtkkpfjifkjbndaaGreat
open Go.ChangeShapes Go.WideShapes Go.ChangeAt Go.RowKit
def Clk.cs (c : Clk) : List AV := [.v (.int .i64 c.c0), .v (.int .i64 c.c1), .v (.int .i64 c.c2), .v (.int .i64 c.c3), .v (.int .i64 c.c4)]
def Ev.rng (e : Ev) : Prop := e.key.size ≤ 140737488355328 ∧ e.v.size ≤ 140737488355328
theorem sh_bytes : Sh 23 (fun avs => ∃ l : List UInt8,avs = [.sl 1 l.length true (bytesF l)] ∧ l.length ≤ 140737488355328) :=
 (sh_slice (s := 1) (c := bC) (good := fun _ => True) true Tryz.underlying23 (by kernel_rfl) (by omega) (of_decide_eq_true (by kernel_rfl)) (fun _ => rfl) (fun _ a x hx => ⟨_,List.mem_singleton.1 hx⟩)
  ((sh_int Tryz.underlying5).imp fun avs ⟨n,e,hw⟩ => ⟨UInt8.ofNat n.toNat,by
   rw [e]
   have : 0 ≤ n ∧ n ≤ 255 := by simpa [Lit.wf,IntKind.min,IntKind.max,IntKind.signed,IntKind.bits] using hw
   show _ = [AV.v (.int .u8 ((UInt8.ofNat n.toNat).toNat : Int))]
   rw [UInt8.toNat_ofNat',Nat.mod_eq_of_lt (by omega)]
   congr 3
   omega,trivial⟩)).imp fun _ ⟨l,e,_,h⟩ => ⟨l,e,h⟩
section
variable {H : Type} {enc : TypeId × Value → H} {w : World} {spare : Nat → Bool} {held : Bool} {v : Value} {d : DataW H} {p : List MemPlace} {r : Reach} {b0 : Nat}
set_option maxRecDepth 100000 in
theorem arg_bytes (hv : Value.okWide Tryz.prog w r b0 23 v) (h : DataW.Trod enc Tryz.prog w 0 spare held 23 v d p) (hw : ∀ n ∈ d.weights Tryz.prog 23,n ≤ reachBytes) : ∃ l : List UInt8,l.length ≤ 140737488355328 ∧ C1 ⟨w,allOf w,fun _ => undef⟩ (.sl 1 l.length true (bytesF l)) v := by
 obtain ⟨a,n,c,rfl⟩ := okWide_slice Tryz.underlying23 hv
 obtain ⟨x,⟨l,e,hl⟩,hc⟩ := arg_one sh_bytes (fun _ ⟨l,e,_⟩ => by rw [e]; rfl) h hw rfl
 cases e
 exact ⟨l,hl,hc⟩
end
end Go.Proofs.YtkkpfjifkjbndaaGreat

/-
 Arguments that are choices,rows of choices,whole numbers.
-/
namespace Go.Proofs.YtkkpfjifkjbndaaGreat
open Go.ChangeShapes Go.WideShapes Go.ChangeAt Go.RowKit
structure Ch0 where
 (r f : Int) (sy : Bool) (k : Int) (key : ByteArray) (l : Int) (v : ByteArray)
instance : Inhabited Ch0 := ⟨⟨0,0,false,0,⟨#[]⟩,0,⟨#[]⟩⟩⟩
def Ch0.cs (c : Ch0) : List AV := [.v (.int .u8 c.r), .v (.int .u8 c.f), .v (.bool c.sy), .v (.int .i64 c.k), .v (.string c.key), .v (.int .i64 c.l), .v (.string c.v)]
def Ch0.av (c : Ch0) : AV := .agg c.cs
abbrev chF (l : List Ch0) : Nat → List AV := elsF Ch0.cs l
def Ch0.rng (c : Ch0) : Prop := (0 ≤ c.r ∧ c.r ≤ 255) ∧ (0 ≤ c.f ∧ c.f ≤ 255) ∧ -9223372036854775808 ≤ c.k ∧ c.k ≤ 9223372036854775807 ∧ -9223372036854775808 ≤ c.l ∧ c.l ≤ 9223372036854775807 ∧ c.key.size ≤ 140737488355328 ∧ c.v.size ≤ 140737488355328
theorem rng_u8 {n : Int} (h : (Lit.int .u8 n).wf = true) : 0 ≤ n ∧ n ≤ 255 := by simpa [Lit.wf,IntKind.min,IntKind.max,IntKind.signed,IntKind.bits] using h
theorem rng_i64 {n : Int} (h : (Lit.int .i64 n).wf = true) : -9223372036854775808 ≤ n ∧ n ≤ 9223372036854775807 := by simpa [Lit.wf,IntKind.min,IntKind.max,IntKind.signed,IntKind.bits] using h
theorem sh_edit : Sh 63 (fun avs => ∃ (k : Int) (key : ByteArray) (l : Int) (v : ByteArray),avs = [.v (.int .i64 k), .v (.string key), .v (.int .i64 l), .v (.string v)] ∧ (-9223372036854775808 ≤ k ∧ k ≤ 9223372036854775807) ∧ key.size ≤ 140737488355328 ∧ (-9223372036854775808 ≤ l ∧ l ≤ 9223372036854775807) ∧ v.size ≤ 140737488355328) :=
 (sh_struct Tryz.underlying63 (by kernel_rfl) rfl (.cons (sh_int Tryz.underlying3) (.cons (sh_string Tryz.underlying9) (.cons (sh_int Tryz.underlying3) (.cons (sh_string Tryz.underlying9) .nil))))).imp fun avs h => by
  obtain ⟨_,_,rfl,⟨a,rfl,ha⟩,_,_,rfl,⟨b,rfl,hb⟩,_,_,rfl,⟨c,rfl,hc⟩,_,_,rfl,⟨d,rfl,hd⟩,rfl⟩ := h
  exact ⟨a,b,c,d,rfl,rng_i64 ha,hb,rng_i64 hc,hd⟩
theorem sh_choice : Sh 65 (fun avs => ∃ c : Ch0,avs = c.cs ∧ c.rng) :=
 (sh_struct Tryz.underlying65 (by kernel_rfl) rfl (.cons (sh_int Tryz.underlying5) (.cons (sh_int Tryz.underlying5) (.cons (sh_bool Tryz.underlying4) (.cons sh_edit .nil))))).imp fun avs h => by
  obtain ⟨_,_,rfl,⟨a,rfl,ha⟩,_,_,rfl,⟨b,rfl,hb⟩,_,_,rfl,⟨s,rfl⟩,_,_,rfl,⟨k,key,l,v,rfl,h1,h2,h3,h4⟩,rfl⟩ := h
  exact ⟨⟨a,b,s,k,key,l,v⟩,rfl,rng_u8 ha,rng_u8 hb,h1.1,h1.2,h3.1,h3.2,h2,h4⟩
theorem sh_choices : Sh 22 (fun avs => ∃ l : List Ch0,avs = [.sl 7 l.length true (chF l)] ∧ (∀ e ∈ l,e.rng) ∧ l.length ≤ 140737488355328) :=
 sh_slice (s := 7) (c := Ch0.cs) (good := Ch0.rng) true Tryz.underlying22 (by kernel_rfl) (by omega) (of_decide_eq_true (by kernel_rfl)) (fun _ => rfl)
  (fun _ a x hx => by
   simp only [Ch0.cs,List.mem_cons,List.not_mem_nil,or_false] at hx
   rcases hx with rfl | rfl | rfl | rfl | rfl | rfl | rfl <;> exact ⟨_,rfl⟩) sh_choice
section
variable {H : Type} {enc : TypeId × Value → H} {w : World} {spare : Nat → Bool} {held : Bool} {v : Value} {d : DataW H} {p : List MemPlace} {r : Reach} {b0 : Nat}
set_option maxRecDepth 100000 in
theorem arg_choices (hv : Value.okWide Tryz.prog w r b0 22 v) (h : DataW.Trod enc Tryz.prog w 0 spare held 22 v d p) (hw : ∀ n ∈ d.weights Tryz.prog 22,n ≤ reachBytes) : ∃ l : List Ch0,(∀ e ∈ l,e.rng) ∧ l.length ≤ 140737488355328 ∧ C1 ⟨w,allOf w,fun _ => undef⟩ (.sl 7 l.length true (chF l)) v := by
 obtain ⟨a,n,c,rfl⟩ := okWide_slice Tryz.underlying22 hv
 obtain ⟨x,⟨l,e,hl,hm⟩,hc⟩ := arg_one sh_choices (fun _ ⟨l,e,_⟩ => by rw [e]; rfl) h hw rfl
 cases e
 exact ⟨l,hl,hm,hc⟩
end
end Go.Proofs.YtkkpfjifkjbndaaGreat

/-
 Makers of pasts: clocks joined and compared; how high; edits that may be.
-/
namespace Go.Proofs.YtkkpfjifkjbndaaGreat
open Go.RowKit
def mxI (a b : Int) : Int := if b > a then b else a
def Clk.join (a b : Clk) : Clk := ⟨mxI a.c0 b.c0,mxI a.c1 b.c1,mxI a.c2 b.c2,mxI a.c3 b.c3,mxI a.c4 b.c4⟩
def Clk.le (a b : Clk) : Bool := decide (a.c0 ≤ b.c0 ∧ a.c1 ≤ b.c1 ∧ a.c2 ≤ b.c2 ∧ a.c3 ≤ b.c3 ∧ a.c4 ≤ b.c4)
set_option maxRecDepth 100000 in
theorem join_spec (a b : Clk) : ASpec Tryz.prog 26 [a.av,b.av] (a.join b).av [] := by
 dsimp only [Clk.av,Clk.join]
 refine aspec_of lay_ok 639 Tryz.func26 rfl rfl rfl ?_
 repeat' ((conv => whnf); first | refine Spl.yes (by first | assumption | omega) ?_ | refine Spl.no (by first | assumption | omega) ?_ | refine Wr.i64 (by omega) (by omega) ?_ | refine Still.mk rfl rfl ?_ | refine InB.mk (inB_mk (by omega) (by omega)) ?_ | refine Req.mk (by omega) ?_ | refine Req.mk ⟨by first | omega | (dsimp only; omega),by first | omega | (dsimp only; omega)⟩ ?_ | refine ALoop.unr 6 6 rfl ?_ | refine ARet.hdI ?_ | refine Spl.mk (fun _ => ?_) (fun _ => ?_) | refine InA.mk (inB_mk (by omega) (by omega)) ?_ | refine Wr.b64 ?_ | refine Wr.bu64 ?_ | refine Wr.bu32 ?_ | refine Wr.bu8 ?_ | refine Wr.u8 (by omega) (by omega) ?_ | refine Wr.u64 (by omega) (by omega) ?_ | refine Wr.u32 (by omega) (by omega) ?_ | refine Dv.pos (by omega) (by omega) ?_ | refine Rm.pos (by omega) (by omega) ?_ | refine ADraw.quiet follows_ok (by kernel_rfl) rfl ?_ | refine ADraw.sched (id := 5) lay_ok (awp_snd lay_ok _) [(0,none),(1,none),(2,none),(3,none),(4,none),(5,none),(6,none),(7,none),(8,none),(9,some [7,6,3])] [(7,[6,3]),(8,[7,6,3]),(9,[7,6,3])] follows_ok (by kernel_rfl) ?_ | refine BSpl.decY (by first | assumption | omega) ?_ | refine BSpl.decN (by first | assumption | omega) ?_ | refine BSpl.dec (fun _ => ?_) (fun _ => ?_) | refine BSpl.yes (by assumption) ?_ | refine BSpl.no (by assumption) ?_ | refine BSpl.mk (fun _ => ?_) (fun _ => ?_))
 conv => whnf
 exact AEqI.mk (AEq.refl _)
def hStep (c : Clk) (s : Int × Bool) (e : Ev) : Int × Bool := if (hasB c e.r e.n && (!s.2 || decide (s.1 < e.h))) = true then (e.h,true) else s
def hgtF (c : Clk) (l : List Ev) : Int × Bool := l.foldl (hStep c) (0,false)
def hgt (l : List Ev) (c : Clk) : Int := (hgtF c l).1 + 1
theorem fold_take {α β : Type} [Inhabited α] {f : β → α → β} {b : β} {l : List α} {j : Nat} (h : j < l.length) : (l.take (j + 1)).foldl f b = f ((l.take j).foldl f b) (l.getD j default) := by
 rw [List.take_add_one,List.getElem?_eq_getElem h,List.getD,List.getElem?_eq_getElem h,List.foldl_append]
 rfl
theorem hgtF_bnd {c : Clk} {M : Int} (hM : 0 ≤ M) : ∀ (l : List Ev),(∀ e ∈ l,0 ≤ e.h ∧ e.h ≤ M) → ∀ s : Int × Bool,0 ≤ s.1 ∧ s.1 ≤ M → 0 ≤ (l.foldl (hStep c) s).1 ∧ (l.foldl (hStep c) s).1 ≤ M
  | [],_,s,hs => hs
  | e :: l,h,s,hs => by
   rw [List.foldl_cons]
   refine hgtF_bnd hM l (fun x hx => h x (List.mem_cons_of_mem _ hx)) _ ?_
   unfold hStep
   split
   · exact h e List.mem_cons_self
   · exact hs
theorem hgt_bnd {c : Clk} {M : Int} (hM : 0 ≤ M) {l : List Ev} (h : ∀ e ∈ l,0 ≤ e.h ∧ e.h ≤ M) : 1 ≤ hgt l c ∧ hgt l c ≤ M + 1 := by
 have := hgtF_bnd (c := c) hM l h (0,false) ⟨by simp,hM⟩
 unfold hgt hgtF
 omega
set_option maxHeartbeats 8000000 in
set_option maxRecDepth 100000 in
theorem height_spec (l : List Ev) (c : Clk) (hl : l.length ≤ 1000000000) (hh : ∀ e ∈ l,0 ≤ e.h ∧ e.h ≤ 1000000000) :
  ASpec Tryz.prog 28 [.sl 12 l.length true (evF l),c.av] (.v (.int .i64 (hgt l c))) [] := by
 dsimp only [Clk.av]
 refine aspec_of lay_ok 1099511632379 Tryz.func28 rfl rfl rfl ?_
 repeat' ((conv => whnf); first | refine Spl.yes (by first | assumption | omega) ?_ | refine Spl.no (by first | assumption | omega) ?_ | refine Wr.i64 (by omega) (by omega) ?_ | refine Still.mk rfl rfl ?_ | refine InB.mk (inB_mk (by omega) (by omega)) ?_ | refine Req.mk (by omega) ?_ | refine Req.mk ⟨by first | omega | (dsimp only; omega),by first | omega | (dsimp only; omega)⟩ ?_ | refine ARet.hdI ?_ | refine Spl.mk (fun _ => ?_) (fun _ => ?_) | refine InA.mk (inB_mk (by omega) (by omega)) ?_ | refine Wr.b64 ?_ | refine Wr.bu64 ?_ | refine Wr.bu32 ?_ | refine Wr.bu8 ?_ | refine Wr.u8 (by omega) (by omega) ?_ | refine Wr.u64 (by omega) (by omega) ?_ | refine Wr.u32 (by omega) (by omega) ?_ | refine Dv.pos (by omega) (by omega) ?_ | refine Rm.pos (by omega) (by omega) ?_ | refine ADraw.quiet follows_ok (by kernel_rfl) rfl ?_ | refine ADraw.sched (id := 6) lay_ok (awp_snd lay_ok _) [(0,none),(1,none),(2,none),(3,none),(4,none),(5,none),(6,none),(7,none),(8,none),(9,none),(10,none),(11,some [10,5,0]),(12,none)] [(11,[10,5,0]),(12,[10,5,0])] follows_ok (by kernel_rfl) ?_ | refine BSpl.decY (by first | assumption | omega) ?_ | refine BSpl.decN (by first | assumption | omega) ?_ | refine BSpl.dec (fun _ => ?_) (fun _ => ?_) | refine BSpl.yes (by assumption) ?_ | refine BSpl.no (by assumption) ?_ | refine BSpl.mk (fun _ => ?_) (fun _ => ?_))
 conv => whnf
 refine ALoop.mk { x : Nat × (Int × Bool) // x.1 ≤ l.length ∧ x.2 = hgtF c (l.take x.1) } (fun x => ⟨[(0, .sl 12 l.length true (evF l)),(3, .box 0 0),(5, .v (.int .i64 x.1.2.1)),(6, .v (.bool x.1.2.2)),(7, .v (.int .i64 (x.1.1 : Int)))],
   [(0, .box 34 c.cs)],[],1⟩) (fun x => l.length - x.1.1) ⟨(0,(0,false)),Nat.zero_le _,rfl⟩ _
  (LeR.mk' [] _ _ _ rfl ⟨AEq.refl _,AEq.refl _,AEq.refl _,AEq.refl _,AEq.int rfl,trivial⟩ ⟨⟨_,rfl,OEq.refl _⟩,trivial⟩ rfl) ?_
 rintro ⟨⟨j,s⟩,hj,hs⟩
 dsimp only at hj hs ⊢
 have hb := hgtF_bnd (c := c) (M := 1000000000) (by omega) (l.take j) (fun e he => hh e (List.mem_of_mem_take he)) (0,false) (by simp)
 have hs' : s = (l.take j).foldl (hStep c) (0,false) := hs
 rw [← hs'] at hb
 by_cases hjl : j < l.length
 · have hhas := has3_spec c (l.getD (j : Int).toNat default).r (l.getD (j : Int).toNat default).n
   have hft : hgtF c (l.take (j + 1)) = hStep c s (l.getD (j : Int).toNat default) := by rw [hs]; exact fold_take hjl
   have hst : hStep c s (l.getD (j : Int).toNat default) = if (hasB c (l.getD (j : Int).toNat default).r (l.getD (j : Int).toNat default).n && (!s.2 || decide (s.1 < (l.getD (j : Int).toNat default).h))) = true then ((l.getD (j : Int).toNat default).h,true) else s := rfl
   rw [hst] at hft
   generalize hasB c (l.getD (j : Int).toNat default).r (l.getD (j : Int).toNat default).n = q at hhas hft
   clear hs' hst hs hh
   obtain ⟨s1,s2⟩ := s
   dsimp only at hb hft ⊢
   have k1 : q = true → s2 = false → ((l.getD (j : Int).toNat default).h,true) = hgtF c (l.take (j + 1)) := fun h1 h2 => by rw [hft,h1,h2]; simp
   have k2 : q = true → s1 < (l.getD (j : Int).toNat default).h → ((l.getD (j : Int).toNat default).h,true) = hgtF c (l.take (j + 1)) := fun h1 h2 => by rw [hft,h1,decide_eq_true h2]; simp
   have k3 : q = false → (s1,s2) = hgtF c (l.take (j + 1)) := fun h1 => by rw [hft,h1]; simp
   have k4 : s2 = true → ¬ s1 < (l.getD (j : Int).toNat default).h → (s1,s2) = hgtF c (l.take (j + 1)) := fun h1 h2 => by rw [hft,h1,decide_eq_false h2]; simp
   clear hft
   dsimp only [Clk.av,Clk.cs] at hhas ⊢
   repeat' ((conv => whnf); first | refine Spl.yes (by first | assumption | omega) ?_ | refine Spl.no (by first | assumption | omega) ?_ | refine Wr.i64 (by omega) (by omega) ?_ | refine Still.mk rfl rfl ?_ | refine InB.mk (inB_mk (by omega) (by omega)) ?_ | refine Req.mk (by omega) ?_ | refine Req.mk ⟨by first | omega | (dsimp only; omega),by first | omega | (dsimp only; omega)⟩ ?_ | refine ACall.plain _ _ (hhas) (SubL.cons (.eq _) (SubL.cons (.eq _) (SubL.cons (.eq _) .nil))) rfl ?_ | refine ARet.hdI ?_ | refine Spl.mk (fun _ => ?_) (fun _ => ?_) | refine InA.mk (inB_mk (by omega) (by omega)) ?_ | refine Wr.b64 ?_ | refine Wr.bu64 ?_ | refine Wr.bu32 ?_ | refine Wr.bu8 ?_ | refine Wr.u8 (by omega) (by omega) ?_ | refine Wr.u64 (by omega) (by omega) ?_ | refine Wr.u32 (by omega) (by omega) ?_ | refine Dv.pos (by omega) (by omega) ?_ | refine Rm.pos (by omega) (by omega) ?_ | refine ADraw.quiet follows_ok (by kernel_rfl) rfl ?_ | refine ADraw.sched (id := 6) lay_ok (awp_snd lay_ok _) [(0,none),(1,none),(2,none),(3,none),(4,none),(5,none),(6,none),(7,none),(8,none),(9,none),(10,none),(11,some [10,5,0]),(12,none)] [(11,[10,5,0]),(12,[10,5,0])] follows_ok (by kernel_rfl) ?_ | refine BSpl.decY (by first | assumption | omega) ?_ | refine BSpl.decN (by first | assumption | omega) ?_ | refine BSpl.dec (fun _ => ?_) (fun _ => ?_) | refine BSpl.yes (by assumption) ?_ | refine BSpl.no (by assumption) ?_ | refine BSpl.mk (fun _ => ?_) (fun _ => ?_))
   all_goals (conv => whnf)
   all_goals first
     | exact ⟨⟨(j + 1,(_,true)),hjl,by first | exact k1 (by assumption) (by assumption) | exact k2 (by assumption) (by omega)⟩,_,LeR.mk' [] _ _ _ rfl ⟨AEq.refl _,AEq.refl _,AEq.refl _,AEq.refl _,AEq.int rfl,trivial⟩ ⟨⟨_,rfl,OEq.refl _⟩,trivial⟩ rfl,Nat.sub_succ_lt_self _ _ hjl⟩
     | exact ⟨⟨(j + 1,(s1,s2)),hjl,by first | exact k3 (by assumption) | exact k4 (by assumption) (by omega)⟩,_,LeR.mk' [] _ _ _ rfl ⟨AEq.refl _,AEq.refl _,AEq.refl _,AEq.refl _,AEq.int rfl,trivial⟩ ⟨⟨_,rfl,OEq.refl _⟩,trivial⟩ rfl,Nat.sub_succ_lt_self _ _ hjl⟩
 · rw [List.take_of_length_le (show l.length ≤ j by omega)] at hs
   have hR : hgt l c = s.1 + 1 := by rw [hs]; rfl
   rw [hR]
   repeat' ((conv => whnf); first | refine Spl.yes (by first | assumption | omega) ?_ | refine Spl.no (by first | assumption | omega) ?_ | refine Wr.i64 (by omega) (by omega) ?_ | refine Still.mk rfl rfl ?_ | refine InB.mk (inB_mk (by omega) (by omega)) ?_ | refine Req.mk (by omega) ?_ | refine Req.mk ⟨by first | omega | (dsimp only; omega),by first | omega | (dsimp only; omega)⟩ ?_ | refine ARet.hdI ?_ | refine Spl.mk (fun _ => ?_) (fun _ => ?_) | refine InA.mk (inB_mk (by omega) (by omega)) ?_ | refine Wr.b64 ?_ | refine Wr.bu64 ?_ | refine Wr.bu32 ?_ | refine Wr.bu8 ?_ | refine Wr.u8 (by omega) (by omega) ?_ | refine Wr.u64 (by omega) (by omega) ?_ | refine Wr.u32 (by omega) (by omega) ?_ | refine Dv.pos (by omega) (by omega) ?_ | refine Rm.pos (by omega) (by omega) ?_ | refine ADraw.quiet follows_ok (by kernel_rfl) rfl ?_ | refine ADraw.sched (id := 6) lay_ok (awp_snd lay_ok _) [(0,none),(1,none),(2,none),(3,none),(4,none),(5,none),(6,none),(7,none),(8,none),(9,none),(10,none),(11,some [10,5,0]),(12,none)] [(11,[10,5,0]),(12,[10,5,0])] follows_ok (by kernel_rfl) ?_ | refine BSpl.decY (by first | assumption | omega) ?_ | refine BSpl.decN (by first | assumption | omega) ?_ | refine BSpl.dec (fun _ => ?_) (fun _ => ?_) | refine BSpl.yes (by assumption) ?_ | refine BSpl.no (by assumption) ?_ | refine BSpl.mk (fun _ => ?_) (fun _ => ?_))
   conv => whnf
   exact AEqI.mk (AEq.refl _)
def Ed.cs (e : Ed) : List AV := [.v (.int .i64 e.k), .v (.string e.key), .v (.int .i64 e.l), .v (.string e.v)]
def Ed.av (e : Ed) : AV := .agg e.cs
def sumB (l : List UInt8) : Nat := (l.map fun b => b.toNat).sum
theorem sumB_le : ∀ l : List UInt8,sumB l ≤ 255 * l.length
  | [] => by simp [sumB]
  | b :: l => by
   have := sumB_le l
   have := UInt8.toNat_lt b
   simp only [sumB,List.map_cons,List.sum_cons,List.length_cons] at *
   omega
theorem sumB_take {l : List UInt8} {j : Nat} (h : j < l.length) : sumB (l.take (j + 1)) = sumB (l.take j) + (l.getD j 0).toNat := by
 rw [List.take_add_one,List.getElem?_eq_getElem h,List.getD,List.getElem?_eq_getElem h,sumB,List.map_append,List.sum_append]
 simp [sumB]
theorem sumB_all {l : List UInt8} {j : Nat} (h : l.length ≤ j) : sumB (l.take j) = sumB l := by rw [List.take_of_length_le h]
def ks3 (n : Nat) : ByteArray := if (n : Int) % 3 = 0 then ⟨#[97,110,110]⟩ else if (n : Int) % 3 = 1 then ⟨#[98,111,98]⟩ else ⟨#[99,121]⟩
def vs4 (n : Nat) : ByteArray := if (n : Int) % 4 = 0 then ⟨#[49]⟩ else if (n : Int) % 4 = 1 then ⟨#[116,119,111]⟩ else if (n : Int) % 4 = 2 then ⟨#[0,255]⟩ else ⟨#[116,119,101,108,118,101,32,98,121,116,101,115]⟩
def andI (x m : Int) : Int := IntKind.i64.wrap ((BitVec.ofInt IntKind.i64.bits x &&& BitVec.ofInt IntKind.i64.bits m).toNat : Int)
def m5 (x : Int) : Int := (x.tmod 5 + 5) % 5
def fitEd (e : Ed) : Ed :=
 if 2 < 1 + m5 e.k then ⟨1 + m5 e.k,ks3 (sumB e.key.data.toList),andI e.l 1,vs4 (sumB e.v.data.toList)⟩ else ⟨1 + m5 e.k,ks3 (sumB e.key.data.toList),0,⟨#[]⟩⟩
theorem tmod5 (k : Int) : -5 < k.tmod 5 ∧ k.tmod 5 < 5 := by
 have h1 := Int.tmod_lt_of_pos k (show (0 : Int) < 5 by decide)
 have h2 := Int.lt_tmod_of_pos k (show (0 : Int) < 5 by decide)
 omega
theorem andI_low (x : Int) (m : Nat) (hm : m ≤ 4294967296) : 0 ≤ andI x (m : Int) ∧ andI x (m : Int) ≤ m := by
 have h : (BitVec.ofInt 64 x &&& BitVec.ofInt 64 (m : Int)).toNat ≤ m := by
  rw [BitVec.toNat_and,BitVec.ofInt_natCast,BitVec.toNat_ofNat]
  exact Nat.le_trans Nat.and_le_right (Nat.mod_le _ _)
 show 0 ≤ IntKind.i64.wrap ((BitVec.ofInt 64 x &&& BitVec.ofInt 64 (m : Int)).toNat : Int) ∧ IntKind.i64.wrap ((BitVec.ofInt 64 x &&& BitVec.ofInt 64 (m : Int)).toNat : Int) ≤ m
 rw [IntKind.wrap_i64]
 omega
theorem andI_1 (x : Int) : 0 ≤ andI x 1 ∧ andI x 1 ≤ 1 := andI_low x 1 (by omega)
theorem Rm.m3 {a : Int} {K : Int → Prop} (h : 0 ≤ a) (h0 : a % 3 = 0 → K 0) (h1 : a % 3 = 1 → K 1) (h2 : a % 3 = 2 → K 2) : Rm a 3 K := by
 refine .pos h (by omega) ?_
 rcases (show a % 3 = 0 ∨ a % 3 = 1 ∨ a % 3 = 2 by omega) with e | e | e
 · rw [e]; exact h0 e
 · rw [e]; exact h1 e
 · rw [e]; exact h2 e
theorem Rm.m4 {a : Int} {K : Int → Prop} (h : 0 ≤ a) (h0 : a % 4 = 0 → K 0) (h1 : a % 4 = 1 → K 1) (h2 : a % 4 = 2 → K 2) (h3 : a % 4 = 3 → K 3) : Rm a 4 K := by
 refine .pos h (by omega) ?_
 rcases (show a % 4 = 0 ∨ a % 4 = 1 ∨ a % 4 = 2 ∨ a % 4 = 3 by omega) with e | e | e | e
 · rw [e]; exact h0 e
 · rw [e]; exact h1 e
 · rw [e]; exact h2 e
 · rw [e]; exact h3 e
theorem Rm.raw5 {a : Int} {K : Int → Prop} (h : K (a.tmod 5)) : Rm a 5 K := .raw (by decide) h
theorem Rm.is {a b c : Int} {K : Int → Prop} (h : 0 ≤ a) (hb : 0 < b) (hq : a % b = c) (k : K c) : Rm a b K := .pos h hb (by rw [hq]; exact k)
def keysV : List AV := [.v (.string ⟨#[97,110,110]⟩), .v (.string ⟨#[98,111,98]⟩), .v (.string ⟨#[99,121]⟩)]
def valsV : List AV := [.v (.string ⟨#[49]⟩), .v (.string ⟨#[116,119,111]⟩), .v (.string ⟨#[0,255]⟩), .v (.string ⟨#[116,119,101,108,118,101,32,98,121,116,101,115]⟩)]
def edZ : List AV := [.v (.int .i64 0), .v (.string ⟨#[]⟩), .v (.int .i64 0), .v (.string ⟨#[]⟩)]
set_option maxHeartbeats 8000000 in
set_option maxRecDepth 100000 in
theorem fit05_spec (e : Ed) (hk : e.key.size ≤ 140737488355328) (hv : e.v.size ≤ 140737488355328) : ASpec Tryz.prog 27 [e.av] (fitEd e).av [] := by
 obtain ⟨k,key,l,v⟩ := e
 dsimp only at hk hv
 dsimp only [Ed.av,Ed.cs]
 obtain ⟨ht1,ht2⟩ := tmod5 k
 refine aspec_of lay_ok 9007200328549375 Tryz.func27 rfl rfl rfl ?_
 repeat' ((conv => whnf); first | refine Spl.yes (by first | assumption | omega) ?_ | refine Spl.no (by first | assumption | omega) ?_ | refine Wr.i64 (by omega) (by omega) ?_ | refine Still.mk rfl rfl ?_ | refine InB.mk (inB_mk (by omega) (by omega)) ?_ | refine Req.mk (by omega) ?_ | refine Req.mk ⟨by first | omega | (dsimp only; omega),by first | omega | (dsimp only; omega)⟩ ?_ | refine Spl.mk (fun _ => ?_) (fun _ => ?_) | refine InA.mk (inB_mk (by omega) (by omega)) ?_ | refine Wr.b64 ?_ | refine Wr.bu64 ?_ | refine Wr.bu32 ?_ | refine Wr.bu8 ?_ | refine Wr.u8 (by omega) (by omega) ?_ | refine Wr.u64 (by omega) (by omega) ?_ | refine Wr.u32 (by omega) (by omega) ?_ | refine Dv.pos (by omega) (by omega) ?_ | refine Rm.pos (by omega) (by omega) ?_ | refine ADraw.quiet follows_ok (by kernel_rfl) rfl ?_ | refine ADraw.sched (id := 13) lay_ok (awp_snd lay_ok _) [(0,none),(1,none),(2,none),(3,none),(4,none),(5,none),(6,none),(7,none),(8,none),(9,none),(10,none),(11,some []),(12,some [9,7,5,4,3,2,1])] [(2,[1]),(3,[2,1]),(4,[3,2,1]),(5,[4,3,2,1]),(8,[7]),(9,[7]),(10,[9,7,5,4,3,2,1]),(11,[]),(12,[9,7,5,4,3,2,1])] follows_ok (by kernel_rfl) ?_ | refine BSpl.decY (by first | assumption | omega) ?_ | refine BSpl.decN (by first | assumption | omega) ?_ | refine BSpl.dec (fun _ => ?_) (fun _ => ?_) | refine BSpl.yes (by assumption) ?_ | refine BSpl.no (by assumption) ?_ | refine BSpl.mk (fun _ => ?_) (fun _ => ?_))
 conv => whnf
 refine ALoop.mk { j : Nat // j ≤ key.size } (fun j => ⟨[(1, .box 0 0),(2, .box 1 0),(3, .box 2 0),(4, .box 3 0),(5, .v (.int .i64 (sumB (key.data.toList.take j.1) : Int))),(6, .v (.int .i64 (j.1 : Int)))],
  [(0, .box 63 [.v (.int .i64 k), .v (.string key), .v (.int .i64 l), .v (.string v)]),(1, .box 63 edZ),(2, .box 110 keysV),(3, .box 111 valsV)],[],4⟩) (fun j => key.size - j.1) ⟨0,Nat.zero_le _⟩ _
  (LeR.mk' [] _ _ _ rfl ⟨AEq.refl _,AEq.refl _,AEq.refl _,AEq.refl _,AEq.int (by simp [sumB]),AEq.int rfl,trivial⟩ ⟨⟨_,rfl,OEq.refl _⟩,⟨_,rfl,OEq.refl _⟩,⟨_,rfl,OEq.refl _⟩,⟨_,rfl,OEq.refl _⟩,trivial⟩ rfl) ?_
 rintro ⟨j,hj⟩
 dsimp only
 have hb1 := sumB_le (key.data.toList.take j)
 rw [List.length_take] at hb1
 have hb2 := UInt8.toNat_lt (key.data.toList.getD (j : Int).toNat 0)
 repeat' ((conv => whnf); first | refine Spl.yes (by first | assumption | omega) ?_ | refine Spl.no (by first | assumption | omega) ?_ | refine Wr.i64 (by omega) (by omega) ?_ | refine Still.mk rfl rfl ?_ | refine InB.mk (inB_mk (by omega) (by omega)) ?_ | refine Req.mk (by omega) ?_ | refine Req.mk ⟨by first | omega | (dsimp only; omega),by first | omega | (dsimp only; omega)⟩ ?_ | refine Spl.mk (fun _ => ?_) (fun _ => ?_) | refine InA.mk (inB_mk (by omega) (by omega)) ?_ | refine Wr.b64 ?_ | refine Wr.bu64 ?_ | refine Wr.bu32 ?_ | refine Wr.bu8 ?_ | refine Wr.u8 (by omega) (by omega) ?_ | refine Wr.u64 (by omega) (by omega) ?_ | refine Wr.u32 (by omega) (by omega) ?_ | refine Dv.pos (by omega) (by omega) ?_ | refine Rm.pos (by omega) (by omega) ?_ | refine ADraw.quiet follows_ok (by kernel_rfl) rfl ?_ | refine ADraw.sched (id := 13) lay_ok (awp_snd lay_ok _) [(0,none),(1,none),(2,none),(3,none),(4,none),(5,none),(6,none),(7,none),(8,none),(9,none),(10,none),(11,some []),(12,some [9,7,5,4,3,2,1])] [(2,[1]),(3,[2,1]),(4,[3,2,1]),(5,[4,3,2,1]),(8,[7]),(9,[7]),(10,[9,7,5,4,3,2,1]),(11,[]),(12,[9,7,5,4,3,2,1])] follows_ok (by kernel_rfl) ?_ | refine BSpl.decY (by first | assumption | omega) ?_ | refine BSpl.decN (by first | assumption | omega) ?_ | refine BSpl.dec (fun _ => ?_) (fun _ => ?_) | refine BSpl.yes (by assumption) ?_ | refine BSpl.no (by assumption) ?_ | refine BSpl.mk (fun _ => ?_) (fun _ => ?_))
 · rename_i hlt
   refine ⟨⟨j + 1,by omega⟩,_,LeR.mk' [] _ _ _ rfl ⟨AEq.refl _,AEq.refl _,AEq.refl _,AEq.refl _,AEq.int ?_,AEq.int ?_,trivial⟩ ⟨⟨_,rfl,OEq.refl _⟩,⟨_,rfl,OEq.refl _⟩,⟨_,rfl,OEq.refl _⟩,⟨_,rfl,OEq.refl _⟩,trivial⟩ rfl,?_⟩
   · rw [sumB_take (by rw [str_len]; omega)]
     simp
   · simp
   · show key.size - (j + 1) < key.size - j
     omega
 rename_i hge
 have hje : sumB (key.data.toList.take j) = sumB key.data.toList := sumB_all (by rw [str_len]; omega)
 rw [hje] at *
 clear hb2 hge hj hb1 hje
 have hb1 := sumB_le key.data.toList
 rw [str_len] at hb1
 conv => whnf
 refine ALoop.mk { j : Nat // j ≤ v.size } (fun j => ⟨[(1, .box 0 0),(2, .box 1 0),(3, .box 2 0),(4, .box 3 0),(5, .v (.int .i64 (sumB key.data.toList : Int))),(7, .v (.int .i64 (sumB (v.data.toList.take j.1) : Int))),(8, .v (.int .i64 (j.1 : Int)))],
  [(0, .box 63 [.v (.int .i64 k), .v (.string key), .v (.int .i64 l), .v (.string v)]),(1, .box 63 edZ),(2, .box 110 keysV),(3, .box 111 valsV)],[],4⟩) (fun j => v.size - j.1) ⟨0,Nat.zero_le _⟩ _
  (LeR.mk' [] _ _ _ rfl ⟨AEq.refl _,AEq.refl _,AEq.refl _,AEq.refl _,AEq.refl _,AEq.int (by simp [sumB]),AEq.int rfl,trivial⟩ ⟨⟨_,rfl,OEq.refl _⟩,⟨_,rfl,OEq.refl _⟩,⟨_,rfl,OEq.refl _⟩,⟨_,rfl,OEq.refl _⟩,trivial⟩ rfl) ?_
 rintro ⟨j,hj⟩
 dsimp only
 have hb3 := sumB_le (v.data.toList.take j)
 rw [List.length_take] at hb3
 have hb2 := UInt8.toNat_lt (v.data.toList.getD (j : Int).toNat 0)
 repeat' ((conv => whnf); first | refine Spl.yes (by first | assumption | omega) ?_ | refine Spl.no (by first | assumption | omega) ?_ | refine Wr.i64 (by omega) (by omega) ?_ | refine Still.mk rfl rfl ?_ | refine InB.mk (inB_mk (by omega) (by omega)) ?_ | refine Req.mk (by omega) ?_ | refine Req.mk ⟨by first | omega | (dsimp only; omega),by first | omega | (dsimp only; omega)⟩ ?_ | refine Rm.m3 (by omega) (fun _ => ?_) (fun _ => ?_) (fun _ => ?_) | refine Rm.m4 (by omega) (fun _ => ?_) (fun _ => ?_) (fun _ => ?_) (fun _ => ?_) | refine Rm.pos (by omega) (by omega) ?_ | refine Rm.raw5 ?_ | refine ARet.hdI ?_ | refine Spl.mk (fun _ => ?_) (fun _ => ?_) | refine InA.mk (inB_mk (by omega) (by omega)) ?_ | refine Wr.b64 ?_ | refine Wr.bu64 ?_ | refine Wr.bu32 ?_ | refine Wr.bu8 ?_ | refine Wr.u8 (by omega) (by omega) ?_ | refine Wr.u64 (by omega) (by omega) ?_ | refine Wr.u32 (by omega) (by omega) ?_ | refine Dv.pos (by omega) (by omega) ?_ | refine Rm.pos (by omega) (by omega) ?_ | refine ADraw.quiet follows_ok (by kernel_rfl) rfl ?_ | refine ADraw.sched (id := 13) lay_ok (awp_snd lay_ok _) [(0,none),(1,none),(2,none),(3,none),(4,none),(5,none),(6,none),(7,none),(8,none),(9,none),(10,none),(11,some []),(12,some [9,7,5,4,3,2,1])] [(2,[1]),(3,[2,1]),(4,[3,2,1]),(5,[4,3,2,1]),(8,[7]),(9,[7]),(10,[9,7,5,4,3,2,1]),(11,[]),(12,[9,7,5,4,3,2,1])] follows_ok (by kernel_rfl) ?_ | refine BSpl.decY (by first | assumption | omega) ?_ | refine BSpl.decN (by first | assumption | omega) ?_ | refine BSpl.dec (fun _ => ?_) (fun _ => ?_) | refine BSpl.yes (by assumption) ?_ | refine BSpl.no (by assumption) ?_ | refine BSpl.mk (fun _ => ?_) (fun _ => ?_))
 · rename_i hlt
   refine ⟨⟨j + 1,by omega⟩,_,LeR.mk' [] _ _ _ rfl ⟨AEq.refl _,AEq.refl _,AEq.refl _,AEq.refl _,AEq.refl _,AEq.int ?_,AEq.int ?_,trivial⟩ ⟨⟨_,rfl,OEq.refl _⟩,⟨_,rfl,OEq.refl _⟩,⟨_,rfl,OEq.refl _⟩,⟨_,rfl,OEq.refl _⟩,trivial⟩ rfl,?_⟩
   · rw [sumB_take (by rw [str_len]; omega)]
     simp
   · simp
   · show v.size - (j + 1) < v.size - j
     omega
 all_goals (conv => whnf)
 all_goals refine AEqI.mk (AEq.of ?_)
 all_goals (rw [sumB_all (show v.data.toList.length ≤ j by rw [str_len]; omega)] at *)
 all_goals simp only [fitEd,ks3,vs4,m5,andI, *,if_true,if_false,Int.reduceEq,Int.one_ne_zero]
end Go.Proofs.YtkkpfjifkjbndaaGreat
