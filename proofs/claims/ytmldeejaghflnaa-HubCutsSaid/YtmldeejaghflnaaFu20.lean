/-
  Contracts of the walk: Open, OpenH, HnA, HnB, HnC, OpenR, HnD.
-/
import Derived.Test.YtmldeejaghflnaaRows
import Derived.Test.YtmldeejaghflnaaFu6
import Derived.ProofKit
import Derived.OpenShut
import Derived.SizedLaws
import Derived.ChangeOld
import Derived.Test.YtmldeejaghflnaaFu7
import Derived.Test.YtmldeejaghflnaaFu18
import Derived.Test.YtmldeejaghflnaaFu14
import Derived.Test.YtmldeejaghflnaaFu19
import Derived.Test.YtmldeejaghflnaaFu9
/-
 The frame of every law's proof: if the call returns true and leaves all that was there as it was,the given statement holds; how the arguments of a law are opened,for the abstract machine.
-/
namespace Go.Proofs.Ytmldeejaghflnaa
open Go.ChangeShapes Go.WideShapes Go.ChangeAt Go.RowKit
theorem own : ownKnob Try.prog.godebug = none := by kernel_rfl
theorem laidOut : laidOutB Try.prog = true := by kernel_rfl
section
variable {H : Type} {enc : TypeId × Value → H}
theorem trodAll_below {W W' : World} (hb : Below W.heap.size W W') : ∀ (ts : List TypeId) (vs : List Value) (ds : List (DataW H)) (ps : List MemPlace),
  (∀ t ∈ ts,Try.prog.readableRec t = true ∧ t < Try.prog.types.size) → DataW.TrodAll enc Try.prog W 0 (fun _ => true) true ts vs ds ps → (∀ x ∈ ps,x.block < W.heap.size) →
  DataW.TrodAll enc Try.prog W' 0 (fun b => decide (b < W.heap.size)) true ts vs ds ps
  | [],vs,ds,ps,_,h,_ => by
    obtain ⟨rfl,rfl,rfl⟩ := trodAll_nil h
    exact trodAll_mk0
  | t :: ts,vs,ds,ps,ht,h,hlt => by
    obtain ⟨v,vs',d,ds',p,q,rfl,rfl,rfl,h0,h1⟩ := trodAll_cons h
    have hp := ht t (by simp)
    exact trodAll_cons_mk (Below.trod laidOut hp.1 hp.2 h0 hb (fun x hx => hlt x (by simp [hx]))) (trodAll_below hb ts vs' ds' q (fun u hu => ht u (by simp [hu])) h1 (fun x hx => hlt x (by simp [hx])))
set_option maxRecDepth 100000 in
theorem law_lifted (os : Os) (started : os.Started) (f : FuncId) (fn : Func) (s : ChangeSpec) (hvars : s.vars = []) (noInit : Try.prog.inits.idxOf? f = none) (hfn : Try.prog.funcs[f]? = some fn)
  (hres : fn.resultTypes = #[4]) (hparams : ∀ t ∈ fn.params.toList,Try.prog.readableRec t = true ∧ t < Try.prog.types.size)
  (hspec : ∀ ds : List (DataW H),ds.length = fn.params.toList.length → s.fn H ds = { results := [.lit (.bool true)],args := ds })
  (witness : ∃ (w : World) (tape : Tape) (i : Input),w.os = os ∧ (w.forCall tape i).Shaped Try.checked.prog ∧ i.vars = [] ∧ Input.okWide Try.checked.prog (w.forCall tape i) .any w.heap.size f i ∧
   s.pre6 enc Try.checked.prog fn [] false (w.forCall tape i).memory i.args ∧ ({} : Assume).holds Try.checked.prog (lone (Frame.enter Try.checked.prog f i.args .normal) [] (w.forCall tape i)))
  (walk : ∀ (W : World) (base : Nat) (args : Array Value) (ds : List (DataW H)) (p : List MemPlace),
   (∀ (j : Nat) t v,fn.params[j]? = some t → args[j]? = some v → Value.okWide Try.prog W .any base t v) →
   DataW.TrodAll enc Try.prog W 0 (fun _ => true) true fn.params.toList args.toList ds p →
   (DataW.weightsEach Try.prog fn.params.toList ds).all (· ≤ reachBytes) = true →
   Calls Try.prog f args W fun e W' => e = .returned (.bool true) ∧ Below W.heap.size W W') :
  ReturnsInHanded {} Try.checked os f .any (s.pre6 enc Try.prog fn [] false) (s.post enc Try.prog fn false true false false) := by
 refine returnsInHanded_of_change_sized (C := Try.checked) own started noInit hfn witness ?_
 intro W base args ds gs before hval0 hW _ hsz0 _
 have hval : ∀ (j : Nat) t v,fn.params[j]? = some t → args[j]? = some v → Value.okWide Try.prog W .any base t v := hval0
 have hW' := hW
 have hlt : ∀ x ∈ before,x.block < W.heap.size := fun x hx => by simpa using hW'.lt x hx
 obtain ⟨p,q,hA0,hV,rfl,hfz,hnd⟩ := hW
 have hA : DataW.TrodAll enc Try.prog W 0 (fun _ => true) true fn.params.toList args.toList ds p := hA0
 rw [hvars] at hV
 obtain ⟨rfl,rfl⟩ := trodVars_none hV
 simp only [List.append_nil] at hW' hlt
 have hsz : (DataW.weightsEach Try.prog fn.params.toList ds).all (· ≤ reachBytes) = true := by
  have h : (DataW.weightsEach Try.prog (fn.params.toList ++ s.plain.varTypes Try.prog) (ds ++ [])).all (· ≤ reachBytes) = true := hsz0
  have hv : s.plain.varTypes Try.prog = [] := by
   show s.vars.filterMap _ = []
   rw [hvars]; rfl
  simpa [hv] using h
 refine (walk W base args ds p hval hA hsz).mono fun e W' ⟨he,bel⟩ => ?_
 subst he
 have hlen : ds.length = fn.params.toList.length := trodAll_len fn.params.toList args.toList ds p hA
 have hsp := hspec ds hlen
 refine ⟨_,rfl,ds,[],p,[],p,[],hW',?_,?_,?_,bel.frame _,fun h => by cases h⟩
 · rw [List.append_nil,hsp,hres]
   exact trodAll_mk1 (shut_bool Try.underlying4 _)
 · rw [List.append_nil,hsp]
   exact trodAll_below bel _ _ _ _ hparams hA hlt
 · rw [hvars]
   rw [List.append_nil,hsp]
   rfl
where
 trodAll_len {W : World} : ∀ (ts : List TypeId) (vs : List Value) (ds : List (DataW H)) (ps : List MemPlace),DataW.TrodAll enc Try.prog W 0 (fun _ => true) true ts vs ds ps → ds.length = ts.length
   | [],vs,ds,ps,h => by
     obtain ⟨rfl,rfl,rfl⟩ := trodAll_nil h
     rfl
   | t :: ts,vs,ds,ps,h => by
     obtain ⟨v,vs',d,ds',p,q,rfl,rfl,rfl,h0,h1⟩ := trodAll_cons h
     simp [trodAll_len ts vs' ds' q h1]
end
abbrev allOf (w : World) : Nat → Prop := fun b => b < w.heap.size
structure Sh (t : TypeId) (S : List AV → Prop) : Prop where
 mk ::
 h : ∀ (H : Type) (enc : TypeId × Value → H) (w : World) (spare : Nat → Bool) (held : Bool) (fuel : Nat) (cs : List Value) (x : DataW H × List MemPlace),
  DataW.trod enc Try.prog w 0 spare held fuel t cs = some x → (∀ n ∈ x.1.weights Try.prog t,n ≤ reachBytes) → ∃ avs,All2 (PC w (allOf w)) avs cs ∧ S avs
theorem Sh.imp {t : TypeId} {S T : List AV → Prop} (h : Sh t S) (hi : ∀ avs,S avs → T avs) : Sh t T := ⟨fun _ _ _ _ _ _ _ _ h1 h2 => by
 obtain ⟨avs,h3,h4⟩ := h.h _ _ _ _ _ _ _ _ h1 h2
 exact ⟨avs,h3,hi avs h4⟩⟩
theorem sh_int {t : TypeId} {k : IntKind} (ht : Try.prog.underlying t = some (.int k)) : Sh t (fun avs => ∃ n : Int,avs = [.v (.int k n)] ∧ (Lit.int k n).wf = true) := ⟨fun _ _ _ _ _ _ _ _ h _ => by
 obtain ⟨n,rfl,rfl,hw⟩ := DataW.trod_int ht h
 exact ⟨_,All2.cons (PC.v _ rfl) All2.nil,n,rfl,hw⟩⟩
theorem sh_bool {t : TypeId} (ht : Try.prog.underlying t = some .bool) : Sh t (fun avs => ∃ b : Bool,avs = [.v (.bool b)]) := ⟨fun _ _ _ _ _ _ _ _ h _ => by
 obtain ⟨n,rfl,rfl⟩ := DataW.trod_bool ht h
 exact ⟨_,All2.cons (PC.v _ rfl) All2.nil,n,rfl⟩⟩
def Cat : List (List AV → Prop) → List AV → Prop
  | [],avs => avs = []
  | S :: Ss,avs => ∃ a b,avs = a ++ b ∧ S a ∧ Cat Ss b
def Contig : Nat → List Field → Nat → Prop
  | o,[],m => o = m
  | o,f :: fs,m => f.offset = o ∧ Contig (o + Try.prog.cellsOf f.type) fs m
def contigB (c : TypeId → Nat) : Nat → List Field → Nat → Bool
  | o,[],m => Nat.beq o m
  | o,f :: fs,m => Nat.beq f.offset o && contigB c (o + c f.type) fs m
theorem contig_of : ∀ {o : Nat} {fs : List Field} {m : Nat},contigB Try.prog.cellsOf o fs m = true → Contig o fs m
  | _,[],_,h => Nat.eq_of_beq_eq_true h
  | _,_ :: _,_,h => by
    simp only [contigB,Bool.and_eq_true] at h
    exact ⟨Nat.eq_of_beq_eq_true h.1,contig_of h.2⟩
inductive ShL : List TypeId → List (List AV → Prop) → Prop where
  | nil : ShL [] []
  | cons {t : TypeId} {S : List AV → Prop} {ts : List TypeId} {Ss : List (List AV → Prop)} (h : Sh t S) (hs : ShL ts Ss) : ShL (t :: ts) (S :: Ss)
theorem sh_fields {H : Type} {enc : TypeId × Value → H} {w : World} {spare : Nat → Bool} {held : Bool} {fuel : Nat} {cs : List Value} : ∀ (fs : List Field) (xs : List (DataW H × List MemPlace)) (Ss : List (List AV → Prop)) (o : Nat),Contig o fs cs.length → xs.length = fs.length →
  (∀ (i : Nat) (f : Field),fs[i]? = some f → DataW.trod enc Try.prog w 0 spare held fuel f.type ((cs.drop f.offset).take (Try.prog.cellsOf f.type)) = xs[i]?) → ShL (fs.map (·.type)) Ss → (∀ n ∈ DataW.weightsEach Try.prog (fs.map (·.type)) (xs.map (·.1)),n ≤ reachBytes) →
  ∃ avs,All2 (PC w (allOf w)) avs (cs.drop o) ∧ Cat Ss avs
  | [],xs,Ss,o,hc,hl,_,hs,_ => by
    cases hs
    refine ⟨[],?_,rfl⟩
    rw [List.drop_eq_nil_of_le (by simp only [Contig] at hc; omega)]
    exact All2.nil
  | f :: fs,xs,_,o,hc,hl,hg,hs,hw => by
    cases hs with
    | cons hS hs' =>
      cases xs with
      | nil => simp at hl
      | cons x xs =>
        obtain ⟨ho,hc'⟩ := hc
        have g0 := hg 0 f rfl
        rw [ho] at g0
        simp only [List.map_cons,DataW.weightsEach,List.mem_append] at hw
        obtain ⟨a,ha,hSa⟩ := hS.h _ _ _ _ _ _ _ _ g0 (fun n hn => hw n (.inl hn))
        obtain ⟨b,hb,hSb⟩ := sh_fields fs xs _ (o + Try.prog.cellsOf f.type) hc' (by simpa using hl) (fun i g hi => hg (i + 1) g (by simpa using hi)) hs' (fun n hn => hw n (.inr hn))
        refine ⟨a ++ b,?_,a,b,rfl,hSa,hSb⟩
        have e : cs.drop o = (cs.drop o).take (Try.prog.cellsOf f.type) ++ cs.drop (o + Try.prog.cellsOf f.type) := by
         rw [← List.drop_drop,List.take_append_drop]
        rw [e]
        exact All2.app ha hb
theorem sh_struct {t : TypeId} {fs : Array Field} {Ss : List (List AV → Prop)} (ht : Try.prog.underlying t = some (.struct fs)) (hc0 : contigB Try.prog.cellsOf 0 fs.toList (Try.prog.cellsOf t) = true) {ts : List TypeId} (hts : fs.toList.map (·.type) = ts) (hs : ShL ts Ss) : Sh t (Cat Ss) := ⟨fun _ _ _ _ _ _ _ _ h hw => by
 subst hts
 have hc := contig_of hc0
 obtain ⟨xs,m,_,rfl,hlen,hxl,hg⟩ := DataW.trod_struct ht h
 rw [← hlen] at hc
 obtain ⟨avs,h1,h2⟩ := sh_fields fs.toList xs Ss 0 hc (by simpa using hxl) (fun i f hf => hg i f (by simpa using hf)) hs (by simpa [DataW.weights,ht] using hw)
 exact ⟨avs,by simpa using h1,h2⟩⟩
theorem sh_array {t e : TypeId} {n s : Nat} {S : List AV → Prop} (ht : Try.prog.underlying t = some (.array n e)) (hc : Try.prog.cellsOf t = n * s) (he : Try.prog.cellsOf e = s) (hs : Sh e S) : Sh t (Cat (List.replicate n S)) := by
 refine ⟨fun H enc w spare held fuel cs x h hw => ?_⟩
 obtain ⟨xs,m,_,rfl,hlen,hxl,hg⟩ := DataW.trod_array ht h
 rw [he] at hg
 simp only [DataW.weights,ht] at hw
 have main : ∀ (k o : Nat) (xs : List (DataW H × List MemPlace)),xs.length = k → cs.length = (o + k) * s → (∀ i,i < k → DataW.trod enc Try.prog w 0 spare held m e ((cs.drop ((o + i) * s)).take s) = xs[i]?) → (∀ n ∈ DataW.weightsAll Try.prog e (xs.map (·.1)),n ≤ reachBytes) →
   ∃ avs,All2 (PC w (allOf w)) avs (cs.drop (o * s)) ∧ Cat (List.replicate k S) avs := by
  intro k
  induction k with
  | zero =>
    intro o xs _ hl _ _
    refine ⟨[],?_,rfl⟩
    rw [List.drop_eq_nil_of_le (by rw [hl]; simp)]
    exact All2.nil
  | succ k ih =>
    intro o xs hx hl hg hw
    cases xs with
    | nil => simp at hx
    | cons x xs =>
      simp only [List.map_cons,DataW.weightsAll,List.mem_append] at hw
      obtain ⟨a,ha,hSa⟩ := hs.h _ _ _ _ _ _ _ _ (hg 0 (by omega)) (fun n hn => hw n (.inl hn))
      obtain ⟨b,hb,hSb⟩ := ih (o + 1) xs (by simpa using hx) (by rw [hl,show o + (k + 1) = o + 1 + k by omega]) (fun i hi => by have := hg (i + 1) (by omega); rw [show o + 1 + i = o + (i + 1) by omega]; simpa using this) (fun n hn => hw n (.inr hn))
      refine ⟨a ++ b,?_,a,b,rfl,hSa,hSb⟩
      have e1 : cs.drop (o * s) = (cs.drop (o * s)).take s ++ cs.drop ((o + 1) * s) := by
       rw [show (o + 1) * s = o * s + s by rw [Nat.add_mul,Nat.one_mul],← List.drop_drop,List.take_append_drop]
      rw [e1]
      exact All2.app (by simpa using ha) hb
 obtain ⟨avs,h1,h2⟩ := main n 0 xs hxl (by rw [hlen,hc,Nat.zero_add]) (fun i hi => by simpa using hg i hi) hw
 exact ⟨avs,by simpa using h1,h2⟩
theorem add_lit {b o j : Nat} : (⟨b,o,none⟩ : Addr).add j = ⟨b,o + j,none⟩ := by
 unfold Addr.add
 split
 · rename_i h; subst h; rfl
 · rfl
def Ev.rng (e : Ev) : Prop := e.key.size ≤ 140737488355328 ∧ e.v.size ≤ 140737488355328
section
variable {H : Type} {enc : TypeId × Value → H} {w : World} {spare : Nat → Bool} {held : Bool} {v : Value} {d : DataW H} {p : List MemPlace} {r : Reach} {b0 : Nat}
theorem arg_one {t : TypeId} {S : List AV → Prop} (hs : Sh t S) (h1 : ∀ avs,S avs → avs.length = 1) (h : DataW.Trod enc Try.prog w 0 spare held t v d p) (hw : ∀ n ∈ d.weights Try.prog t,n ≤ reachBytes) (hv : v.cells.toList = [v]) : ∃ x,S [x] ∧ C1 ⟨w,allOf w,fun _ => undef⟩ x v := by
 obtain ⟨fuel,hf⟩ := h
 obtain ⟨avs,ha,hS⟩ := hs.h _ _ _ _ _ _ _ _ hf hw
 match avs,h1 avs hS with
 | [x],_ =>
   rw [hv] at ha
   exact ⟨x,hS,C1.of0 (C0.ofPC (X := ⟨w,allOf w,fun _ => undef⟩) (ha.2 0 x v rfl rfl))⟩
theorem arg_agg {t : TypeId} {S : List AV → Prop} (hs : Sh t S) (h : DataW.Trod enc Try.prog w 0 spare held t v d p) (hw : ∀ n ∈ d.weights Try.prog t,n ≤ reachBytes) (hv : ∃ cs,v = .agg cs) : ∃ xs,S xs ∧ C1 ⟨w,allOf w,fun _ => undef⟩ (.agg xs) v := by
 obtain ⟨cs,rfl⟩ := hv
 obtain ⟨fuel,hf⟩ := h
 obtain ⟨avs,ha,hS⟩ := hs.h _ _ _ _ _ _ _ _ hf hw
 exact ⟨avs,hS,cs.toList,rfl,(show All2 (PC w (allOf w)) avs cs.toList from ha).imp fun _ _ h => C0.ofPC (X := ⟨w,allOf w,fun _ => undef⟩) h⟩
end
theorem weights_at {H : Type} {ts : List TypeId} {ds : List (DataW H)} (h : (DataW.weightsEach Try.prog ts ds).all (· ≤ reachBytes) = true) {j : Nat} {t : TypeId} {d : DataW H} (ht : ts[j]? = some t) (hd : ds[j]? = some d) :
  ∀ n ∈ d.weights Try.prog t,n ≤ reachBytes := fun n hn => by
 simpa using List.all_eq_true.1 h _ (DataW.weights_mem_each ht hd n hn)
theorem walk_of {f : FuncId} {avs : List AV} (h : ASpec Try.prog f avs (.v (.bool true)) []) {W : World} {args : List Value} (ha : All2 (C1 ⟨W,allOf W,fun _ => undef⟩) avs args) :
  Calls Try.prog f args.toArray W fun e W' => e = .returned (.bool true) ∧ Below W.heap.size W W' :=
 (h.2 W (allOf W) args (fun _ hb => hb) ha).mono fun e W' ⟨u,ρ,h1,h2,h3,_⟩ => ⟨by rw [h1,show u = .bool true from h3],h2⟩
end Go.Proofs.Ytmldeejaghflnaa

/-
 Arguments that are configs,numbers,truth values.
-/
namespace Go.Proofs.Ytmldeejaghflnaa
open Go.ChangeShapes Go.WideShapes Go.ChangeAt Go.RowKit
def i64R (n : Int) : Prop := -9223372036854775808 ≤ n ∧ n ≤ 9223372036854775807
theorem rng_i64' {n : Int} (h : (Lit.int .i64 n).wf = true) : i64R n := by
 simpa [i64R,Lit.wf,IntKind.min,IntKind.max,IntKind.signed,IntKind.bits] using h
structure Cfg.rng (c : Cfg) : Prop where
 n : i64R c.n
 w : i64R c.w
 q : i64R c.q
 h : i64R c.h
 l : i64R c.l
 p : i64R c.p
theorem sh_cfg : Sh 23 (fun avs => ∃ c : Cfg,avs = c.cs ∧ c.rng) :=
 (sh_struct Try.underlying23 (by kernel_rfl) rfl (.cons (sh_int Try.underlying3) (.cons (sh_int Try.underlying3) (.cons (sh_int Try.underlying3) (.cons (sh_int Try.underlying3) (.cons (sh_int Try.underlying3) (.cons (sh_int Try.underlying3) .nil))))))).imp fun avs h => by
  obtain ⟨_,_,rfl,⟨a,rfl,ha⟩,_,_,rfl,⟨b,rfl,hb⟩,_,_,rfl,⟨c,rfl,hc⟩,_,_,rfl,⟨d,rfl,hd⟩,_,_,rfl,⟨e,rfl,he⟩,_,_,rfl,⟨f,rfl,hf⟩,rfl⟩ := h
  exact ⟨⟨a,b,c,d,e,f⟩,rfl,rng_i64' ha,rng_i64' hb,rng_i64' hc,rng_i64' hd,rng_i64' he,rng_i64' hf⟩
section
variable {H : Type} {enc : TypeId × Value → H} {w : World} {spare : Nat → Bool} {held : Bool} {v : Value} {d : DataW H} {p : List MemPlace} {r : Reach} {b0 : Nat}
set_option maxRecDepth 100000 in
theorem arg_cfg (hv : Value.okWide Try.prog w r b0 23 v) (h : DataW.Trod enc Try.prog w 0 spare held 23 v d p) (hw : ∀ n ∈ d.weights Try.prog 23,n ≤ reachBytes) : ∃ c : Cfg,c.rng ∧ C1 ⟨w,allOf w,fun _ => undef⟩ c.av v := by
 obtain ⟨cs,rfl,_⟩ := okWide_struct Try.underlying23 hv
 obtain ⟨xs,⟨e,rfl,he⟩,hc⟩ := arg_agg sh_cfg h hw ⟨_,rfl⟩
 exact ⟨e,he,hc⟩
end
end Go.Proofs.Ytmldeejaghflnaa

/-
 The head of the hub's statements; HubNew.
-/
namespace Go.Proofs.Ytmldeejaghflnaa
open Go.RowKit
theorem takeF_nil : takeF [] = (rc0,4) := by
 unfold takeF
 rw [if_neg (by decide),if_neg]
 intro h
 have := congrArg List.length (ok_inner h)
 rw [sealB_len] at this
 simp at this
theorem mayC_w {c : Cfg} (h : mayC c = true) : 1 ≤ c.w ∧ c.w ≤ 4 := by
 simp only [mayC,Bool.and_eq_true] at h
 exact inC_iff.1 h.1.1.1.1.2
theorem hb0_G {c : Cfg} {n : Nat} (hc : mayC c = true) (hn : c.n = (n : Int)) (h1 : 1 ≤ n) (h5 : n ≤ 5) : HbG (hb0 c n) := by
 have hw := mayC_w hc
 refine ⟨pt0_G (by show 0 ≤ c.w; omega) h1 h5,?_,hw.2,by show ([] : List UInt8).length ≤ _; decide⟩
 show c.n = ((List.replicate n (⟨0,[]⟩ : Shf)).length : Int)
 rw [List.length_replicate,hn]
theorem take_of {h h' : Hb} {b : List UInt8} {res : Res} (hg : HbG h) (ht : takeHb h b = (h',res)) : MSpec Try.prog 14 [(0, .obs (hbO h))] [.box 0 0, .sl 1 b.length true (bytesF b)] (resA res) ((0, .obs (hbO h')) :: resH res) :=
 hb_take_m h h' b res hg ht (IsB.bytes b) rfl
theorem takeHb_put {h : Hb} (hup : h.up = true) {z : Rc} (hz : mayF z = true) : takeHb h (frBytes z) = takeZ h z := by
 unfold takeHb
 rw [if_neg (by rw [hup]; simp),takeF_put z hz,if_neg (by simp)]
def cfgA : Cfg := ⟨2,1,1,2,1,1⟩
set_option maxHeartbeats 4000000 in
set_option maxRecDepth 100000 in
theorem shown20_spec : ASpec Try.prog 7 [] (.v (.bool true)) [] := by
 have hnew := hb_new_m cfgA 2 rfl (by decide) (by decide) (by decide)
 have hg := hb0_G (c := cfgA) (n := 2) (by decide) rfl (by decide) (by decide)
 have ht1 : takeHb (hb0 cfgA 2) [] = (hb0 cfgA 2, .inl 4) := by
  unfold takeHb
  rw [takeF_nil]
  rfl
 have hk1 := MSpec.args (take_of hg ht1) (avs := [.box 0 0, .v (.slice none 0 0)]) (.same (.of (fun _ _ h => C1.nilY h) .nil))
 have hz : mayF ⟨3,1,0,clk0,[]⟩ = true := by decide
 have hq : mayF ⟨4,1,0,clk0,[]⟩ = true := by decide
 have hput := (r07Put_yes 0 ⟨3,1,0,clk0,[]⟩ hz).thaw.args (avs := [Rc.nilA ⟨3,1,0,clk0,[]⟩]) (.of (fun X u hu => C1.nilEv hu) .nil)
 have ht2 : takeHb (hb0 cfgA 2) (frBytes ⟨3,1,0,clk0,[]⟩) = (hb0 cfgA 2, .inr (1,frBytes ⟨4,1,0,clk0,[]⟩)) := by
  rw [takeHb_put rfl hz]
  rfl
 have hk2 := take_of hg ht2
 have hft := frTake_any (frBytes ⟨4,1,0,clk0,[]⟩) (takeF_put _ hq) (IsB.bytes _) rfl
 generalize frBytes ⟨3,1,0,clk0,[]⟩ = w1 at hput hk2
 generalize frBytes ⟨4,1,0,clk0,[]⟩ = w2 at hft hk2
 generalize hbO (hb0 cfgA 2) = B at hnew hk1 hk2
 dsimp only [resA,resH,noA,yesA,bRow,Cfg.av,Cfg.cs,cfgA,Rc.av,Rc.cs,Rc.nilA,clk0] at hnew hk1 hk2 hput hft
 refine aspec_of lay_ok 8396655 Try.func7 rfl rfl rfl ?_
 repeat' ((conv => whnf); first | refine K1.a ?_ | refine K1.b ?_ | refine K1.c ?_ | refine K1.d ?_ | refine K1.e ?_ | refine K1.f ?_ | refine ACall.chgR 0 [] (hnew) rfl trivial rfl rfl ?_ | refine ACall.chgR 1 [(0,_)] (hk1) rfl ⟨rfl,trivial⟩ rfl rfl ?_ | refine ACall.plain _ _ (hput) (SubL.cons (.eq _) .nil) rfl ?_ | refine ACall.chgR 1 [(0,_)] (hk2) rfl ⟨rfl,trivial⟩ rfl rfl ?_ | refine ACall.plain _ _ (hft) (SubL.cons (.eq _) .nil) rfl ?_ | refine ARet.hdI ?_ | refine Spl.mk (fun _ => ?_) (fun _ => ?_) | refine SNil.mk (fun _ => ?_) ?_ | refine K1.g ?_ | refine ASl.frz ?_ | refine Wr.b64 ?_ | refine Wr.bu64 ?_ | refine Wr.bu32 ?_ | refine Wr.bu8 ?_ | refine K1.u8 ?_ | refine K1.u64 ?_ | refine K1.u32 ?_ | refine K1.h ?_ | refine K1.i ?_ | refine K1.q ?_ | refine K1.j ?_ | refine K1.k ?_ | refine BSpl.dec (fun _ => ?_) (fun _ => ?_) | refine K1.l ?_ | refine K1.n ?_ | refine BSpl.mk (fun _ => ?_) (fun _ => ?_))
 all_goals (conv => whnf)
 all_goals first
   | exact AEqI.mk (AEq.refl _)
   | exact absurd rfl ‹¬ _›
def sitU : Sit := ⟨true,clk0,clk0,clk0,clk0,clk0,clk0,clk0⟩
theorem pt0_sit {n : Nat} (h1 : 1 ≤ n) (h5 : n ≤ 5) : (pt0 n).sit = sitU := by
 rcases (show n = 1 ∨ n = 2 ∨ n = 3 ∨ n = 4 ∨ n = 5 by omega) with rfl | rfl | rfl | rfl | rfl <;> rfl
set_option maxHeartbeats 4000000 in
set_option maxRecDepth 100000 in
theorem hubNew_spec (c : Cfg) (_ : c.rng) : ASpec Try.prog 3 [c.av] (.v (.bool true)) [] := by
 have hsh := shown20_spec
 have hmay := may11_spec c
 cases hc : mayC c with
 | false =>
   have hnew := hb_new_no c hc
   rw [hc] at hmay
   obtain ⟨cn,w,q,hh,l,p⟩ := c
   dsimp only [Cfg.av,Cfg.cs] at hnew hmay ⊢
   refine aspec_of lay_ok 33570879 Try.func3 rfl rfl rfl ?_
   repeat' ((conv => whnf); first | refine K1.a ?_ | refine K1.b ?_ | refine K1.c ?_ | refine K1.d ?_ | refine K1.e ?_ | refine K1.f ?_ | refine ACall.plain _ _ (hsh) .nil rfl ?_ | refine ACall.plain _ _ (hnew) (SubL.cons (.eq _) .nil) rfl ?_ | refine ACall.plain _ _ (hmay) (SubL.cons (.eq _) .nil) rfl ?_ | refine ARet.hdI ?_ | refine Spl.mk (fun _ => ?_) (fun _ => ?_) | refine SNil.mk (fun _ => ?_) ?_ | refine K1.g ?_ | refine ASl.frz ?_ | refine Wr.b64 ?_ | refine Wr.bu64 ?_ | refine Wr.bu32 ?_ | refine Wr.bu8 ?_ | refine K1.u8 ?_ | refine K1.u64 ?_ | refine K1.u32 ?_ | refine K1.h ?_ | refine K1.i ?_ | refine K1.q ?_ | refine K1.j ?_ | refine K1.k ?_ | refine BSpl.dec (fun _ => ?_) (fun _ => ?_) | refine K1.l ?_ | refine K1.n ?_ | refine BSpl.mk (fun _ => ?_) (fun _ => ?_))
   all_goals (conv => whnf)
   all_goals exact AEqI.mk (AEq.refl _)
 | true =>
   obtain ⟨n,hn,h1,h5⟩ := mayC_n hc
   have hnew := hb_new_m c n hn hc h1 h5
   have hg := hb0_G hc hn h1 h5
   have hsite := hb_site_m (hb0 c n) hg.p.b
   rw [show (hb0 c n).sit = sitU from pt0_sit h1 h5] at hsite
   rw [hc] at hmay
   generalize hbO (hb0 c n) = B at hnew hsite
   clear hg hn
   obtain ⟨cn,w,q,hh,l,p⟩ := c
   dsimp only [Cfg.av,Cfg.cs] at hnew hmay ⊢
   refine aspec_of lay_ok 33570879 Try.func3 rfl rfl rfl ?_
   repeat' ((conv => whnf); first | refine K1.a ?_ | refine K1.b ?_ | refine K1.c ?_ | refine K1.d ?_ | refine K1.e ?_ | refine K1.f ?_ | refine ACall.plain _ _ (hsh) .nil rfl ?_ | refine ACall.chgR 0 [] (hnew) rfl trivial rfl rfl ?_ | refine ACall.plain _ _ (hmay) (SubL.cons (.eq _) .nil) rfl ?_ | refine ACall.chgR 1 [(0,_)] (hsite) rfl ⟨rfl,trivial⟩ rfl rfl ?_ | refine EqA.mk sitU.vs sitU.vs (sitU = sitU) rfl rfl (sit_eq _ _) ?_ | refine Spl.yes rfl ?_ | refine ARet.hdI ?_ | refine Spl.mk (fun _ => ?_) (fun _ => ?_) | refine SNil.mk (fun _ => ?_) ?_ | refine K1.g ?_ | refine ASl.frz ?_ | refine Wr.b64 ?_ | refine Wr.bu64 ?_ | refine Wr.bu32 ?_ | refine Wr.bu8 ?_ | refine K1.u8 ?_ | refine K1.u64 ?_ | refine K1.u32 ?_ | refine K1.h ?_ | refine K1.i ?_ | refine K1.q ?_ | refine K1.j ?_ | refine K1.k ?_ | refine BSpl.dec (fun _ => ?_) (fun _ => ?_) | refine K1.l ?_ | refine K1.n ?_ | refine BSpl.mk (fun _ => ?_) (fun _ => ?_))
   all_goals (conv => whnf)
   all_goals exact AEqI.mk (AEq.refl _)
end Go.Proofs.Ytmldeejaghflnaa

/-
 Configs that may be,made; frames of events that are pushed,made.
-/
namespace Go.Proofs.Ytmldeejaghflnaa
open Go.RowKit
def mN (m x : Int) : Int := (x.tmod m + m) % m
theorem tmodB (x m : Int) (hm : 0 < m) : -m < x.tmod m ∧ x.tmod m < m := ⟨by have := Int.lt_tmod_of_pos x hm; omega,Int.tmod_lt_of_pos x hm⟩
theorem mN_in (m x : Int) (hm : 0 < m) : 0 ≤ mN m x ∧ mN m x < m := ⟨Int.emod_nonneg _ (by omega),Int.emod_lt_of_pos _ hm⟩
def fitCf (c : Cfg) : Cfg := ⟨1 + mN 5 c.n,1 + mN 4 c.w,1 + mN 8 c.q,1 + mN 20 c.h,1 + mN 4 c.l,1 + mN 3 c.p⟩
theorem fitCf_may (c : Cfg) : mayC (fitCf c) = true := by
 have h1 := mN_in 5 c.n (by omega); have h2 := mN_in 4 c.w (by omega); have h3 := mN_in 8 c.q (by omega)
 have h4 := mN_in 20 c.h (by omega); have h5 := mN_in 4 c.l (by omega); have h6 := mN_in 3 c.p (by omega)
 have f : ∀ {m x : Int},0 ≤ x ∧ x < m → inC (1 + x) m = true := fun h => inC_iff.2 (by omega)
 simp only [mayC,Bool.and_eq_true]
 exact ⟨⟨⟨⟨⟨f h1,f h2⟩,f h3⟩,f h4⟩,f h5⟩,f h6⟩
set_option maxHeartbeats 4000000 in
set_option maxRecDepth 100000 in
theorem fit11_spec (c : Cfg) : ASpec Try.prog 11 [c.av] (fitCf c).av [] := by
 have h1 := tmodB c.n 5 (by omega); have h2 := tmodB c.w 4 (by omega); have h3 := tmodB c.q 8 (by omega)
 have h4 := tmodB c.h 20 (by omega); have h5 := tmodB c.l 4 (by omega); have h6 := tmodB c.p 3 (by omega)
 obtain ⟨n,w,q,h,l,p⟩ := c
 dsimp only [Cfg.av,Cfg.cs,fitCf,mN] at *
 refine aspec_of lay_ok 7 Try.func11 rfl rfl rfl ?_
 repeat' ((conv => whnf); first | refine K1.a ?_ | refine K1.b ?_ | refine K1.c ?_ | refine K1.d ?_ | refine K1.e ?_ | refine K1.f ?_ | refine K1.i ?_ | refine Rm.raw (by decide) ?_ | refine ARet.hdI ?_ | refine Spl.mk (fun _ => ?_) (fun _ => ?_) | refine SNil.mk (fun _ => ?_) ?_ | refine K1.g ?_ | refine ASl.frz ?_ | refine Wr.b64 ?_ | refine Wr.bu64 ?_ | refine Wr.bu32 ?_ | refine Wr.bu8 ?_ | refine K1.u8 ?_ | refine K1.u64 ?_ | refine K1.u32 ?_ | refine K1.h ?_ | refine K1.i ?_ | refine K1.q ?_ | refine K1.j ?_ | refine K1.k ?_ | refine BSpl.dec (fun _ => ?_) (fun _ => ?_) | refine K1.l ?_ | refine K1.n ?_ | refine BSpl.mk (fun _ => ?_) (fun _ => ?_))
 all_goals (conv => whnf)
 all_goals exact AEqI.mk (AEq.refl _)
structure Opn where
 (kind r many back : Int) (clock : Clk) (keep bit mask : Int)
def Opn.cs (o : Opn) : List AV := [.v (.int .u8 o.kind), .v (.int .u8 o.r), .v (.int .u8 o.many), .v (.int .u8 o.back), .v (.int .i64 o.clock.c0), .v (.int .i64 o.clock.c1), .v (.int .i64 o.clock.c2), .v (.int .i64 o.clock.c3), .v (.int .i64 o.clock.c4), .v (.int .i64 o.keep), .v (.int .i64 o.bit), .v (.int .u32 o.mask)]
def Opn.av (o : Opn) : AV := .agg o.cs
def clkSet (r : Nat) (x : Int) : Clk := ⟨if r = 0 then x else 0,if r = 1 then x else 0,if r = 2 then x else 0,if r = 3 then x else 0,if r = 4 then x else 0⟩
def evP (r : Nat) (n : Int) : Ev := ⟨r,n,clkSet r (n - 1),n,1,⟨#[99,121]⟩,0,⟨#[]⟩⟩
def pushL (r : Nat) (f : Int) (m : Nat) : List Ev := (List.range m).map fun i : Nat => evP r (f + (i : Int))
theorem pushL_len (r : Nat) (f : Int) (m : Nat) : (pushL r f m).length = m := by simp [pushL]
theorem pushL_succ (r : Nat) (f : Int) (m : Nat) : pushL r f (m + 1) = pushL r f m ++ [evP r (f + (m : Int))] := by
 unfold pushL
 rw [List.range_succ,List.map_append]
 rfl
def fromN (len back : Int) : Int := if 1 > len + 1 - back % 3 then 1 else len + 1 - back % 3
def pushS {r : Nat} (_ : r < 5) (oc : List AV) (f : Int) (j : Nat) : AS :=
 ⟨[(0, .v (.int .i64 (r : Int))),(5, .box 0 0),(6, .box 1 0),(7, .box 2 0),(8, .v (.int .i64 f)),(9, .v (.int .i64 (f + (j : Int))))],
  [(90, .row 66 12 (pushL r f j).length true (evF (pushL r f j))),(0, .box 44 oc),(1, .box 40 [.v (.int .i64 0), .v (.int .i64 0), .v (.int .i64 0), .v (.int .i64 0), .v (.int .i64 0), .v (.int .i64 0), .v (.int .i64 0), .v (.int .i64 0), .v (.slice none 0 0)]),
   (2, .box 40 [.v (.int .i64 1), .v (.int .i64 (r : Int)), .v (.int .i64 0), .v (.int .i64 0), .v (.int .i64 0), .v (.int .i64 0), .v (.int .i64 0), .v (.int .i64 0), .own 90])],[],91⟩
set_option maxHeartbeats 8000000 in
set_option maxRecDepth 100000 in
theorem push20_spec (r : Nat) (hr : r < 5) (len : Int) (o : Opn) (hl : 0 ≤ len ∧ len ≤ 1000000000) (hm : 0 ≤ o.many ∧ o.many ≤ 255) (hb : 0 ≤ o.back ∧ o.back ≤ 255) :
  ASpec Try.prog 12 [.v (.int .i64 (r : Int)), .v (.int .i64 len),o.av] (frA 1 r 0 clk0 (pushL r (fromN len o.back) (1 + (o.many % 5).toNat))) [] := by
 obtain ⟨k,ro,m,b,⟨c0,c1,c2,c3,c4⟩,kp,bt,mk⟩ := o
 dsimp only [Opn.av,Opn.cs] at hm hb ⊢
 have hf : 1 ≤ fromN len b ∧ fromN len b ≤ 1000000001 := by unfold fromN; split <;> omega
 refine lt5 (C := fun r => r < 5 → ASpec Try.prog 12 [.v (.int .i64 (r : Int)), .v (.int .i64 len), .agg [.v (.int .u8 k), .v (.int .u8 ro), .v (.int .u8 m), .v (.int .u8 b), .v (.int .i64 c0), .v (.int .i64 c1), .v (.int .i64 c2), .v (.int .i64 c3), .v (.int .i64 c4), .v (.int .i64 kp), .v (.int .i64 bt), .v (.int .u32 mk)]] (frA 1 r 0 clk0 (pushL r (fromN len b) (1 + (m % 5).toNat))) []) hr ?_ ?_ ?_ ?_ ?_ hr
 all_goals
  intro hr
  refine aspec_of lay_ok 1073743847 Try.func12 rfl rfl rfl ?_
  repeat' ((conv => whnf); first | refine K1.a ?_ | refine K1.b ?_ | refine K1.c ?_ | refine K1.d ?_ | refine K1.e ?_ | refine K1.f ?_ | refine Spl.mk (fun _ => ?_) (fun _ => ?_) | refine SNil.mk (fun _ => ?_) ?_ | refine K1.g ?_ | refine ASl.frz ?_ | refine Wr.b64 ?_ | refine Wr.bu64 ?_ | refine Wr.bu32 ?_ | refine Wr.bu8 ?_ | refine K1.u8 ?_ | refine K1.u64 ?_ | refine K1.u32 ?_ | refine K1.h ?_ | refine K1.i ?_ | refine K1.q ?_ | refine K1.j ?_ | refine K1.k ?_ | refine BSpl.dec (fun _ => ?_) (fun _ => ?_) | refine K1.l ?_ | refine K1.n ?_ | refine BSpl.mk (fun _ => ?_) (fun _ => ?_))
  all_goals (conv => whnf)
  generalize hq : fromN len b = f at hf ⊢
  unfold fromN at hq
  rw [hq]
  clear hq
  refine ALoop.nilB 2 8 90 66 12 (evF []) (by decide) rfl rfl ?_
  refine ALoop.mk { j : Nat // j ≤ 1 + (m % 5).toNat } (fun j => pushS hr [.v (.int .u8 k), .v (.int .u8 ro), .v (.int .u8 m), .v (.int .u8 b), .v (.int .i64 c0), .v (.int .i64 c1), .v (.int .i64 c2), .v (.int .i64 c3), .v (.int .i64 c4), .v (.int .i64 kp), .v (.int .i64 bt), .v (.int .u32 mk)] f j.1) (fun j => 1 + (m % 5).toNat - j.1) ⟨0,Nat.zero_le _⟩ [] (by
   dsimp only [pushS]
   exact LeR.mk' [] _ _ _ rfl ⟨AEq.refl _,AEq.refl _,AEq.refl _,AEq.refl _,AEq.refl _,AEq.int (by omega),trivial⟩ ⟨⟨_,rfl,OEq.row rfl (fun i hi => absurd hi (Nat.not_lt_zero i))⟩,⟨_,rfl,OEq.refl _⟩,⟨_,rfl,OEq.refl _⟩,⟨_,rfl,OEq.refl _⟩,trivial⟩ rfl) ?_
  rintro ⟨j,hj⟩
  dsimp only [pushS]
  have a0 := pushL_len 0 f j
  have a1 := pushL_len 1 f j
  have a2 := pushL_len 2 f j
  have a3 := pushL_len 3 f j
  have a4 := pushL_len 4 f j
  by_cases hjl : j < 1 + (m % 5).toNat
  · have hs := fun r => pushL_succ r f j
    repeat' ((conv => whnf); first | refine K1.a ?_ | refine K1.b ?_ | refine K1.c ?_ | refine K1.d ?_ | refine K1.e ?_ | refine K1.f ?_ | refine K1.i ?_ | refine InA.mk (by decide) ?_ | refine Spl.mk (fun _ => ?_) (fun _ => ?_) | refine SNil.mk (fun _ => ?_) ?_ | refine K1.g ?_ | refine ASl.frz ?_ | refine Wr.b64 ?_ | refine Wr.bu64 ?_ | refine Wr.bu32 ?_ | refine Wr.bu8 ?_ | refine K1.u8 ?_ | refine K1.u64 ?_ | refine K1.u32 ?_ | refine K1.h ?_ | refine K1.i ?_ | refine K1.q ?_ | refine K1.j ?_ | refine K1.k ?_ | refine BSpl.dec (fun _ => ?_) (fun _ => ?_) | refine K1.l ?_ | refine K1.n ?_ | refine BSpl.mk (fun _ => ?_) (fun _ => ?_))
    all_goals (conv => whnf)
    refine ⟨⟨j + 1,hjl⟩,[(93,90)],LeR.mk' _ _ _ _ rfl ⟨AEq.refl _,AEq.refl _,AEq.refl _,AEq.refl _,AEq.refl _,AEq.int (by show f + (j : Int) + 1 = f + ((j + 1 : Nat) : Int); omega),trivial⟩ ⟨⟨_,rfl,OEq.row (by rw [hs,List.length_append]; rfl) (fun i hi => ?_)⟩,⟨_,rfl,OEq.refl _⟩,⟨_,rfl,OEq.refl _⟩,⟨_,rfl,OEq.refl _⟩,trivial⟩ rfl,by show 1 + (m % 5).toNat - (j + 1) < 1 + (m % 5).toNat - j; omega⟩
    rw [hs]
    exact els_app1 (c := Ev.cs) rfl rfl i hi
  · obtain rfl : j = 1 + (m % 5).toNat := by omega
    repeat' ((conv => whnf); first | refine K1.a ?_ | refine K1.b ?_ | refine K1.c ?_ | refine K1.d ?_ | refine K1.e ?_ | refine K1.f ?_ | refine K1.i ?_ | refine InA.mk (by decide) ?_ | refine ARet.hdI ?_ | refine Spl.mk (fun _ => ?_) (fun _ => ?_) | refine SNil.mk (fun _ => ?_) ?_ | refine K1.g ?_ | refine ASl.frz ?_ | refine Wr.b64 ?_ | refine Wr.bu64 ?_ | refine Wr.bu32 ?_ | refine Wr.bu8 ?_ | refine K1.u8 ?_ | refine K1.u64 ?_ | refine K1.u32 ?_ | refine K1.h ?_ | refine K1.i ?_ | refine K1.q ?_ | refine K1.j ?_ | refine K1.k ?_ | refine BSpl.dec (fun _ => ?_) (fun _ => ?_) | refine K1.l ?_ | refine K1.n ?_ | refine BSpl.mk (fun _ => ?_) (fun _ => ?_))
    all_goals (conv => whnf)
    exact AEqI.mk (AEq.refl _)
end Go.Proofs.Ytmldeejaghflnaa

/-
 HubRefuses,walked.
-/
namespace Go.Proofs.Ytmldeejaghflnaa
open Go.RowKit
theorem evP_may {r : Nat} (hr : r < 5) {n : Int} (h1 : 1 ≤ n) (h2 : n ≤ 1048576) : mayE (evP r n) = 0 := by
 have e : editE (evP r n).ed = 0 := by
  show editE ⟨1,⟨#[99,121]⟩,0,⟨#[]⟩⟩ = 0
  decide
 have hc : ∀ k : Nat,0 ≤ (if r = k then n - 1 else 0 : Int) ∧ (if r = k then n - 1 else 0 : Int) ≤ 1048576 := fun k => by split <;> omega
 refine mayE_of ⟨by show 0 ≤ (r : Int); omega,by show (r : Int) ≤ 4; omega,h1,h2,h1,by show n ≤ 16777216; omega,hc 0,hc 1,hc 2,hc 3,hc 4,?_,e⟩
 show (clkSet r (n - 1)).get (r : Int) = n - 1
 rcases (show r = 0 ∨ r = 1 ∨ r = 2 ∨ r = 3 ∨ r = 4 by omega) with rfl | rfl | rfl | rfl | rfl <;> rfl
theorem pushL_mem {r : Nat} {f : Int} {m : Nat} {e : Ev} (h : e ∈ pushL r f m) : ∃ i : Nat,i < m ∧ e = evP r (f + (i : Int)) := by
 obtain ⟨i,hi,rfl⟩ := List.mem_map.1 h
 exact ⟨i,List.mem_range.1 hi,rfl⟩
theorem pushL_ok {r : Nat} (hr : r < 5) {f : Int} (hf : 1 ≤ f) {m : Nat} (hm : f + (m : Int) ≤ 1048576) : ∀ e ∈ pushL r f m,mayE e = 0 ∧ e.r = (r : Int) := fun e he => by
 obtain ⟨i,hi,rfl⟩ := pushL_mem he
 exact ⟨evP_may hr (by omega) (by omega),rfl⟩
theorem mayF_1 {r : Nat} (hr : r < 5) {f : Int} (hf : 1 ≤ f) {m : Nat} (h1 : 1 ≤ m) (h5 : m ≤ 20) (hm : f + (m : Int) ≤ 1048576) : mayF ⟨1,r,0,clk0,pushL r f m⟩ = true := by
 have : (pushL r f m).all (evOk 1 r) = true := List.all_eq_true.2 fun e he => by
  have := pushL_ok hr hf hm e he
  exact evOk_yes2 this.1 this.2
 have hl := pushL_len r f m
 simp [mayF,shK,shU,shC,shE,okC,hl,clkZ,clk0,okN_mk (show (0 : Int) ≤ 0 by omega) (by omega)]
 refine ⟨⟨⟨by omega,h5⟩,by rintro rfl; simp at hl; omega⟩,by simpa using this⟩
theorem pt0_get {n r : Nat} (h : r < n) : (pt0 n).sh.getD r default = ⟨0,[]⟩ := by
 show (List.replicate n (⟨0,[]⟩ : Shf)).getD r default = _
 rw [List.getD_eq_getElem?_getD,List.getElem?_replicate,if_pos h]
 rfl
def Op0 : Opn := ⟨0,0,0,0,clk0,0,0,0⟩
def cfgM (c : Cfg) : Cfg := ⟨if 4 < (fitCf c).n then 4 else (fitCf c).n,(fitCf c).w,(fitCf c).q,(fitCf c).h,(fitCf c).l,(fitCf c).p⟩
theorem cfgM_may (c : Cfg) : mayC (cfgM c) = true ∧ (cfgM c).n ≤ 4 := by
 have h := fitCf_may c
 simp only [mayC,Bool.and_eq_true] at h ⊢
 have h1 := inC_iff.1 h.1.1.1.1.1
 have hn : 1 ≤ (cfgM c).n ∧ (cfgM c).n ≤ 4 := by
  show 1 ≤ (if 4 < (fitCf c).n then 4 else (fitCf c).n) ∧ (if 4 < (fitCf c).n then 4 else (fitCf c).n) ≤ 4
  split <;> omega
 exact ⟨⟨⟨⟨⟨⟨inC_iff.2 (by omega),h.1.1.1.1.2⟩,h.1.1.1.2⟩,h.1.1.2⟩,h.1.2⟩,h.2⟩,hn.2⟩
def refZ (q : Nat) : Rc := if q = 0 then ⟨1,4,0,clk0,pushL 4 1 1⟩ else if q = 1 then ⟨4,0,0,clk0,[]⟩ else if q = 2 then ⟨1,0,0,clk0,pushL 0 2 1⟩ else ⟨1,0,0,clk0,pushL 0 1 5⟩
def refX (q : Nat) : Int := if q = 0 ∨ q = 1 then 23 else if q = 2 then 20 else 21
theorem refZ_may {q : Nat} (hq : q < 4) : mayF (refZ q) = true := by
 rcases (show q = 0 ∨ q = 1 ∨ q = 2 ∨ q = 3 by omega) with rfl | rfl | rfl | rfl
 · exact mayF_1 (r := 4) (by omega) (by omega) (by omega) (by omega) (by omega)
 · decide
 · exact mayF_1 (r := 0) (by omega) (by omega) (by omega) (by omega) (by omega)
 · exact mayF_1 (r := 0) (by omega) (by omega) (by omega) (by omega) (by omega)
theorem ref_take {c : Cfg} {n : Nat} (hn : c.n = (n : Int)) (h1 : 1 ≤ n) (h4 : n ≤ 4) (hw : c.w ≤ 4) {q : Nat} (hq : q < 4) : takeHb (hb0 c n) (frBytes (refZ q)) = (hb0 c n, .inl (refX q)) := by
 rw [takeHb_put rfl (refZ_may hq)]
 have hcn : (hb0 c n).c.n = (n : Int) := hn
 have hg := pt0_get (n := n) (r := 0) (by omega)
 unfold takeZ
 rw [hcn]
 rcases (show q = 0 ∨ q = 1 ∨ q = 2 ∨ q = 3 by omega) with rfl | rfl | rfl | rfl
 · rw [if_pos (by show (n : Int) ≤ 4; omega)]
   rfl
 · rw [if_neg (by show ¬ (n : Int) ≤ 0; omega)]
   rfl
 · rw [if_neg (by show ¬ (n : Int) ≤ 0; omega),if_pos (show (refZ 2).k = 1 from rfl)]
   have hp : putS c.w ((pt0 n).sh.getD 0 default) (pushL 0 2 1) = (⟨0,[]⟩,20) := by
    rw [hg]
    unfold putS
    rw [if_neg (by decide)]
   have : pushP c.w 0 (pushL 0 2 1) (pt0 n) = (pt0 n,0,20) := by
    unfold pushP
    rw [hp]
    rfl
   show pushH (hb0 c n) ⟨1,0,0,clk0,pushL 0 2 1⟩ = _
   unfold pushH
   simp only [show ((0 : Int)).toNat = 0 from rfl,show (hb0 c n).c.w = c.w from rfl,show (hb0 c n).p = pt0 n from rfl,this]
   rfl
 · rw [if_neg (by show ¬ (n : Int) ≤ 0; omega),if_pos (show (refZ 3).k = 1 from rfl)]
   have hp : putS c.w ((pt0 n).sh.getD 0 default) (pushL 0 1 5) = (⟨0,[]⟩,21) := by
    rw [hg]
    unfold putS
    rw [if_pos (by decide),if_neg (by decide),if_pos (by
     show c.w < ((0 : Nat) : Int) + ((newS ⟨0,[]⟩ (pushL 0 1 5)).length : Int)
     rw [show (newS ⟨0,[]⟩ (pushL 0 1 5)).length = 5 by decide]
     omega)]
   have : pushP c.w 0 (pushL 0 1 5) (pt0 n) = (pt0 n,0,21) := by
    unfold pushP
    rw [hp]
    rfl
   show pushH (hb0 c n) ⟨1,0,0,clk0,pushL 0 1 5⟩ = _
   unfold pushH
   simp only [show ((0 : Int)).toNat = 0 from rfl,show (hb0 c n).c.w = c.w from rfl,show (hb0 c n).p = pt0 n from rfl,this]
   rfl
set_option maxHeartbeats 8000000 in
set_option maxRecDepth 100000 in
theorem hubRefuses_spec (c : Cfg) (w : Int) (_ : c.rng) (hw : 0 ≤ w ∧ w ≤ 255) : ASpec Try.prog 5 [c.av, .v (.int .u8 w)] (.v (.bool true)) [] := by
 have hsh := shown20_spec
 have hfit := fit11_spec c
 obtain ⟨hmay,hn4⟩ := cfgM_may c
 obtain ⟨n,hn,h1,_⟩ := mayC_n hmay
 have hnew := hb_new_m (cfgM c) n hn hmay h1 (by omega)
 have hg := hb0_G hmay hn h1 (by omega)
 have hsite := hb_site_m (hb0 (cfgM c) n) hg.p.b
 rw [show (hb0 (cfgM c) n).sit = sitU from pt0_sit h1 (by omega)] at hsite
 have hp1 := push20_spec 0 (by omega) 0 Op0 (by decide) (by decide) (by decide)
 have hp2 := push20_spec 4 (by omega) 0 Op0 (by decide) (by decide) (by decide)
 have hp3 := push20_spec 0 (by omega) 1 Op0 (by decide) (by decide) (by decide)
 have hp4 := push20_spec 0 (by omega) 0 ⟨0,0,4,0,clk0,0,0,0⟩ (by decide) (by decide) (by decide)
 rw [show fromN 0 Op0.back = 1 by decide,show (1 + (Op0.many % 5).toNat) = 1 by decide] at hp1 hp2
 rw [show fromN 1 Op0.back = 2 by decide,show (1 + (Op0.many % 5).toNat) = 1 by decide] at hp3
 rw [show fromN 0 (⟨0,0,4,0,clk0,0,0,0⟩ : Opn).back = 1 by decide,show (1 + ((⟨0,0,4,0,clk0,0,0,0⟩ : Opn).many % 5).toNat) = 5 by decide] at hp4
 obtain ⟨q,hq,hqw⟩ : ∃ q : Nat,q < 4 ∧ w % 4 = (q : Int) := ⟨(w % 4).toNat,by omega,by omega⟩
 have hput := (r07Put_yes 0 (refZ q) (refZ_may hq)).thaw
 have htk := take_of hg (ref_take hn h1 (by omega) (mayC_w hmay).2 hq)
 generalize hbO (hb0 (cfgM c) n) = B at hnew hsite htk
 clear hg hn hmay
 generalize frBytes (refZ q) = b at hput htk
 rcases (show q = 0 ∨ q = 1 ∨ q = 2 ∨ q = 3 by omega) with rfl | rfl | rfl | rfl
 · rw [show refZ 0 = ⟨1,4,0,clk0,pushL 4 1 1⟩ from rfl] at hput
   rw [show refX 0 = 23 from rfl] at htk
   dsimp only [resA,resH,noA,Cfg.av,Cfg.cs,cfgM,frA,Rc.av,Rc.cs,Rc.nilA,Opn.av,Opn.cs,Op0,clk0] at hnew htk hput hp1 hp2 hp3 hp4 hfit ⊢
   refine aspec_of lay_ok 2553203438710775 Try.func5 rfl rfl rfl ?_
   repeat' ((conv => whnf); first | refine K1.a ?_ | refine K1.b ?_ | refine K1.c ?_ | refine K1.d ?_ | refine K1.e ?_ | refine K1.f ?_ | refine ACall.plain _ _ (hsh) .nil rfl ?_ | refine ACall.plain _ _ (hfit) (SubL.cons (.eq _) .nil) rfl ?_ | refine ACall.chgR 0 [] (hnew) rfl trivial rfl rfl ?_ | refine ACall.plain _ _ (hp1) (SubL.cons (.eq _) (SubL.cons (.eq _) (SubL.cons (.eq _) .nil))) rfl ?_ | refine ACall.plain _ _ (hp2) (SubL.cons (.eq _) (SubL.cons (.eq _) (SubL.cons (.eq _) .nil))) rfl ?_ | refine ACall.plain _ _ (hp3) (SubL.cons (.eq _) (SubL.cons (.eq _) (SubL.cons (.eq _) .nil))) rfl ?_ | refine ACall.plain _ _ (hp4) (SubL.cons (.eq _) (SubL.cons (.eq _) (SubL.cons (.eq _) .nil))) rfl ?_ | refine ACall.plain _ _ (hput) (SubL.cons (.eq _) .nil) rfl ?_ | refine ACall.chgR 1 [(0,_)] (htk) rfl ⟨rfl,trivial⟩ rfl rfl ?_ | refine ACall.chgR 1 [(0,_)] (hsite) rfl ⟨rfl,trivial⟩ rfl rfl ?_ | refine EqA.mk sitU.vs sitU.vs (sitU = sitU) rfl rfl (sit_eq _ _) ?_ | refine Spl.yes rfl ?_ | refine ARet.hdI ?_ | refine Spl.mk (fun _ => ?_) (fun _ => ?_) | refine SNil.mk (fun _ => ?_) ?_ | refine K1.g ?_ | refine ASl.frz ?_ | refine Wr.b64 ?_ | refine Wr.bu64 ?_ | refine Wr.bu32 ?_ | refine Wr.bu8 ?_ | refine K1.u8 ?_ | refine K1.u64 ?_ | refine K1.u32 ?_ | refine K1.h ?_ | refine K1.i ?_ | refine K1.q ?_ | refine K1.j ?_ | refine K1.k ?_ | refine BSpl.dec (fun _ => ?_) (fun _ => ?_) | refine K1.l ?_ | refine K1.n ?_ | refine BSpl.mk (fun _ => ?_) (fun _ => ?_))
   all_goals (conv => whnf)
   all_goals exact AEqI.mk (AEq.refl _)
 · rw [show refZ 1 = ⟨4,0,0,clk0,[]⟩ from rfl] at hput
   rw [show refX 1 = 23 from rfl] at htk
   have hput := hput.args (avs := [Rc.nilA ⟨4,0,0,clk0,[]⟩]) (.of (fun X u hu => C1.nilEv hu) .nil)
   dsimp only [resA,resH,noA,Cfg.av,Cfg.cs,cfgM,frA,Rc.av,Rc.cs,Rc.nilA,Opn.av,Opn.cs,Op0,clk0] at hnew htk hput hp1 hp2 hp3 hp4 hfit ⊢
   refine aspec_of lay_ok 2553203438710775 Try.func5 rfl rfl rfl ?_
   repeat' ((conv => whnf); first | refine K1.a ?_ | refine K1.b ?_ | refine K1.c ?_ | refine K1.d ?_ | refine K1.e ?_ | refine K1.f ?_ | refine ACall.plain _ _ (hsh) .nil rfl ?_ | refine ACall.plain _ _ (hfit) (SubL.cons (.eq _) .nil) rfl ?_ | refine ACall.chgR 0 [] (hnew) rfl trivial rfl rfl ?_ | refine ACall.plain _ _ (hp1) (SubL.cons (.eq _) (SubL.cons (.eq _) (SubL.cons (.eq _) .nil))) rfl ?_ | refine ACall.plain _ _ (hp2) (SubL.cons (.eq _) (SubL.cons (.eq _) (SubL.cons (.eq _) .nil))) rfl ?_ | refine ACall.plain _ _ (hp3) (SubL.cons (.eq _) (SubL.cons (.eq _) (SubL.cons (.eq _) .nil))) rfl ?_ | refine ACall.plain _ _ (hp4) (SubL.cons (.eq _) (SubL.cons (.eq _) (SubL.cons (.eq _) .nil))) rfl ?_ | refine ACall.plain _ _ (hput) (SubL.cons (.eq _) .nil) rfl ?_ | refine ACall.chgR 1 [(0,_)] (htk) rfl ⟨rfl,trivial⟩ rfl rfl ?_ | refine ACall.chgR 1 [(0,_)] (hsite) rfl ⟨rfl,trivial⟩ rfl rfl ?_ | refine EqA.mk sitU.vs sitU.vs (sitU = sitU) rfl rfl (sit_eq _ _) ?_ | refine Spl.yes rfl ?_ | refine ARet.hdI ?_ | refine Spl.mk (fun _ => ?_) (fun _ => ?_) | refine SNil.mk (fun _ => ?_) ?_ | refine K1.g ?_ | refine ASl.frz ?_ | refine Wr.b64 ?_ | refine Wr.bu64 ?_ | refine Wr.bu32 ?_ | refine Wr.bu8 ?_ | refine K1.u8 ?_ | refine K1.u64 ?_ | refine K1.u32 ?_ | refine K1.h ?_ | refine K1.i ?_ | refine K1.q ?_ | refine K1.j ?_ | refine K1.k ?_ | refine BSpl.dec (fun _ => ?_) (fun _ => ?_) | refine K1.l ?_ | refine K1.n ?_ | refine BSpl.mk (fun _ => ?_) (fun _ => ?_))
   all_goals (conv => whnf)
   all_goals exact AEqI.mk (AEq.refl _)
 · rw [show refZ 2 = ⟨1,0,0,clk0,pushL 0 2 1⟩ from rfl] at hput
   rw [show refX 2 = 20 from rfl] at htk
   dsimp only [resA,resH,noA,Cfg.av,Cfg.cs,cfgM,frA,Rc.av,Rc.cs,Rc.nilA,Opn.av,Opn.cs,Op0,clk0] at hnew htk hput hp1 hp2 hp3 hp4 hfit ⊢
   refine aspec_of lay_ok 2553203438710775 Try.func5 rfl rfl rfl ?_
   repeat' ((conv => whnf); first | refine K1.a ?_ | refine K1.b ?_ | refine K1.c ?_ | refine K1.d ?_ | refine K1.e ?_ | refine K1.f ?_ | refine ACall.plain _ _ (hsh) .nil rfl ?_ | refine ACall.plain _ _ (hfit) (SubL.cons (.eq _) .nil) rfl ?_ | refine ACall.chgR 0 [] (hnew) rfl trivial rfl rfl ?_ | refine ACall.plain _ _ (hp1) (SubL.cons (.eq _) (SubL.cons (.eq _) (SubL.cons (.eq _) .nil))) rfl ?_ | refine ACall.plain _ _ (hp2) (SubL.cons (.eq _) (SubL.cons (.eq _) (SubL.cons (.eq _) .nil))) rfl ?_ | refine ACall.plain _ _ (hp3) (SubL.cons (.eq _) (SubL.cons (.eq _) (SubL.cons (.eq _) .nil))) rfl ?_ | refine ACall.plain _ _ (hp4) (SubL.cons (.eq _) (SubL.cons (.eq _) (SubL.cons (.eq _) .nil))) rfl ?_ | refine ACall.plain _ _ (hput) (SubL.cons (.eq _) .nil) rfl ?_ | refine ACall.chgR 1 [(0,_)] (htk) rfl ⟨rfl,trivial⟩ rfl rfl ?_ | refine ACall.chgR 1 [(0,_)] (hsite) rfl ⟨rfl,trivial⟩ rfl rfl ?_ | refine EqA.mk sitU.vs sitU.vs (sitU = sitU) rfl rfl (sit_eq _ _) ?_ | refine Spl.yes rfl ?_ | refine ARet.hdI ?_ | refine Spl.mk (fun _ => ?_) (fun _ => ?_) | refine SNil.mk (fun _ => ?_) ?_ | refine K1.g ?_ | refine ASl.frz ?_ | refine Wr.b64 ?_ | refine Wr.bu64 ?_ | refine Wr.bu32 ?_ | refine Wr.bu8 ?_ | refine K1.u8 ?_ | refine K1.u64 ?_ | refine K1.u32 ?_ | refine K1.h ?_ | refine K1.i ?_ | refine K1.q ?_ | refine K1.j ?_ | refine K1.k ?_ | refine BSpl.dec (fun _ => ?_) (fun _ => ?_) | refine K1.l ?_ | refine K1.n ?_ | refine BSpl.mk (fun _ => ?_) (fun _ => ?_))
   all_goals (conv => whnf)
   all_goals exact AEqI.mk (AEq.refl _)
 · rw [show refZ 3 = ⟨1,0,0,clk0,pushL 0 1 5⟩ from rfl] at hput
   rw [show refX 3 = 21 from rfl] at htk
   dsimp only [resA,resH,noA,Cfg.av,Cfg.cs,cfgM,frA,Rc.av,Rc.cs,Rc.nilA,Opn.av,Opn.cs,Op0,clk0] at hnew htk hput hp1 hp2 hp3 hp4 hfit ⊢
   refine aspec_of lay_ok 2553203438710775 Try.func5 rfl rfl rfl ?_
   repeat' ((conv => whnf); first | refine K1.a ?_ | refine K1.b ?_ | refine K1.c ?_ | refine K1.d ?_ | refine K1.e ?_ | refine K1.f ?_ | refine ACall.plain _ _ (hsh) .nil rfl ?_ | refine ACall.plain _ _ (hfit) (SubL.cons (.eq _) .nil) rfl ?_ | refine ACall.chgR 0 [] (hnew) rfl trivial rfl rfl ?_ | refine ACall.plain _ _ (hp1) (SubL.cons (.eq _) (SubL.cons (.eq _) (SubL.cons (.eq _) .nil))) rfl ?_ | refine ACall.plain _ _ (hp2) (SubL.cons (.eq _) (SubL.cons (.eq _) (SubL.cons (.eq _) .nil))) rfl ?_ | refine ACall.plain _ _ (hp3) (SubL.cons (.eq _) (SubL.cons (.eq _) (SubL.cons (.eq _) .nil))) rfl ?_ | refine ACall.plain _ _ (hp4) (SubL.cons (.eq _) (SubL.cons (.eq _) (SubL.cons (.eq _) .nil))) rfl ?_ | refine ACall.plain _ _ (hput) (SubL.cons (.eq _) .nil) rfl ?_ | refine ACall.chgR 1 [(0,_)] (htk) rfl ⟨rfl,trivial⟩ rfl rfl ?_ | refine ACall.chgR 1 [(0,_)] (hsite) rfl ⟨rfl,trivial⟩ rfl rfl ?_ | refine EqA.mk sitU.vs sitU.vs (sitU = sitU) rfl rfl (sit_eq _ _) ?_ | refine Spl.yes rfl ?_ | refine ARet.hdI ?_ | refine Spl.mk (fun _ => ?_) (fun _ => ?_) | refine SNil.mk (fun _ => ?_) ?_ | refine K1.g ?_ | refine ASl.frz ?_ | refine Wr.b64 ?_ | refine Wr.bu64 ?_ | refine Wr.bu32 ?_ | refine Wr.bu8 ?_ | refine K1.u8 ?_ | refine K1.u64 ?_ | refine K1.u32 ?_ | refine K1.h ?_ | refine K1.i ?_ | refine K1.q ?_ | refine K1.j ?_ | refine K1.k ?_ | refine BSpl.dec (fun _ => ?_) (fun _ => ?_) | refine K1.l ?_ | refine K1.n ?_ | refine BSpl.mk (fun _ => ?_) (fun _ => ?_))
   all_goals (conv => whnf)
   all_goals exact AEqI.mk (AEq.refl _)
end Go.Proofs.Ytmldeejaghflnaa

/-
 Arguments that are records,frames,or rows of events.
-/
namespace Go.Proofs.Ytmldeejaghflnaa
open Go.ChangeShapes Go.WideShapes Go.ChangeAt Go.RowKit
def Rc.rng (x : Rc) : Prop := (∀ e ∈ x.ev,e.rng) ∧ x.ev.length ≤ 140737488355328
section
variable {H : Type} {enc : TypeId × Value → H} {w : World} {spare : Nat → Bool} {held : Bool} {v : Value} {d : DataW H} {p : List MemPlace} {r : Reach} {b0 : Nat}
set_option maxRecDepth 100000 in
theorem arg_int {t : TypeId} {k : IntKind} (ht : Try.prog.underlying t = some (.int k)) (hv : Value.okWide Try.prog w r b0 t v) (h : DataW.Trod enc Try.prog w 0 spare held t v d p) (hw : ∀ n ∈ d.weights Try.prog t,n ≤ reachBytes) : ∃ n : Int,(Lit.int k n).wf = true ∧ C1 ⟨w,allOf w,fun _ => undef⟩ (.v (.int k n)) v := by
 obtain ⟨n,rfl⟩ := okWide_int ht hv
 obtain ⟨x,⟨m,e,hm⟩,hc⟩ := arg_one (sh_int ht) (fun _ ⟨l,e,_⟩ => by rw [e]; rfl) h hw rfl
 cases e
 exact ⟨m,hm,hc⟩
end
end Go.Proofs.Ytmldeejaghflnaa

/-
 HubReplies: what a hub is behind a push,a fetch,and what a replica told.
-/
namespace Go.Proofs.Ytmldeejaghflnaa
open Go.RowKit
def pt1 (n M : Nat) : Pt := ⟨modN (fun _ => ⟨0,pushL 0 1 M⟩) 0 (pt0 n).sh,(pt0 n).told⟩
theorem put_first {w : Int} {M : Nat} (h1 : 1 ≤ M) (h4 : M ≤ 4) (hw : (M : Int) ≤ w) : putS w ⟨0,[]⟩ (pushL 0 1 M) = (⟨0,pushL 0 1 M⟩,0) := by
 have hn : newS ⟨0,[]⟩ (pushL 0 1 M) = pushL 0 1 M := by
  rcases (show M = 1 ∨ M = 2 ∨ M = 3 ∨ M = 4 by omega) with rfl | rfl | rfl | rfl <;> rfl
 have ha : (List.range (pushL 0 1 M).length).all (fun j => decide (okAt ⟨0,[]⟩ (pushL 0 1 M) j)) = true := by
  rcases (show M = 1 ∨ M = 2 ∨ M = 3 ∨ M = 4 by omega) with rfl | rfl | rfl | rfl <;> decide
 have hl := pushL_len 0 1 M
 unfold putS
 rw [if_pos ha,hn,if_neg (by intro h; rw [h] at hl; simp at hl; omega),if_neg (by rw [hl]; show ¬ w < ((0 : Nat) : Int) + (M : Int); omega)]
 rfl
theorem put_again {w : Int} {M : Nat} (h1 : 1 ≤ M) (h4 : M ≤ 4) : putS w ⟨0,pushL 0 1 M⟩ (pushL 0 1 M) = (⟨0,pushL 0 1 M⟩,0) := by
 have hn : newS ⟨0,pushL 0 1 M⟩ (pushL 0 1 M) = [] := by
  rcases (show M = 1 ∨ M = 2 ∨ M = 3 ∨ M = 4 by omega) with rfl | rfl | rfl | rfl <;> rfl
 have ha : (List.range (pushL 0 1 M).length).all (fun j => decide (okAt ⟨0,pushL 0 1 M⟩ (pushL 0 1 M) j)) = true := by
  rcases (show M = 1 ∨ M = 2 ∨ M = 3 ∨ M = 4 by omega) with rfl | rfl | rfl | rfl <;> decide
 unfold putS
 rw [if_pos ha,if_pos hn]
theorem least0 (n : Nat) (s : Nat) : leastP (List.replicate n clk0) s = 0 := by
 have hz : ∀ s : Nat,clk0.at s = 0 := fun s => by
  rcases s with _ | _ | _ | _ | s <;> rfl
 have hf : ∀ n : Nat,leastF s 0 (List.replicate n clk0) = 0 := fun n => by
  induction n with
  | zero => rfl
  | succ n ih =>
    show leastF s (mnI 0 (clk0.at s)) (List.replicate n clk0) = 0
    rw [hz]
    exact ih
 unfold leastP
 rw [show ((List.replicate n clk0).headD clk0) = clk0 by cases n <;> rfl,hz]
 exact hf n
theorem cutS_0 (l : List Ev) : cutS ⟨0,l⟩ 0 = ⟨0,l⟩ := by
 have : cutN 0 (l.length : Int) 0 = 0 := by
  have := cutN_in 0 (l.length : Int) 0 (by omega)
  unfold cutN at this ⊢
  split <;> (try split) <;> omega
 unfold cutS
 dsimp only
 rw [this]
 rfl
theorem modN_modN {α : Type} (f g : α → α) : ∀ (r : Nat) (l : List α),modN f r (modN g r l) = modN (fun x => f (g x)) r l
  | r,[] => by cases r <;> rfl
  | 0,x :: l => rfl
  | r + 1,x :: l => by show x :: modN f r (modN g r l) = x :: _; rw [modN_modN f g r l]
theorem push_first {w : Int} {n M : Nat} (hn : 1 ≤ n) (h1 : 1 ≤ M) (h4 : M ≤ 4) (hw : (M : Int) ≤ w) : pushP w 0 (pushL 0 1 M) (pt0 n) = (pt1 n M,(M : Int),0) := by
 unfold pushP
 rw [pt0_get (by omega),put_first h1 h4 hw,if_pos rfl]
 have hl := pushL_len 0 1 M
 refine Prod.ext ?_ (Prod.ext ?_ rfl)
 · show cutP ⟨modN _ 0 (pt0 n).sh,(pt0 n).told⟩ 0 = pt1 n M
   unfold cutP pt1
   dsimp only
   rw [modN_modN,show (pt0 n).told = List.replicate n clk0 from rfl,least0]
   simp only [cutS_0]
 · show (cutS ⟨0,pushL 0 1 M⟩ (leastP (List.replicate n clk0) 0)).len = (M : Int)
   rw [cutS_len]
   show (0 : Int) + ((pushL 0 1 M).length : Int) = _
   rw [hl]
   omega
theorem pt1_get {n M : Nat} (hn : 1 ≤ n) : (pt1 n M).sh.getD 0 default = ⟨0,pushL 0 1 M⟩ := by
 show (modN _ 0 (pt0 n).sh).getD 0 default = _
 rw [modN_get (by show 0 < (List.replicate n _).length; rw [List.length_replicate]; omega),if_pos rfl]
theorem push_again {w : Int} {n M : Nat} (hn : 1 ≤ n) (h1 : 1 ≤ M) (h4 : M ≤ 4) : pushP w 0 (pushL 0 1 M) (pt1 n M) = (pt1 n M,(M : Int),0) := by
 unfold pushP
 rw [pt1_get hn,put_again h1 h4,if_pos rfl]
 have hl := pushL_len 0 1 M
 refine Prod.ext ?_ (Prod.ext ?_ rfl)
 · show cutP ⟨modN _ 0 (pt1 n M).sh,(pt1 n M).told⟩ 0 = pt1 n M
   unfold cutP pt1
   dsimp only
   rw [modN_modN,modN_modN,show (pt0 n).told = List.replicate n clk0 from rfl,least0]
   simp only [cutS_0]
 · show (cutS ⟨0,pushL 0 1 M⟩ (leastP (List.replicate n clk0) 0)).len = (M : Int)
   rw [cutS_len]
   show (0 : Int) + ((pushL 0 1 M).length : Int) = _
   rw [hl]
   omega
theorem lenOf0 {n : Nat} (hn : 1 ≤ n) : (pt0 n).lenOf 0 = 0 := by
 rw [lenOf_get (by show 0 < (List.replicate n _).length; rw [List.length_replicate]; omega),pt0_get (by omega)]
 rfl
theorem lenOf1 {n M : Nat} (hn : 1 ≤ n) : (pt1 n M).lenOf 0 = (M : Int) := by
 rw [lenOf_get (by show 0 < (modN _ 0 (List.replicate n _)).length; rw [modN_len,List.length_replicate]; omega),pt1_get hn]
 show (0 : Int) + ((pushL 0 1 M).length : Int) = _
 rw [pushL_len]
 omega
def x1 (M : Nat) : Rc := ⟨5,0,0,clk0,pushL 0 1 M⟩
def hb1 (c : Cfg) (n M : Nat) : Hb := ⟨true,c,pt1 n M,⟨rcBytes (x1 M),false,false,0⟩⟩
def zP (M : Nat) : Rc := ⟨1,0,0,clk0,pushL 0 1 M⟩
theorem zP_may {M : Nat} (h1 : 1 ≤ M) (h4 : M ≤ 4) : mayF (zP M) = true := mayF_1 (r := 0) (by omega) (by omega) h1 (by omega) (by omega)
theorem take_first {c : Cfg} {n M : Nat} (hcn : c.n = (n : Int)) (hn : 1 ≤ n) (h1 : 1 ≤ M) (h4 : M ≤ 4) (hw : (M : Int) ≤ c.w) : takeHb (hb0 c n) (frBytes (zP M)) = (hb1 c n M, .inr (0,frBytes ⟨2,0,M,clk0,[]⟩)) := by
 rw [takeHb_put rfl (zP_may h1 h4)]
 unfold takeZ
 rw [if_neg (by show ¬ c.n ≤ 0; omega),if_pos (show (zP M).k = 1 from rfl)]
 have hp : pushP (hb0 c n).c.w (zP M).r.toNat (zP M).ev (hb0 c n).p = (pt1 n M,(M : Int),0) := push_first hn h1 h4 hw
 have hl : (hb0 c n).p.lenOf (zP M).r.toNat = 0 := lenOf0 hn
 unfold pushH
 rw [hp,hl,if_neg (by simp),if_neg (by show ¬ (M : Int) = 0; omega)]
 rfl
theorem take_again {c : Cfg} {n M : Nat} (hcn : c.n = (n : Int)) (hn : 1 ≤ n) (h1 : 1 ≤ M) (h4 : M ≤ 4) : takeHb (hb1 c n M) (frBytes (zP M)) = (hb1 c n M, .inr (0,frBytes ⟨2,0,M,clk0,[]⟩)) := by
 rw [takeHb_put rfl (zP_may h1 h4)]
 unfold takeZ
 rw [if_neg (by show ¬ c.n ≤ 0; omega),if_pos (show (zP M).k = 1 from rfl)]
 have hp : pushP (hb1 c n M).c.w (zP M).r.toNat (zP M).ev (hb1 c n M).p = (pt1 n M,(M : Int),0) := push_again hn h1 h4
 have hl : (hb1 c n M).p.lenOf (zP M).r.toNat = (M : Int) := lenOf1 hn
 unfold pushH
 rw [hp,hl,if_neg (by simp),if_pos rfl]
 rfl
theorem fetchG_nil {r : Nat} {c : Clk} : ∀ {l : List Shf} {i : Nat},(∀ s ∈ l,s.kept = []) → fetchG r c i l = []
  | [],_,_ => rfl
  | s :: l,i,h => by
    show (if i = r then [] else s.kept.filter (overN (c.get i))) ++ fetchG r c (i + 1) l = []
    rw [h s List.mem_cons_self,fetchG_nil fun x hx => h x (List.mem_cons_of_mem _ hx)]
    split <;> rfl
def clkK (k : Nat) : Clk := ⟨k,0,0,0,0⟩
theorem fetch1 {n M k : Nat} (hn : 2 ≤ n) (h4 : M ≤ 4) (hk : k ≤ M) : fetchG 1 (clkK k) 0 (pt1 n M).sh = (pushL 0 1 M).drop k := by
 obtain ⟨m,rfl⟩ : ∃ m,n = m + 1 := ⟨n - 1,by omega⟩
 show (if 0 = 1 then [] else (pushL 0 1 M).filter (overN ((clkK k).get 0))) ++ fetchG 1 (clkK k) 1 (List.replicate m ⟨0,[]⟩) = _
 rw [if_neg (by omega),fetchG_nil fun s hs => by rw [List.eq_of_mem_replicate hs],List.append_nil]
 have e : (clkK k).get 0 = (k : Int) := rfl
 rw [e]
 rcases (show M = 0 ∨ M = 1 ∨ M = 2 ∨ M = 3 ∨ M = 4 by omega) with rfl | rfl | rfl | rfl | rfl <;> rcases (show k = 0 ∨ k = 1 ∨ k = 2 ∨ k = 3 ∨ k = 4 by omega) with rfl | rfl | rfl | rfl | rfl <;> first | omega | rfl
theorem okC_K {k : Nat} (hk : k ≤ 1048576) : okC (clkK k) = true := by
 simp [okC,clkK,okN_mk (show (0 : Int) ≤ (k : Int) by omega) (by omega),okN_mk (show (0 : Int) ≤ 0 by omega) (by omega)]
theorem mayF_c {q : Int} (hq : q = 3 ∨ q = 5) {r : Int} {k : Nat} (h0 : 0 ≤ r) (h5 : r < 5) (hk : k ≤ 1048576) : mayF ⟨q,r,0,clkK k,[]⟩ = true := by
 rcases hq with rfl | rfl <;> simp [mayF,shK,shU,shC,shE,okC_K hk,h0,h5,okN_mk (show (0 : Int) ≤ 0 by omega) (by omega)]
theorem take_fetch {c : Cfg} {n M k : Nat} (hcn : c.n = (n : Int)) (hn : 2 ≤ n) (h4 : M ≤ 4) (hk : k ≤ M) : takeHb (hb1 c n M) (frBytes ⟨3,1,0,clkK k,[]⟩) = (hb1 c n M, .inr (1,frBytes ⟨4,1,0,clk0,(pushL 0 1 M).drop k⟩)) := by
 rw [takeHb_put rfl (mayF_c (r := 1) (.inl rfl) (by omega) (by omega) (by omega))]
 unfold takeZ
 rw [if_neg (by show ¬ c.n ≤ 1; omega),if_neg (show ¬ (3 : Int) = 1 by decide),if_pos rfl]
 have := fetch1 hn h4 hk
 show (hb1 c n M,(Sum.inr (1,frBytes ⟨4,1,0,clk0,fetchG 1 (clkK k) 0 (pt1 n M).sh⟩) : Res)) = _
 rw [this]
 rfl
theorem told1 {n M k : Nat} (hn : 2 ≤ n) : (ackP (pt1 n M) 1 (clkK k)).told.getD 1 clk0 = clkK k := by
 show (modN _ 1 (List.replicate n clk0)).getD 1 clk0 = _
 rw [modN_get (by rw [List.length_replicate]; omega),if_pos rfl,List.getD_eq_getElem?_getD,List.getElem?_replicate,if_pos (by omega)]
 show clk0.jn (clkK k) = clkK k
 unfold Clk.jn mxI' clkK clk0
 dsimp only
 congr 1
 split <;> omega
theorem take_told {c : Cfg} {n M k : Nat} (hcn : c.n = (n : Int)) (hn : 2 ≤ n) (hk : k ≤ 4) : ∃ h',takeHb (hb1 c n M) (frBytes ⟨5,1,0,clkK k,[]⟩) = (h', .inl 0) ∧ h'.up = true ∧ h'.p = ackP (pt1 n M) 1 (clkK k) := by
 rw [takeHb_put rfl (mayF_c (r := 1) (.inr rfl) (by omega) (by omega) (by omega))]
 unfold takeZ
 rw [if_neg (by show ¬ c.n ≤ 1; omega),if_neg (show ¬ (5 : Int) = 1 by decide),if_neg (show ¬ (5 : Int) = 3 by decide),if_pos rfl]
 unfold ackH
 split
 · exact ⟨_,rfl,rfl,rfl⟩
 · refine ⟨_,rfl,rfl,rfl⟩
end Go.Proofs.Ytmldeejaghflnaa
