/-
  Contracts of the walk: HnE, OpenI, RcX, HnF, HnG.
-/
import Derived.Test.YtmldeejaghflnaaFu20
import Derived.Test.YtmldeejaghflnaaFu12
import Derived.Test.YtmldeejaghflnaaFu16
/-
 HubReplies,walked.
-/
namespace Go.Proofs.Ytmldeejaghflnaa
open Go.RowKit
def cfgR (c : Cfg) : Cfg := ⟨if 2 > (fitCf c).n then 2 else (fitCf c).n,(fitCf c).w,(fitCf c).q,(fitCf c).h,(fitCf c).l,(fitCf c).p⟩
theorem cfgR_may (c : Cfg) : mayC (cfgR c) = true ∧ 2 ≤ (cfgR c).n := by
 have h := fitCf_may c
 simp only [mayC,Bool.and_eq_true] at h ⊢
 have h1 := inC_iff.1 h.1.1.1.1.1
 have hn : 2 ≤ (cfgR c).n ∧ (cfgR c).n ≤ 5 := by
  show 2 ≤ (if 2 > (fitCf c).n then 2 else (fitCf c).n) ∧ (if 2 > (fitCf c).n then 2 else (fitCf c).n) ≤ 5
  split <;> omega
 exact ⟨⟨⟨⟨⟨⟨inC_iff.2 (by omega),h.1.1.1.1.2⟩,h.1.1.1.2⟩,h.1.1.2⟩,h.1.2⟩,h.2⟩,hn.1⟩
theorem hb1_G {c : Cfg} {n M : Nat} (hc : mayC c = true) (hcn : c.n = (n : Int)) (hn : 1 ≤ n) (h5 : n ≤ 5) (h1 : 1 ≤ M) (h4 : M ≤ 4) (hw : (M : Int) ≤ c.w) : HbG (hb1 c n M) := by
 have hcw := mayC_w hc
 have hok := pushL_ok (r := 0) (f := 1) (m := M) (by omega) (by omega) (by omega)
 have hp := pushP_G (pt0_G (w := c.w) (by omega) hn h5) (r := 0) (by show 0 < (List.replicate n _).length; rw [List.length_replicate]; omega) hok
 rw [push_first hn h1 h4 hw] at hp
 have hl := pushL_len 0 1 M
 have hx := rcBytes_max (x1 M) (mayR_5 (by omega) (by omega) (by omega) fun e he => (hok e he).1)
 refine ⟨hp,?_,hcw.2,by show (rcBytes (x1 M)).length ≤ _; omega⟩
 show c.n = ((modN _ 0 (List.replicate n (⟨0,[]⟩ : Shf))).length : Int)
 rw [modN_len,List.length_replicate,hcn]
theorem pushL_drop {r : Nat} {f : Int} {m k i : Nat} : evF ((pushL r f m).drop k) i = evF (pushL r f m) (k + i) := els_drop k i
set_option maxHeartbeats 16000000 in
set_option maxRecDepth 100000 in
theorem hubReplies_spec (c : Cfg) (n0 n1 : Int) (_ : c.rng) (h0 : 0 ≤ n0 ∧ n0 ≤ 255) (h1 : 0 ≤ n1 ∧ n1 ≤ 255) : ASpec Try.prog 4 [c.av, .agg [.v (.int .u8 n0), .v (.int .u8 n1)]] (.v (.bool true)) [] := by
 have hsh := shown20_spec
 have hfit := fit11_spec c
 obtain ⟨hmay,hn2⟩ := cfgR_may c
 obtain ⟨n,hn,hn1,hn5⟩ := mayC_n hmay
 have hnew := hb_new_m (cfgR c) n hn hmay hn1 hn5
 have hg := hb0_G hmay hn hn1 hn5
 have hw := mayC_w hmay
 have hwf : 1 ≤ (fitCf c).w ∧ (fitCf c).w ≤ 4 := hw
 obtain ⟨m,hm⟩ : ∃ m : Nat,n0 % (fitCf c).w = (m : Int) := ⟨(n0 % (fitCf c).w).toNat,by have := Int.emod_nonneg n0 (show (fitCf c).w ≠ 0 by omega); omega⟩
 have hmw : (m : Int) < (fitCf c).w := by rw [← hm]; exact Int.emod_lt_of_pos _ (by omega)
 obtain ⟨k,hk⟩ : ∃ k : Nat,n1 % (1 + (m : Int) + 1) = (k : Int) := ⟨(n1 % (1 + (m : Int) + 1)).toNat,by have := Int.emod_nonneg n1 (show (1 + (m : Int) + 1) ≠ 0 by omega); omega⟩
 have hkm : (k : Int) < 1 + (m : Int) + 1 := by rw [← hk]; exact Int.emod_lt_of_pos _ (by omega)
 have hp1 := push20_spec 0 (by omega) 0 ⟨0,0,1 + (m : Int) - 1,0,clk0,0,0,0⟩ (by decide) (by dsimp only; omega) (by dsimp only; omega)
 rw [show fromN 0 (⟨0,0,1 + (m : Int) - 1,0,clk0,0,0,0⟩ : Opn).back = 1 by rfl,show (1 + ((⟨0,0,1 + (m : Int) - 1,0,clk0,0,0,0⟩ : Opn).many % 5).toNat) = m + 1 by dsimp only; omega] at hp1
 have ht1 := take_first (c := cfgR c) hn hn1 (show 1 ≤ m + 1 by omega) (by omega) (by show ((m + 1 : Nat) : Int) ≤ (fitCf c).w; omega)
 have hg1 : HbG (hb1 (cfgR c) n (m + 1)) := hb1_G hmay hn hn1 hn5 (show 1 ≤ m + 1 by omega) (by omega) (by show ((m + 1 : Nat) : Int) ≤ (fitCf c).w; omega)
 have ht2 := take_again (c := cfgR c) hn hn1 (show 1 ≤ m + 1 by omega) (by omega)
 have ht3 := take_fetch (c := cfgR c) (M := m + 1) (k := k) hn (by omega) (by omega) (by omega)
 obtain ⟨h2,ht4,hup2,hpp2⟩ := take_told (c := cfgR c) (n := n) (M := m + 1) (k := k) hn (by omega) (by omega)
 have hk1 := take_of hg ht1
 have hk2 := take_of hg1 ht2
 have hk3 := take_of hg1 ht3
 have hk4 := take_of hg1 ht4
 have hpB : PtB h2.p := by rw [hpp2]; exact (ackP_B hg1.p.b 1 _).1
 have hsite := hb_site_m h2 hpB
 have hsit : h2.sit.a1 = clkK k := by
  unfold Hb.sit
  rw [if_pos hup2,hpp2]
  exact told1 (by omega)
 have hz1 := zP_may (M := m + 1) (by omega) (by omega)
 have hz3 := mayF_c (q := 3) (r := 1) (k := k) (.inl rfl) (by omega) (by omega) (by omega)
 have hz5 := mayF_c (q := 5) (r := 1) (k := k) (.inr rfl) (by omega) (by omega) (by omega)
 have hy2 := mayF_2 (r := 0) (m := ((m + 1 : Nat) : Int)) (by omega) (by omega) (by omega) (by omega)
 have hpl := pushL_len 0 1 (m + 1)
 have hdl : ((pushL 0 1 (m + 1)).drop k).length = m + 1 - k := by rw [List.length_drop,hpl]
 have hy4 := mayF_4 (r := 1) (l := (pushL 0 1 (m + 1)).drop k) (by omega) (by omega) (by omega) fun e he => (pushL_ok (r := 0) (by omega) (by omega) (by omega) e (List.mem_of_mem_drop he)).1
 have hput1 := (r07Put_yes 0 _ hz1).thaw
 have hput3 := (r07Put_yes 0 _ hz3).thaw.args (avs := [Rc.nilA ⟨3,1,0,clkK k,[]⟩]) (.of (fun X u hu => C1.nilEv hu) .nil)
 have hput5 := (r07Put_yes 0 _ hz5).thaw.args (avs := [Rc.nilA ⟨5,1,0,clkK k,[]⟩]) (.of (fun X u hu => C1.nilEv hu) .nil)
 have hf2 := frTake_any _ (takeF_put _ hy2) (IsB.bytes _) rfl
 have hf4 := frTake_any _ (takeF_put _ hy4) (IsB.bytes _) rfl
 have hsame := (same06_spec ((pushL 0 1 (m + 1)).drop k) ((pushL 0 1 (m + 1)).drop k) true (by simp) (by omega) (by omega)).args (avs := [.sl 12 ((pushL 0 1 (m + 1)).drop k).length true (evF ((pushL 0 1 (m + 1)).drop k)), .sl 12 ((pushL 0 1 (m + 1)).length - k) true (fun i => evF (pushL 0 1 (m + 1)) (k + i))]) (.same (.of (fun X u hu => AEq.sl (by rw [hdl,hpl]) (fun i _ => pushL_drop.symm) X u hu) .nil))
 generalize frBytes (zP (m + 1)) = w1 at hput1 hk1 hk2
 generalize frBytes ⟨2,0,((m + 1 : Nat) : Int),clk0,[]⟩ = w2 at hf2 hk1 hk2
 generalize frBytes ⟨3,1,0,clkK k,[]⟩ = w3 at hput3 hk3
 generalize frBytes ⟨4,1,0,clk0,(pushL 0 1 (m + 1)).drop k⟩ = w4 at hf4 hk3
 generalize frBytes ⟨5,1,0,clkK k,[]⟩ = w5 at hput5 hk4
 generalize hbO (hb0 (cfgR c) n) = B0 at hnew hk1
 generalize hbO (hb1 (cfgR c) n (m + 1)) = B1 at hk1 hk2 hk3 hk4
 generalize hbO h2 = B2 at hk4 hsite
 clear hg hg1 ht1 ht2 ht3 ht4 hmay hz1 hz3 hz5 hy2 hy4 hpB hpp2 hup2
 dsimp only [resA,resH,noA,yesA,bRow,zP,Cfg.av,Cfg.cs,cfgR,frA,Rc.av,Rc.cs,Rc.nilA,Opn.av,Opn.cs,Op0,clk0,clkK] at hnew hk1 hk2 hk3 hk4 hput1 hput3 hput5 hf2 hf4 hp1 hfit ⊢
 refine aspec_of lay_ok 2993155353253689176481146537402947660284162964713471 Try.func4 rfl rfl rfl ?_
 repeat' ((conv => whnf); first | refine K1.a ?_ | refine K1.b ?_ | refine K1.c ?_ | refine K1.d ?_ | refine K1.e ?_ | refine K1.f ?_ | refine ACall.plain _ _ (hsh) .nil rfl ?_ | refine ACall.plain _ _ (hfit) (SubL.cons (.eq _) .nil) rfl ?_ | refine ACall.chgR 0 [] (hnew) rfl trivial rfl rfl ?_ | refine ACall.plain _ _ (hp1) (SubL.cons (.eq _) (SubL.cons (.eq _) (SubL.cons (.eq _) .nil))) rfl ?_ | refine ACall.plain _ _ (hput1) (SubL.cons (.eq _) .nil) rfl ?_ | refine ACall.plain _ _ (hput3) (SubL.cons (.eq _) .nil) rfl ?_ | refine ACall.plain _ _ (hput5) (SubL.cons (.eq _) .nil) rfl ?_ | refine ACall.chgR 1 [(0,_)] (hk1) rfl ⟨rfl,trivial⟩ rfl rfl ?_ | refine ACall.chgR 1 [(0,_)] (hk2) rfl ⟨rfl,trivial⟩ rfl rfl ?_ | refine ACall.chgR 1 [(0,_)] (hk3) rfl ⟨rfl,trivial⟩ rfl rfl ?_ | refine ACall.chgR 1 [(0,_)] (hk4) rfl ⟨rfl,trivial⟩ rfl rfl ?_ | refine ACall.plain _ _ (hf2) (SubL.cons (.eq _) .nil) rfl ?_ | refine ACall.plain _ _ (hf4) (SubL.cons (.eq _) .nil) rfl ?_ | refine ACall.plain _ _ (hsame) (SubL.cons (.eq _) (SubL.cons (.eq _) .nil)) rfl ?_ | refine ACall.chgR 1 [(0,_)] (hsite) rfl ⟨rfl,trivial⟩ rfl rfl ?_ | refine Rm.is (by omega) (by omega) hm ?_ | refine Rm.is (by omega) (by omega) hk ?_ | refine Bs.mk w2 rfl (fun _ _ => rfl) ?_ | refine EqA.mk (Clk.vs h2.sit.a1) (Clk.vs ⟨k,0,0,0,0⟩) (h2.sit.a1 = ⟨k,0,0,0,0⟩) rfl rfl (clk_eq _ _) ?_ | refine Spl.yes rfl ?_ | refine ARet.hdI ?_ | refine Spl.mk (fun _ => ?_) (fun _ => ?_) | refine SNil.mk (fun _ => ?_) ?_ | refine K1.g ?_ | refine ASl.frz ?_ | refine Wr.b64 ?_ | refine Wr.bu64 ?_ | refine Wr.bu32 ?_ | refine Wr.bu8 ?_ | refine K1.u8 ?_ | refine K1.u64 ?_ | refine K1.u32 ?_ | refine K1.h ?_ | refine K1.i ?_ | refine K1.q ?_ | refine ADraw.sched (id := 21) lay_ok (awp_snd lay_ok _) [(0,none),(1,none),(2,none),(3,none),(4,none),(5,none),(6,none),(7,none),(8,none),(9,none),(10,none),(11,none),(12,none),(13,none),(14,none),(15,none),(16,none),(17,none),(18,none),(19,none),(20,none),(21,none),(22,none),(23,none),(24,none),(25,none),(26,none),(27,some [1,4,8,13,12,18,17,24,22]),(28,none),(29,none),(30,none),(31,none),(32,none),(33,none),(34,none),(35,none),(36,none),(37,none),(38,none),(39,none),(40,none),(41,none),(42,none),(43,none),(47,none),(48,none),(44,some [1,4,8,13,12,18,17,24,22,31,36,40]),(45,none),(46,none),(49,none),(50,none),(51,none)] [(2,[1]),(3,[1]),(4,[1]),(5,[4,1]),(6,[1,4]),(7,[1,4]),(8,[1,4]),(9,[8,1,4]),(10,[1,4,8]),(11,[1,4,8]),(12,[1,4,8]),(13,[1,4,8,12]),(14,[13,1,4,8,12]),(15,[1,4,8,13,12]),(16,[1,4,8,13,12]),(17,[1,4,8,13,12]),(18,[1,4,8,13,12,17]),(19,[18,1,4,8,13,12,17]),(20,[1,4,8,13,12,18,17]),(21,[1,4,8,13,12,18,17]),(22,[1,4,8,13,12,18,17]),(23,[1,4,8,13,12,18,17]),(24,[1,4,8,13,12,18,17]),(25,[1,4,8,13,12,18,17]),(26,[1,4,8,13,12,18,17,24]),(27,[1,4,8,13,12,18,17,24,22]),(28,[1,4,8,13,12,18,17,24,22]),(29,[1,4,8,13,12,18,17,24,22]),(30,[1,4,8,13,12,18,17,24,22]),(31,[1,4,8,13,12,18,17,24,22]),(32,[31,1,4,8,13,12,18,17,24,22]),(33,[1,4,8,13,12,18,17,24,22,31]),(34,[1,4,8,13,12,18,17,24,22,31]),(35,[1,4,8,13,12,18,17,24,22,31]),(36,[1,4,8,13,12,18,17,24,22,31]),(37,[36,1,4,8,13,12,18,17,24,22,31]),(38,[1,4,8,13,12,18,17,24,22,31,36]),(39,[1,4,8,13,12,18,17,24,22,31,36]),(40,[1,4,8,13,12,18,17,24,22,31,36]),(41,[40,1,4,8,13,12,18,17,24,22,31,36]),(42,[1,4,8,13,12,18,17,24,22,31,36,40]),(43,[1,4,8,13,12,18,17,24,22,31,36,40]),(44,[1,4,8,13,12,18,17,24,22,31,36,40]),(45,[1,4,8,13,12,18,17,24,22,31,36,40]),(46,[1,4,8,13,12,18,17,24,22,31,36,40]),(47,[1,4,8,13,12,18,17,24,22,31,36,40]),(48,[1,4,8,13,12,18,17,24,22,31,36,40]),(49,[1,4,8,13,12,18,17,24,22,31,36,40]),(50,[1,4,8,13,12,18,17,24,22,31,36,40]),(51,[1,4,8,13,12,18,17,24,22,31,36,40])] follows_ok (by kernel_rfl) ?_ | refine K1.j ?_ | refine K1.k ?_ | refine BSpl.dec (fun _ => ?_) (fun _ => ?_) | refine K1.l ?_ | refine K1.n ?_ | refine BSpl.mk (fun _ => ?_) (fun _ => ?_))
 all_goals (conv => whnf)
 all_goals exact AEqI.mk (AEq.refl _)
end Go.Proofs.Ytmldeejaghflnaa

/-
 Arguments that are two bytes,or a truth value.
-/
namespace Go.Proofs.Ytmldeejaghflnaa
open Go.ChangeShapes Go.WideShapes Go.ChangeAt Go.RowKit
section
variable {H : Type} {enc : TypeId × Value → H} {w : World} {spare : Nat → Bool} {held : Bool} {v : Value} {d : DataW H} {p : List MemPlace} {r : Reach} {b0 : Nat}
theorem wide_arr {P : Program} {t e : TypeId} {n : Nat} (ht : P.underlying t = some (.array n e)) (h : Value.okWide P w r b0 t v) : ∃ cs,v = .agg cs ∧ cs.size = P.cellsOf t := by
 simp only [Value.okWide,ht] at h
 obtain ⟨cs,h1,h2,_⟩ := h
 exact ⟨cs,h1,h2⟩
theorem sh_u8x2 : Sh 36 (fun avs => ∃ a b : Int,avs = [.v (.int .u8 a), .v (.int .u8 b)] ∧ (Lit.int .u8 a).wf = true ∧ (Lit.int .u8 b).wf = true) :=
 (sh_array (s := 1) Try.underlying36 (by kernel_rfl) (by kernel_rfl) (sh_int Try.underlying5)).imp fun avs h => by
  obtain ⟨_,_,rfl,⟨a,rfl,ha⟩,_,_,rfl,⟨b,rfl,hb⟩,rfl⟩ := h
  exact ⟨a,b,rfl,ha,hb⟩
set_option maxRecDepth 100000 in
theorem arg_u8x2 (hv : Value.okWide Try.prog w r b0 36 v) (h : DataW.Trod enc Try.prog w 0 spare held 36 v d p) (hw : ∀ n ∈ d.weights Try.prog 36,n ≤ reachBytes) :
  ∃ a b : Int,(0 ≤ a ∧ a ≤ 255) ∧ (0 ≤ b ∧ b ≤ 255) ∧ C1 ⟨w,allOf w,fun _ => undef⟩ (.agg [.v (.int .u8 a), .v (.int .u8 b)]) v := by
 obtain ⟨cs,rfl,_⟩ := wide_arr Try.underlying36 hv
 obtain ⟨xs,⟨a,b,rfl,ha,hb⟩,hc⟩ := arg_agg sh_u8x2 h hw ⟨_,rfl⟩
 exact ⟨a,b,by simpa [Lit.wf,IntKind.min,IntKind.max,IntKind.signed,IntKind.bits] using ha,by simpa [Lit.wf,IntKind.min,IntKind.max,IntKind.signed,IntKind.bits] using hb,hc⟩
set_option maxRecDepth 100000 in
theorem arg_bool (hv : Value.okWide Try.prog w r b0 4 v) (h : DataW.Trod enc Try.prog w 0 spare held 4 v d p) (hw : ∀ n ∈ d.weights Try.prog 4,n ≤ reachBytes) : ∃ b : Bool,C1 ⟨w,allOf w,fun _ => undef⟩ (.v (.bool b)) v := by
 obtain ⟨b,rfl⟩ := okWide_bool Try.underlying4 hv
 obtain ⟨x,⟨m,e⟩,hc⟩ := arg_one (sh_bool Try.underlying4) (fun _ ⟨l,e⟩ => by rw [e]; rfl) h hw rfl
 cases e
 exact ⟨m,hc⟩
end
end Go.Proofs.Ytmldeejaghflnaa

/-
 A record that is cut is none.
-/
namespace Go.Proofs.Ytmldeejaghflnaa
theorem first_nil : firstF [] = none := by unfold firstF; rw [if_pos (.inl (by decide))]
theorem first_cut (x : Rc) (h : mayR x = true) (i : Nat) (hi : i < (rcBytes x).length) : firstF ((rcBytes x).take i) = none := by
 have hb := rcBody_len x h
 have hs := sealB_len (rcBody x)
 have hl : (rcBytes x).length = (vput (sealB (rcBody x)).length).length + (sealB (rcBody x)).length := by unfold rcBytes; rw [List.length_append]
 unfold firstF
 by_cases hc : i < (vput (sealB (rcBody x)).length).length
 · have e : (rcBytes x).take i = (vput (sealB (rcBody x)).length).take i := by unfold rcBytes; rw [List.take_append_of_le_length (by omega)]
   rw [e,vtake_cut hc,if_pos (.inl (by decide))]
 · have e : (rcBytes x).take i = vput (sealB (rcBody x)).length ++ (sealB (rcBody x)).take (i - (vput (sealB (rcBody x)).length).length) := by
    unfold rcBytes
    rw [List.take_append,List.take_of_length_le (by omega)]
   rw [e,vtake_put _ _ (by omega)]
   rw [if_pos (.inr (by rw [List.length_append,List.length_take]; dsimp only; omega))]
end Go.Proofs.Ytmldeejaghflnaa

/-
 HubCuts: what a hub is when its write was cut,and behind its restart.
-/
namespace Go.Proofs.Ytmldeejaghflnaa
open Go.RowKit
def zC (b : Bool) : Rc := if b then zP 1 else ⟨5,0,0,clkK 7,[]⟩
def xC (b : Bool) : Rc := if b then x1 1 else ⟨6,0,0,clkK 7,[]⟩
def pC (n : Nat) (b : Bool) : Pt := if b then pt1 n 1 else ackP (pt0 n) 0 (clkK 7)
theorem zC_may (b : Bool) : mayF (zC b) = true := by
 cases b
 · exact mayF_c (.inr rfl) (by omega) (by omega) (by omega)
 · exact zP_may (by omega) (by omega)
theorem xC_may (b : Bool) : mayR (xC b) = true := by
 cases b
 · exact mayR_6 (by omega) (by omega) (okC_K (by omega))
 · exact mayR_5 (by omega) (by omega) (by decide) fun e he => (pushL_ok (r := 0) (f := 1) (m := 1) (by omega) (by omega) (by omega) e he).1
theorem xC_len (b : Bool) : 5 ≤ (rcBytes (xC b)).length ∧ (rcBytes (xC b)).length ≤ 100 := by
 have e : (rcBytes (xC b)).length = (vput ((rcBody (xC b)).length + 4)).length + ((rcBody (xC b)).length + 4) := by
  unfold rcBytes
  rw [List.length_append,sealB_len]
 rw [e]
 cases b <;> decide
def hbA (c : Cfg) (n : Nat) (k : Int) : Hb := ⟨true,c,pt0 n,⟨[],false,true,k⟩⟩
def cutBs (b : Bool) (k : Int) : List UInt8 := (rcBytes (xC b)).take (keepI k (rcBytes (xC b)).length).toNat
def hbB' (c : Cfg) (n : Nat) (k : Int) (b : Bool) : Hb := ⟨false,c,pC n b,⟨cutBs b k,true,false,k⟩⟩
theorem write_cut (c : Cfg) (p : Pt) (k : Int) (x : Rc) : writeH ⟨true,c,p,⟨[],false,true,k⟩⟩ x = (⟨false,c,p,⟨(rcBytes x).take (keepI k (rcBytes x).length).toNat,true,false,k⟩⟩,18) := by
 unfold writeH writeD
 dsimp only
 rw [if_neg (by simp),if_pos rfl,if_neg (by simp)]
 rfl
theorem take_cut {c : Cfg} {n : Nat} (hcn : c.n = (n : Int)) (hn : 1 ≤ n) (hw : 1 ≤ c.w) (k : Int) (b : Bool) : takeHb (hbA c n k) (frBytes (zC b)) = (hbB' c n k b, .inl 18) := by
 rw [takeHb_put rfl (zC_may b)]
 unfold takeZ
 cases b with
 | true =>
   rw [if_neg (by show ¬ c.n ≤ 0; omega),if_pos (show (zC true).k = 1 from rfl)]
   have hp : pushP (hbA c n k).c.w (zC true).r.toNat (zC true).ev (hbA c n k).p = (pt1 n 1,((1 : Nat) : Int),0) := push_first hn (by omega) (by omega) (by show ((1 : Nat) : Int) ≤ c.w; omega)
   have hl : (hbA c n k).p.lenOf (zC true).r.toNat = 0 := lenOf0 hn
   unfold pushH
   rw [hp,hl,if_neg (by simp),if_neg (by show ¬ ((1 : Nat) : Int) = 0; omega)]
   have hw : writeH ((hbA c n k).withP (pt1 n 1)) ⟨5,(zC true).r,0,clk0,(zC true).ev⟩ = (hbB' c n k true,18) := write_cut c _ k _
   dsimp only
   rw [hw,if_neg (by simp)]
 | false =>
   rw [if_neg (by show ¬ c.n ≤ 0; omega),if_neg (show ¬ (zC false).k = 1 by decide),if_neg (show ¬ (zC false).k = 3 by decide),if_pos (show (zC false).k = 5 from rfl)]
   unfold ackH
   have ht : (ackP (hbA c n k).p (zC false).r.toNat (zC false).c).told.getD (zC false).r.toNat clk0 = clkK 7 := by
    show (modN _ 0 (List.replicate n clk0)).getD 0 clk0 = _
    rw [modN_get (by rw [List.length_replicate]; omega),if_pos rfl,List.getD_eq_getElem?_getD,List.getElem?_replicate,if_pos (by omega)]
    rfl
   have h0 : (hbA c n k).p.told.getD (zC false).r.toNat clk0 = clk0 := by
    show (List.replicate n clk0).getD 0 clk0 = _
    rw [List.getD_eq_getElem?_getD,List.getElem?_replicate,if_pos (by omega)]
    rfl
   rw [ht,h0,if_neg (by decide)]
   have hw : writeH ((hbA c n k).withP (ackP (hbA c n k).p (zC false).r.toNat (zC false).c)) ⟨6,(zC false).r,0,(zC false).c,[]⟩ = (hbB' c n k false,18) := write_cut c _ k _
   rw [hw]
theorem take_dead {c : Cfg} {n : Nat} (k : Int) (b : Bool) (w : List UInt8) : takeHb (hbB' c n k b) w = (hbB' c n k b, .inl 18) := by
 unfold takeHb
 rw [if_pos (show (hbB' c n k b).up = false from rfl)]
theorem told_7 {n : Nat} (hn : 1 ≤ n) : (ackP (pt0 n) 0 (clkK 7)).told.getD 0 clk0 = clkK 7 := by
 show (modN _ 0 (List.replicate n clk0)).getD 0 clk0 = _
 rw [modN_get (by rw [List.length_replicate]; omega),if_pos rfl,List.getD_eq_getElem?_getD,List.getElem?_replicate,if_pos (by omega)]
 rfl
theorem rcg_x {c : Cfg} {n : Nat} (hn : 1 ≤ n) (hw : 1 ≤ c.w) (b : Bool) : RcG c.w (pt0 n) (xC b) := by
 have hl : 0 < (pt0 n).sh.length := by show 0 < (List.replicate n _).length; rw [List.length_replicate]; omega
 cases b with
 | false => exact ⟨.inr rfl,by decide,hl,⟨by decide,fun j => by
    rw [show (xC false).ev.getD j default = default by cases j <;> rfl]
    decide⟩,fun h => absurd h (by decide),fun h => absurd h (by decide)⟩
 | true =>
   refine ⟨.inl rfl,by decide,hl,⟨by decide,fun j => ?_⟩,fun _ j hj => ?_,fun _ => ?_⟩
   · rcases j with _ | j
     · decide
     · rw [show (xC true).ev.getD (j + 1) default = default by rfl]
       decide
   · have hj : j < 1 := hj
     obtain rfl : j = 0 := by omega
     rfl
   · show ShB (putS c.w ((pt0 n).sh.getD 0 default) (pushL 0 1 1)).1
     rw [pt0_get (by omega),put_first (by omega) (by omega) (by show ((1 : Nat) : Int) ≤ c.w; omega)]
     exact ⟨by decide,by decide⟩
theorem replay_x {c : Cfg} {n : Nat} (hn : 1 ≤ n) (hw : 1 ≤ c.w) (b : Bool) : replay c.w n [xC b] = pC n b := by
 show stepP c.w (pt0 n) (xC b) = _
 cases b with
 | false => rfl
 | true =>
   show (pushP c.w 0 (pushL 0 1 1) (pt0 n)).1 = pt1 n 1
   rw [push_first hn (by omega) (by omega) (by show ((1 : Nat) : Int) ≤ c.w; omega)]
def recC (b : Bool) (k : Int) : List Rc := if (rcBytes (xC b)).length ≤ k then [xC b] else []
theorem recs_c (b : Bool) {k : Int} (hk : 0 ≤ k) : ∃ t,Recs (cutBs b k) (recC b k) t := by
 unfold recC cutBs
 by_cases h : ((rcBytes (xC b)).length : Int) ≤ k
 · rw [if_pos h]
   have e : keepI k (rcBytes (xC b)).length = ((rcBytes (xC b)).length : Int) := by unfold keepI; split <;> (try split) <;> omega
   rw [e,Int.toNat_natCast,List.take_length]
   exact ⟨[],fun r hr => by rw [List.mem_singleton.1 hr]; exact xC_may b,by simp [rcsB],first_nil⟩
 · rw [if_neg h]
   have e : keepI k (rcBytes (xC b)).length = k := by unfold keepI; split <;> (try split) <;> omega
   rw [e]
   exact ⟨_,fun r hr => by simp at hr,rfl,first_cut _ (xC_may b) _ (by omega)⟩
end Go.Proofs.Ytmldeejaghflnaa

/-
 HubCuts,walked.
-/
namespace Go.Proofs.Ytmldeejaghflnaa
open Go.RowKit
theorem hbB'_G {c : Cfg} {n : Nat} (hc : mayC c = true) (hcn : c.n = (n : Int)) (hn : 1 ≤ n) (h5 : n ≤ 5) (k : Int) (b : Bool) : HbG (hbB' c n k b) := by
 have hcw := mayC_w hc
 have h0 := pt0_G (w := c.w) (by omega) hn h5
 have hp : PtG c.w (pC n b) ∧ (pC n b).sh.length = n := by
  cases b with
  | false => exact ⟨ackP_G h0 _ _,by rw [show (pC n false).sh.length = (pt0 n).sh.length from (ackP_B h0.b 0 _).2]; exact List.length_replicate⟩
  | true =>
    have hok := pushL_ok (r := 0) (f := 1) (m := 1) (by omega) (by omega) (by omega)
    have hp := pushP_G h0 (r := 0) (by show 0 < (List.replicate n _).length; rw [List.length_replicate]; omega) hok
    rw [push_first hn (by omega) (by omega) (by omega)] at hp
    exact ⟨hp,by show (modN _ 0 (List.replicate n (⟨0,[]⟩ : Shf))).length = n; rw [modN_len,List.length_replicate]⟩
 have hx := (xC_len b).2
 refine ⟨hp.1,by show c.n = ((pC n b).sh.length : Int); rw [hp.2,hcn],hcw.2,?_⟩
 show (List.take _ _).length ≤ _
 rw [List.length_take]
 omega
theorem hbA_G {c : Cfg} {n : Nat} (hc : mayC c = true) (hcn : c.n = (n : Int)) (hn : 1 ≤ n) (h5 : n ≤ 5) (k : Int) : HbG (hbA c n k) := by
 have h := hb0_G hc hcn hn h5
 exact ⟨h.p,h.n,h.w,h.bs⟩
theorem sit_c {c : Cfg} {n : Nat} (hn : 1 ≤ n) (h5 : n ≤ 5) (hw : 1 ≤ c.w) (b : Bool) (k : Int) : ((rcBytes (xC b)).length ≤ k ∧ (replay c.w n (recC b k)).sit ≠ sitU ∧ ((replay c.w n (recC b k)).sit.l.c0 = 1 ∨ (replay c.w n (recC b k)).sit.a0 = clkK 7)) ∨
  (k < (rcBytes (xC b)).length ∧ (replay c.w n (recC b k)).sit = sitU) := by
 unfold recC
 by_cases h : ((rcBytes (xC b)).length : Int) ≤ k
 · refine .inl ⟨h,?_⟩
   rw [if_pos h,replay_x hn hw]
   cases b with
   | true =>
     have e : (pC n true).sit.l.c0 = 1 := by
      show (pt1 n 1).lenOf 0 = 1
      rw [lenOf1 hn]
      rfl
     refine ⟨fun h => ?_, .inl e⟩
     rw [h] at e
     exact absurd e (by decide)
   | false =>
     have e : (pC n false).sit.a0 = clkK 7 := told_7 hn
     refine ⟨fun h => ?_, .inr e⟩
     rw [h] at e
     exact absurd e (by decide)
 · refine .inr ⟨by omega,?_⟩
   rw [if_neg h]
   exact pt0_sit hn h5
set_option maxHeartbeats 16000000 in
set_option maxRecDepth 100000 in
theorem hubCuts_spec (c : Cfg) (b : Bool) (k : Int) (_ : c.rng) (hk : 0 ≤ k ∧ k ≤ 255) : ASpec Try.prog 6 [c.av, .v (.bool b), .v (.int .u8 k)] (.v (.bool true)) [] := by
 have hsh := shown20_spec
 have hfit := fit11_spec c
 have hmay := fitCf_may c
 obtain ⟨n,hn,hn1,hn5⟩ := mayC_n hmay
 have hw := mayC_w hmay
 have hnew := hb_new_m (fitCf c) n hn hmay hn1 hn5
 have hp1 := push20_spec 0 (by omega) 0 Op0 (by decide) (by decide) (by decide)
 rw [show fromN 0 Op0.back = 1 by decide,show (1 + (Op0.many % 5).toNat) = 1 by decide] at hp1
 have hcut : MSpec Try.prog 17 [(0, .obs (hbO (hb0 (fitCf c) n)))] [.box 0 0, .v (.int .i64 k)] (.tup []) [(0, .obs (hbO (hbA (fitCf c) n k)))] := hb_cut_m (hb0 (fitCf c) n) k
 have hgA := hbA_G hmay hn hn1 hn5 k
 have hgB := hbB'_G hmay hn hn1 hn5 k b
 have hk1 := take_of hgA (take_cut hn hn1 hw.1 k b)
 have hk2 := take_of hgB (take_dead k b (frBytes (zC b)))
 have hs1 : MSpec Try.prog 10 [(0, .obs (hbO (hbB' (fitCf c) n k b)))] [.box 0 0] (.agg (sit0.vs.map .v)) [(0, .obs (hbO (hbB' (fitCf c) n k b)))] := hb_site_m _ hgB.p.b
 obtain ⟨t,hrec⟩ := recs_c b hk.1
 have hch : Chain (fitCf c).w (pt0 n) (recC b k) := by
  unfold recC
  split
  · exact ⟨rcg_x hn1 hw.1 b,trivial⟩
  · trivial
 have hst := hb_start_m (hbB' (fitCf c) n k b) n hn hn1 hn5 rfl (recC b k) t hrec hch (by have := hgB.bs; omega)
 have hpB : PtB (replay (fitCf c).w n (recC b k)) := by
  unfold recC
  split
  · rw [replay_x hn1 hw.1]
    exact hgB.p.b
  · exact (pt0_B hn1 hn5).1
 have hsit := sit_c hn1 hn5 hw.1 b k
 have hxl := xC_len b
 generalize (rcBytes (xC b)).length = L at hsit hxl
 obtain ⟨hC,hhC⟩ : ∃ h : Hb,h = ⟨true,(hbB' (fitCf c) n k b).c,replay (hbB' (fitCf c) n k b).c.w n (recC b k),⟨rcsB (recC b k),false,false,(hbB' (fitCf c) n k b).d.keep⟩⟩ := ⟨_,rfl⟩
 rw [← hhC] at hst
 have hup := hb_start_up hC (by rw [hhC])
 have hs2 := hb_site_m hC (by rw [hhC]; exact hpB)
 have hcs : hC.sit = (replay (fitCf c).w n (recC b k)).sit := by rw [hhC]; rfl
 rw [← hcs] at hsit
 have hput := (r07Put_yes 0 (zC b) (zC_may b)).thaw
 generalize frBytes (zC b) = w at hk1 hk2 hput
 generalize hbO (hb0 (fitCf c) n) = B0 at hnew hcut
 generalize hbO (hbA (fitCf c) n k) = B1 at hcut hk1
 generalize hbO (hbB' (fitCf c) n k b) = B2 at hk1 hk2 hs1 hst
 have hup' : hC.sit.up = true := by rw [hhC]; rfl
 generalize hbO hC = B3 at hst hup hs2
 generalize hC.sit = S at hs2 hsit hup'
 clear hgA hgB hrec hch hpB hcs hhC hmay hn
 have hup2 : (!S.up) = false := by rw [hup']; rfl
 have e7 : ¬ clk0 = (⟨7,0,0,0,0⟩ : Clk) := by decide
 have ee : sit0 = sit0 := rfl
 have hput0 : b = false → ASpec Try.prog 13 [Rc.nilA ⟨5,0,0,clkK 7,[]⟩] (thaw2 0 (.sl 1 w.length true (bytesF w)) (.tup [.own 0, .v (.int .i64 0)])) [] := fun h => by
  subst h
  exact hput.args (.of (fun X u hu => C1.nilEv hu) .nil)
 rcases hsit with ⟨hL,hne,hq | hq⟩ | ⟨hL,rfl⟩
 all_goals cases b
 all_goals try have hput := hput0 rfl
 all_goals clear hput0
 all_goals dsimp only [resA,resH,noA,zC,zP,if_true,Bool.false_eq_true,if_false,Cfg.av,Cfg.cs,fitCf,frA,Rc.av,Rc.cs,Rc.nilA,Opn.av,Opn.cs,Op0,clk0,clkK] at hnew hk1 hk2 hput hp1 hfit ⊢
 all_goals try dsimp only [clkK] at hq
 all_goals
  refine aspec_of lay_ok 3062546494585304705998000076547146637263 Try.func6 rfl rfl rfl ?_
  repeat' ((conv => whnf); first | refine K1.a ?_ | refine K1.b ?_ | refine K1.c ?_ | refine K1.d ?_ | refine K1.e ?_ | refine K1.f ?_ | refine ACall.plain _ _ (hsh) .nil rfl ?_ | refine ACall.plain _ _ (hfit) (SubL.cons (.eq _) .nil) rfl ?_ | refine ACall.chgR 0 [] (hnew) rfl trivial rfl rfl ?_ | refine ACall.plain _ _ (hp1) (SubL.cons (.eq _) (SubL.cons (.eq _) (SubL.cons (.eq _) .nil))) rfl ?_ | refine ACall.plain _ _ (hput) (SubL.cons (.eq _) .nil) rfl ?_ | refine ACall.chgR 1 [(0,_)] (hcut) rfl ⟨rfl,trivial⟩ rfl rfl ?_ | refine ACall.chgR 1 [(0,_)] (hk1) rfl ⟨rfl,trivial⟩ rfl rfl ?_ | refine ACall.chgR 1 [(0,_)] (hk2) rfl ⟨rfl,trivial⟩ rfl rfl ?_ | refine ACall.chgR 1 [(0,_)] (hs1) rfl ⟨rfl,trivial⟩ rfl rfl ?_ | refine ACall.chgR 1 [(0,_)] (hst) rfl ⟨rfl,trivial⟩ rfl rfl ?_ | refine ACall.chgR 1 [(0,_)] (hup) rfl ⟨rfl,trivial⟩ rfl rfl ?_ | refine ACall.chgR 1 [(0,_)] (hs2) rfl ⟨rfl,trivial⟩ rfl rfl ?_ | refine EqA.mk sitU.vs sitU.vs (sitU = sitU) rfl rfl (sit_eq _ _) ?_ | refine EqA.mk (Clk.vs clk0) (Clk.vs ⟨7,0,0,0,0⟩) (clk0 = ⟨7,0,0,0,0⟩) rfl rfl (clk_eq _ _) ?_ | refine EqA.mk sit0.vs sit0.vs (sit0 = sit0) rfl rfl (sit_eq _ _) ?_ | refine EqA.mk S.vs sitU.vs (S = sitU) rfl rfl (sit_eq _ _) ?_ | refine EqA.mk (Clk.vs S.a0) (Clk.vs ⟨7,0,0,0,0⟩) (S.a0 = ⟨7,0,0,0,0⟩) rfl rfl (clk_eq _ _) ?_ | refine Spl.yes rfl ?_ | refine ARet.hdI ?_ | refine Spl.mk (fun _ => ?_) (fun _ => ?_) | refine SNil.mk (fun _ => ?_) ?_ | refine K1.g ?_ | refine ASl.frz ?_ | refine Wr.b64 ?_ | refine Wr.bu64 ?_ | refine Wr.bu32 ?_ | refine Wr.bu8 ?_ | refine K1.u8 ?_ | refine K1.u64 ?_ | refine K1.u32 ?_ | refine K1.h ?_ | refine K1.i ?_ | refine K1.q ?_ | refine K1.j ?_ | refine K1.k ?_ | refine BSpl.dec (fun _ => ?_) (fun _ => ?_) | refine K1.l ?_ | refine K1.n ?_ | refine BSpl.mk (fun _ => ?_) (fun _ => ?_))
  all_goals (conv => whnf)
  all_goals try exact AEqI.mk (AEq.refl _)
 all_goals exact absurd ‹sitU.l.c0 = 1› (by decide)
end Go.Proofs.Ytmldeejaghflnaa
