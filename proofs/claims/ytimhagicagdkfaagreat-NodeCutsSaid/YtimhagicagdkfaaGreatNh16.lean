/-
  Contracts of the walk:AmG,RcW,Dk,Ps1,Ap1,BkLp,Ps2,Wo.
-/
import Derived.Test.YtimhagicagdkfaaGreatNh4
import Derived.ScopeJumps
import Derived.Test.YtimhagicagdkfaaGreatNh15
import Derived.Test.YtimhagicagdkfaaGreatNh11
import Derived.Test.YtimhagicagdkfaaGreatNh8
import Derived.Test.YtimhagicagdkfaaGreatNh9
set_option maxHeartbeats 16000000
set_option maxRecDepth 100000
set_option linter.unusedVariables false
set_option linter.unusedSimpArgs false
namespace Go.Proofs.YtimhagicagdkfaaGreat
section
open Go.RowKit
def kQ (K:AS→Prop):jI→AS→Prop:=fun e st=>match e with| .normal=>K st|_=>False
structure aeW (P:Program) (L:Lay) (W:Walk) (N lv:Nat) (t:Operand) (x0 x1 y0 y1 z:Code) (Q:jI→AS→Prop) (K:AS→Prop) (st:AS):Prop where
 h : kL P L W N lv x0 (kQ fun st=>kL P L W N lv x1 (kQ fun st=>match st.ev t with
   | .v (.bool b)=>(match b with
     |true=>kL P L W N lv y0 (kQ fun st=>kL P L W N lv y1 (kQ K) st) st
     |false=>kL P L W N lv z Q st)
   |_=>False) st) st
inductive Zj (P:Program) (L:Lay) (W:Walk) (N lv:Nat) (t:Operand) (x0 x1 y0 y1 z:Code) (Q:jI→AS→Prop) (st:AS):Prop where
  | mk (X:Type) (S:X→AS) (m:X→Nat) (i0:X) (σ:List (Nat×Nat)) (h0:dL σ st (S i0))
    (hb: ∀i,kL P L W N lv x0 (kQ fun st=>kL P L W N lv x1 (kQ fun st=>match st.ev t with
    | .v (.bool b)=>(match b with
      |true=>kL P L W N lv y0 (kQ fun st=>kL P L W N lv y1 (kQ fun st=> ∃j σ,dL σ st (S j)∧m j<m i) st) st
      |false=>kL P L W N lv z Q st)
    |_=>False) st) (S i)):Zj P L W N lv t x0 x1 y0 y1 z Q st
section
variable {P:Program} {L:Lay} {g:Base} {N:Nat} {bs:List (Array Value)} {ρ:Nat→Value} {a:Act} {w:World} {st:AS}
theorem Zk (hL:bQ P L) {f:FuncId} {fn:Func} {c:Code} {dn:List AV} {r:AV} {hh:List (Nat×AO)} (hf:P.funcs[f]? =some fn) (hn:(fn.name== "runtime.NumGoroutine")=false) (hb:fn.body=some c) (hsz:Nat.ble dn.length fn.ntmps=true)
  (h: ∀ (g:Base) (E:Exit→Act→World→Prop) {ρ:Nat→Value} {a:Act} {w:World},qOf g fn.ntmps [] (Nz L fn r hh) E→Rel g fn.ntmps [] ρ a w (start dn)→c.wp P E a w):aH P f dn r hh:=by
 refine⟨⟨fn,c,hf,hn,hb⟩,fun w keep args hkeep hargs=>?_⟩
 have hsz:=Nat.le_of_ble_eq_true hsz
 have hlen:args.length=dn.length:=hargs.1.symm
 refine calls_of_wp hf hb ?_
 let g:Base:=base0 w keep
 have zx:aI (C2 (aC g w (fun _=>undef) [])) dn args:=hargs.imp fun _ _ h=>C2.jP (C1.same (X:=⟨w,keep,fun _=>undef⟩) (Y:=aC g w (fun _=>undef) []) (fun b hb=>⟨hkeep b hb,fun _=> .inl hb,by simp[ah]⟩) (fun _ _=>rfl) rfl h)
 have R0:Rel g fn.ntmps [] (fun _=>undef) {tmps:=args.toArray++Array.replicate (fn.ntmps-args.toArray.size) undef,defers:=[]} w (start dn):=
  ⟨by simp;omega,rfl,fM.refl _ _ _,o7 zx hsz,(fun p hp=>by cases hp),by simp[start,ah],(fun b hb=>by simp[start,ah]at hb),trivial⟩
 have fin: ∀ (e:Exit),(e= .normal∨e= .ret)→ ∀ρ a w' st,Rel g fn.ntmps [] ρ a w' st→mP L st fn.results.toList (fun x=>aJ st x r hh)→
   bodyPost P fn (fun e w'=> ∃u ρ,e= .returned u∧Below w.heap.size w w'∧C2 (aC (base0 w keep) w' ρ hh) r u∧(∀p∈hh,bn (aC (base0 w keep) w' ρ hh) p.1 p.2)∧(ah ρ hh).Nodup∧ ∀b∈ah ρ hh,w.heap.size≤b) e a w':=by
  intro e he ρ a w' st R hq
  obtain⟨x,u,hret,hc,hrun⟩:=AX hL R hq
  have post:a.defers=[]∧ ∃v,(results fn a.tmps).run P w'= .ok v w'∧ ∃u ρ,Ending.returned v= .returned u∧Below w.heap.size w w'∧C2 (aC (base0 w keep) w' ρ hh) r u∧(∀p∈hh,bn (aC (base0 w keep) w' ρ hh) p.1 p.2)∧(ah ρ hh).Nodup∧ ∀b∈ah ρ hh,w.heap.size≤b:=by
   have hbel:Below w.heap.size w w':=R.below.less fun _ h=>h
   have hlt': ∀ {b:Nat},b∈ah ρ st.heap→g.w.heap.size≤b:=fun{b} h=>(R.own b h).elim id False.elim
   refine⟨R.defers,u,hrun, ?_⟩
   cases hret with
   | plain _ hr=>
     let k:Nat→Prop:=aK g w' (fun _=>undef) []
     have hk: ∀b,aK g w' ρ st.heap b→k b:=fun b h=>⟨h.1,h.2.1,by simp[ah]⟩
     have rd: ∀y,Reads st ρ w' k y:=fun y id e s n sc f _ hf=>lq R hf hk fun b hb=>by
      have hin:=aQ.2 ⟨_,ay hf,hb⟩
      have:=R.gI hin
      exact⟨this.1,fun hlt=>absurd hlt (by have:=hlt' hin;omega),by simp[ah]⟩
     refine⟨u,fun _=>undef,rfl,hbel,hr _ _ ?_,(fun p hp=>by cases hp),by simp[ah],(fun b hb=>by simp[ah]at hb)⟩
     cases x with
     | dF vs=>
       obtain⟨us,rfl,ha⟩:=C2.uy hc
       exact⟨us,rfl,ha.mO fun y v hy=>xX hk rd (C2.jP hy)⟩
     |_=>exact C2.jP (xX hk rd hc)
   | nil d e s f hx hs=>
     subst hx
     obtain rfl:=C2.dM hc
     have hb:ah (fun _:Nat=>Value.slice none 0 0) [(d,AO.row e s 0 true f)]=[]:=rfl
     refine⟨.slice none 0 0,fun _=> .slice none 0 0,rfl,hbel,rfl,fun p hp=>?_,by rw[hb];exact List.nodup_nil,fun b hb'=>by rw[hb]at hb';cases hb'⟩
     obtain rfl:=List.mem_singleton.1 hp
     exact⟨[],World.ownsRow_nil w' _ e s,hs,fun i hi=>absurd hi (by omega),(fun _ x hx=>by cases hx),aI.nil⟩
   | own id d _ e s n sc f o' hfo ho hr=>
     have hin:=ay hfo
     let ρ':Nat→Value:=fun i=>if i=d then ρ id else undef
     have wu:ρ' d=ρ id:=by simp[ρ']
     have hbl: ∀o'':AO,ah ρ' [(d,o'')]=blks (ρ id):=by intro o'';rw[aX];simp[ρ',ah]
     let k:Nat→Prop:=aK g w' ρ' [(d,o')]
     have hk: ∀b,aK g w' ρ st.heap b→k b:=fun b h=>⟨h.1,h.2.1,fun hb=>h.2.2 (by
      rw[hbl]at hb
      exact aQ.2 ⟨_,hin,hb⟩)⟩
     have rd: ∀i,i≠id→Reads st ρ w' k (.own i):=fun i hi j e s n sc f hij hf=>lq R hf hk fun b hb=>by
      cases hij
      have hin0:=aQ.2 ⟨_,ay hf,hb⟩
      have:=R.gI hin0
      refine⟨this.1,fun hlt=>absurd hlt (by have:=hlt' hin0;omega),fun hin'=>?_⟩
      rw[hbl]at hin'
      exact hi (fG R.apart _ (ay hf) _ hin hb hin')
     refine⟨u,ρ',rfl,hbel,hr _ _ ?_, ?_, ?_, ?_⟩
     · cases x with
       | dF vs=>
         obtain⟨us,rfl,ha⟩:=C2.uy hc
         exact⟨us,rfl,ha.mO fun y v hy=>lX hk wu rd (C2.jP hy)⟩
       |agg cs=>exact C2.jP (lX hk wu rd hc)
       |v y=>exact hc
       |own i=>exact C2.jP (lX hk wu rd (x:= .own i) hc)
       |sl s n sc f=>exact C2.jP (lX hk wu rd (x:= .sl s n sc f) hc)
       |_=>trivial
     · intro p hp
       simp only[List.mem_singleton]at hp
       subst hp
       refine ho _ _ ?_
       obtain⟨us,hown,hs,hfl,hsc,ha⟩:=R.objs _ hin
       exact⟨us,by simpa[aC,wu]using hown,hs,hfl,hsc,ha.imp fun _ _=>PC.mono hk (fun _ _=>rfl)⟩
     · rw[hbl]
       exact jS R.apart hin
     · intro b hb
       rw[hbl]at hb
       exact hlt' (aQ.2 ⟨_,hin,hb⟩)
  rcases he with rfl|rfl
  · exact post
  · exact post
 exact h g _ ⟨fun ρ a w' st R h=>fin _ (.inl rfl) ρ a w' st R h,fun i ρ a w' st R h=>h.elim,fun ρ a w' st R h=>fin _ (.inr rfl) ρ a w' st R h⟩ R0
theorem zO (hL:bQ P L) {W:Walk} (hW:IZ P W) {lv:Nat} {p next:Code} {K:AS→Prop} {E:Exit→Act→World→Prop} (R:Rel g N bs ρ a w st) (h:kL P L W N lv p (kQ K) st)
  (hk: ∀ρ a w st,Rel g N bs ρ a w st→K st→next.wp P E a w):(Code.seq p next).wp P E a w:=
 wp_seq (nC hL hW lv p (Q:=kQ K) (E:=Exit.then (next.wp P E) E) ⟨fun ρ a w st R h=>hk ρ a w st R h,fun _ _ _ _ _ _ h=>h.elim,fun _ _ _ _ _ h=>h.elim⟩ R h)
def JN (P:Program) (L:Lay) (W:Walk) (g:Base) (N lv:Nat) (bs:List (Array Value)) (t:Operand) (x0 x1 y0 y1 z:Code) (Q:jI→AS→Prop) (a:Act) (w:World) (n:Nat):Prop:=
 ∃ (X:Type) (S:X→AS) (m:X→Nat) (i:X) (ρ:Nat→Value),(∀i,kL P L W N lv x0 (kQ fun st=>kL P L W N lv x1 (kQ fun st=>match st.ev t with
   | .v (.bool b)=>(match b with
     |true=>kL P L W N lv y0 (kQ fun st=>kL P L W N lv y1 (kQ fun st=> ∃j σ,dL σ st (S j)∧m j<m i) st) st
     |false=>kL P L W N lv z Q st)
   |_=>False) st) (S i))∧Rel g N bs ρ a w (S i)∧m i=n
theorem RN (hL:bQ P L) (lv:Nat) {f:FuncId} {fn:Func} {p0 p1 p2 x0 x1 y0 y1 z:Code} {t:Operand} {l:Nat} {dn:List AV} {r:AV} {hh:List (Nat×AO)} (hf:P.funcs[f]? =some fn) (hn:(fn.name== "runtime.NumGoroutine")=false)
  (hb:fn.body=some (.seq p0 (.scope (.seq p1 (.seq p2 (.seq (.label l) (.seq (.seq x0 (.seq x1 (.cond t (.seq y0 (.seq y1 (.goto l))) .skip))) z))))))) (hsz:Nat.ble dn.length fn.ntmps=true)
  (hl:findLabel (.seq p1 (.seq p2 (.seq (.label l) (.seq (.seq x0 (.seq x1 (.cond t (.seq y0 (.seq y1 (.goto l))) .skip))) z)))) l=some (.seq .skip (.seq (.seq x0 (.seq x1 (.cond t (.seq y0 (.seq y1 (.goto l))) .skip))) z)))
  (h:kL P L (yR P L 8) fn.ntmps lv p0 (kQ fun st=>kL P L (yR P L 8) fn.ntmps lv p1 (kQ fun st=>kL P L (yR P L 8) fn.ntmps lv p2 (kQ fun st=>Zj P L (yR P L 8) fn.ntmps lv t x0 x1 y0 y1 z (Nz L fn r hh) st) st) st) (start dn)):aH P f dn r hh:=by
 refine Zk hL hf hn hb hsz fun g E ρ a w hq R=>?_
 have hW:=fO hL 8
 let J:Act→World→Nat→Prop:=JN P L (yR P L 8) g fn.ntmps lv [] t x0 x1 y0 y1 z (Nz L fn r hh)
 refine zO hL hW R h fun ρ a w st R h=>?_
 refine wp_scope_jumps l (fun a w=> ∃n,J a w n) (fun a w=>least (J a w)) hl ?_ ?_
 all_goals
  have body: ∀ (J':Act→World→Prop) (X:Type) (S:X→AS) (m:X→Nat) (i:X) (ρ:Nat→Value) (a:Act) (w:World),(∀a w n,n<m i→J a w n→J' a w)→(∀i,kL P L (yR P L 8) fn.ntmps lv x0 (kQ fun st=>kL P L (yR P L 8) fn.ntmps lv x1 (kQ fun st=>match st.ev t with
      | .v (.bool b)=>(match b with
        |true=>kL P L (yR P L 8) fn.ntmps lv y0 (kQ fun st=>kL P L (yR P L 8) fn.ntmps lv y1 (kQ fun st=> ∃j σ,dL σ st (S j)∧m j<m i) st) st
        |false=>kL P L (yR P L 8) fn.ntmps lv z (Nz L fn r hh) st)
      |_=>False) st) (S i))→Rel g fn.ntmps [] ρ a w (S i)→(Code.seq (.seq x0 (.seq x1 (.cond t (.seq y0 (.seq y1 (.goto l))) .skip))) z).wp P (Exit.jump l J' E) a w:=by
   intro J' X S m i ρ a w hJ hb R
   refine wp_seq ?_
   refine zO hL hW R (hb i) fun ρ a w st R h=>?_
   refine zO hL hW R h fun ρ a w st R h=>?_
   split at h
   · rename_i b et
     have hc:=R.ev t
     rw[et]at hc
     have hc:=C2.dM hc
     cases b with
     | true=>
       refine wp_cond_true hc ?_
       refine zO hL hW R h fun ρ a w st R h=>?_
       refine zO hL hW R h fun ρ a w st R h=>?_
       obtain⟨j,σ,hle,hlt⟩:=h
       obtain⟨ρ',R'⟩:=R.N8 hle
       exact wp_goto ⟨rfl,hJ a w (m j) hlt ⟨X,S,m,j,ρ',hb,R',rfl⟩⟩
     | false=>
       refine wp_cond_false hc (wp_skip ?_)
       exact nC hL hW lv z (Q:=Nz L fn r hh) (E:=Exit.jump l J' E) ⟨fun ρ a w st R h=>hq.1 ρ a w st R h,fun i ρ a w st R h=>hq.2.1 i ρ a w st R h,fun ρ a w st R h=>hq.2.2 ρ a w st R h⟩ R h
   · exact h.elim
 · refine zO hL hW R h fun ρ a w st R h=>?_
   refine zO hL hW R h fun ρ a w st R h=>?_
   refine wp_seq (wp_label ?_)
   cases h with
   | mk X S m i0 σ h0 hb=>
     obtain⟨ρ',R'⟩:=R.N8 h0
     exact body _ X S m i0 ρ' a w (fun a w n _ hj=>⟨n,hj⟩) hb R'
 · intro a w hJ
   obtain⟨X,S,m,i,ρ,hb,R,hm⟩:=F9 hJ
   refine wp_seq (wp_skip ?_)
   refine body _ X S m i ρ a w (fun a' w' n hlt hj=>⟨⟨n,hj⟩, ?_⟩) hb R
   have:=least_le hj
   show least (J a' w')<least (J a w)
   omega
end
end
section
open Go.RowKit
theorem VY (b:List UInt8):(jL b).1.ev.length≤4096:=by
 have hl (t:List UInt8) (l:List Ev) (h:nN t=some l):l.length≤4096:=by
  unfold nN at h
  split at h
  · cases h
  · split at h
    · cases h
    · rename_i m k _ hm
      cases h0:jl (t.drop k) m with
      |none=>rw[h0]at h;cases h
      | some p=>
        obtain⟨l0,r0⟩:=p
        rw[h0]at h
        simp only[Option.map_some,Option.some.injEq]at h
        subst h
        have:=(oD h0).1
        omega
 have hr (k r u:Int) (t:List UInt8):(Pm k r u t).1.ev.length≤4096:=by
  unfold Pm
  split
  · simp
  · rename_i l h
    exact hl t l h
 unfold jL
 split
 · simp[Ze]
 · unfold rdR
   split
   · exact hr ..
   · split
     · unfold abg
       split<;>simp
     · split
       · split
         · simp
         · exact hr ..
       · split<;>simp
def wW:Option (Rc×Nat)→AV
  |none=> .dF [Ze.av,.v (.int .i64 0),.v (.bool false)]
  |some (x,n)=> .dF [x.av,.v (.int .i64 (n:Int)),.v (.bool true)]
theorem Pq (b c:AV) (f:Nat→List AV) {a1 a2 a3 a4 a5 a6 a7 a8:AV}:aS (.dF [.agg [a1,a2,a3,a4,a5,a6,a7,a8,.v (.slice none 0 0)],b,c]) (.dF [.agg [a1,a2,a3,a4,a5,a6,a7,a8,.sl 12 0 true f],b,c]):=
 aS.dF (.of (fun _ _ h=>C1.Un h) (.same (.same .nil)))
theorem abm (b:List UInt8) (hl:b.length≤1000000000):aH Tryz.prog 98 [.sl 1 b.length true (aU b)] (wW (oG b)) []:=by
 have hs:=jd b (bg.bytes b) rfl
 have hle:=wL b
 unfold oG
 obtain⟨⟨v,u,e⟩,hv⟩: ∃p,dG b=p:=⟨_,rfl⟩
 rw[hv]at hs hle⊢
 dsimp only at hs hle⊢
 by_cases h0:e≠0∨b.length-u<v
 · rw[if_pos h0]
   dsimp only[wW]
   refine K1.E 0x100040400040003ffd Tryz.func98 ?_
   repeat' ((conv=>whnf);first|refine K1.w ?_|refine K1.u ?_|refine K1.P1 hs rfl ?_|refine aJ.dO ?_|refine K1.z ?_|refine K1.y (fun _=>?_) (fun _=>?_)|fail)
   all_goals(conv=>whnf)
   all_goals first
     |exact bF.mk (Pq _ _ _)
     |(exfalso;omega)
 · rw [if_neg h0]
   obtain rfl:e=0:=by omega
   have hvl:u+v≤b.length:=by omega
   obtain⟨W,hW⟩: ∃W,W=(b.drop u).take v:=⟨_,rfl⟩
   have hWl:W.length=v:=by rw[hW,List.length_take,List.length_drop];omega
   have hWF:bg (fun i=>aU b (u+i)) W:=by rw[hW];exact(bg.drop (bg.bytes b) u).take v
   rw[←hW]
   by_cases ho:sS W
   · rw [if_pos ho]
     have hil:(inner W).length≤W.length:=by unfold inner;rw[List.length_take];omega
     have hop: ∀ {n:Nat} {F:Nat→List AV} (_:bg F W) (_:n=W.length),_:=fun{n} {F} hF hn=>(JX 0 (n:=n) (F:=F) (inner W) (by rw[←BG ho];exact hF) (by rw[←BG ho];exact hn) (by omega)).thaw
     have hrd:=RJ (inner W) (bg.bytes _) rfl (by omega)
     have hrl:=VY (inner W)
     generalize inner W=m at hop hrd hrl hil
     obtain⟨⟨z,ok⟩,hz⟩: ∃p,jL m=p:=⟨_,rfl⟩
     rw[hz]at hrd hrl⊢
     dsimp only at hrd hrl⊢
     cases ok with
     | false=>
       rw[if_neg (by simp)]
       dsimp only[wW]
       refine K1.E 0x100040400040003ffd Tryz.func98 ?_
       repeat' ((conv=>whnf);first|refine K1.w ?_|refine K1.u ?_|refine K1.P1 hs rfl ?_|refine K1.P1 (hop hWF (by omega)) rfl ?_|refine K1.P1 hrd rfl ?_|refine aJ.dO ?_|refine K1.z ?_|refine K1.y (fun _=>?_) (fun _=>?_)|fail)
       all_goals(conv=>whnf)
       all_goals exact bF.mk (Pq _ _ _)
     | true=>
       cases hm:iI z with
       | false=>
         rw[if_neg (by simp)]
         have hp:=Y1 z (by omega) hm
         dsimp only[wW]
         refine K1.E 0x100040400040003ffd Tryz.func98 ?_
         repeat' ((conv=>whnf);first|refine K1.w ?_|refine K1.u ?_|refine K1.P1 hs rfl ?_|refine K1.P1 (hop hWF (by omega)) rfl ?_|refine K1.P1 hrd rfl ?_|refine K1.P1 hp rfl ?_|refine aJ.dO ?_|refine K1.z ?_|refine K1.y (fun _=>?_) (fun _=>?_)|fail)
         all_goals(conv=>whnf)
         all_goals exact bF.mk (Pq _ _ _)
       | true=>
         have hp:=(yA 0 z hm).thaw
         have he: ∀ {n:Nat} (_:n=u+v),_:=fun{n} hn=>Hq (m:=n) (aB z) (b.take (u+v)) (bg.bytes _) rfl ((bg.bytes b).take (u+v)) (by rw[List.length_take];omega)
         by_cases hb:aB z=b.take (u+v)
         · rw[if_pos ⟨rfl,rfl,hb⟩]
           dsimp only[wW]
           rw[decide_eq_true hb]at he
           generalize aB z=w at hp he
           refine K1.E 0x100040400040003ffd Tryz.func98 ?_
           repeat' ((conv=>whnf);first|refine K1.w ?_|refine K1.u ?_|refine K1.P1 hs rfl ?_|refine K1.P1 (hop hWF (by omega)) rfl ?_|refine K1.P1 hrd rfl ?_|refine K1.P1 hp rfl ?_|refine K1.P1 (he (by omega)) rfl ?_|refine aJ.dO ?_|refine K1.z ?_|refine K1.y (fun _=>?_) (fun _=>?_)|fail)
           all_goals(conv=>whnf)
           all_goals exact bF.mk (aS.dF (.same (.of (fun X u h=>aS.int (by omega) X u h) (.same .nil))))
         · rw[if_neg (fun h=>hb h.2.2)]
           dsimp only[wW]
           rw[decide_eq_false hb]at he
           generalize aB z=w at hp he
           refine K1.E 0x100040400040003ffd Tryz.func98 ?_
           repeat' ((conv=>whnf);first|refine K1.w ?_|refine K1.u ?_|refine K1.P1 hs rfl ?_|refine K1.P1 (hop hWF (by omega)) rfl ?_|refine K1.P1 hrd rfl ?_|refine K1.P1 hp rfl ?_|refine K1.P1 (he (by omega)) rfl ?_|refine aJ.dO ?_|refine K1.z ?_|refine K1.y (fun _=>?_) (fun _=>?_)|fail)
           all_goals(conv=>whnf)
           all_goals exact bF.mk (Pq _ _ _)
   · rw[if_neg ho]
     dsimp only[wW]
     have hop: ∀ {n:Nat} {F:Nat→List AV} (_:bg F W) (_:n=W.length),_:=fun{n} {F} hF hn=>Um (n:=n) (F:=F) W ho hF hn (by omega)
     refine K1.E 0x100040400040003ffd Tryz.func98 ?_
     repeat' ((conv=>whnf);first|refine K1.w ?_|refine K1.u ?_|refine K1.P1 hs rfl ?_|refine K1.P1 (hop hWF (by omega)) rfl ?_|refine aJ.dO ?_|refine K1.z ?_|refine K1.y (fun _=>?_) (fun _=>?_)|fail)
     all_goals(conv=>whnf)
     all_goals exact bF.mk (Pq _ _ _)
theorem uX {n:Nat} {F:Nat→List AV} (b:List UInt8) {p:Option (Rc×Nat)} (hp:oG b=p) (hF:bg F b) (hn:n=b.length) (hl:b.length≤1000000000):aH Tryz.prog 98 [.sl 1 n true F] (wW p) []:=by
 have:=(abm b hl).args (Ch.nT hF hn .nil)
 rwa [hp]at this
abbrev rcF (l:List Rc):Nat→List AV:=qX Rc.cs l
theorem Hu: ∀l:List Rc,l.length≤(kY l).length
  |[]=>Nat.le_refl _
  | x::l=>by
    have:=Hu l
    have:=Ea x
    show l.length+1≤(aB x++kY l).length
    rw[List.length_append]
    omega
theorem aec (b:List UInt8) (hl:b.length≤1000000000) (l:List Rc) (t:List UInt8) (hr:Dt b l t):
  aH Tryz.prog 60 [.sl 1 b.length true (aU b)] (.dF [.sl 9 l.length false (rcF l),.v (.int .i64 ((kY l).length:Int))]) []:=by
 have hbl:(kY l).length≤b.length:=by rw[hr.eq,List.length_append];omega
 have hat: ∀j,j≤l.length→(kY (l.take j)).length≤b.length:=by
  intro j _
  have e:kY l=kY (l.take j)++kY (l.drop j):=by
   show _=List.flatMap aB (l.take j)++List.flatMap aB (l.drop j)
   rw[←List.flatMap_append,List.take_append_drop]
   rfl
  have:=congrArg List.length e
  rw[List.length_append]at this
  omega
 have hnx: ∀j,j<l.length→(kY (l.take (j+1))).length=(kY (l.take j)).length+(aB (l.getD j default)).length:=fun j hj=>by rw[VX hj,List.length_append]
 have hll:=Hu l
 have hstep:=VW hr
 have hend:=Zg hr
 refine RN dV 0x201fd (l:=0) Tryz.func60 rfl rfl rfl (by rfl) ?_
 conv=>whnf
 refine Zj.mk {j:Nat//j≤l.length} (fun j=>match j with
   |⟨0,_⟩=>⟨[(0,.sl 1 b.length true (aU b)),(4,.v (.slice none 0 0)),(5,.v (.int .i64 0))],[],[],0⟩
   |⟨i+1,_⟩=>⟨[(0,.sl 1 b.length true (aU b)),(4,.own 90),(5,.v (.int .i64 ((kY (l.take (i+1))).length:Int)))],[(90,.row 59 9 (i+1) false (rcF (l.take (i+1))))],[],91⟩)
   (fun j=>l.length-j.1) ⟨0,Nat.zero_le _⟩ _
   (dL.mk' [] _ _ _ rfl ⟨aj,aj,aS.int rfl,trivial⟩ trivial rfl) ?_
 rintro⟨_|i,hj⟩
 · dsimp only
   by_cases h0:0<l.length
   · have hs:=hstep 0 h0
     have hn:=hnx 0 h0
     have ha:=hat (0+1) (by omega)
     rw[show kY (l.take 0)=[]from rfl,List.length_nil]at hs hn
     have htk:(l.take (0+1)).length=1:=by rw[List.length_take];omega
     have hg:l.take (0+1)=[l.getD 0 default]:=by cases l with|nil=>cases h0|cons a l=>rfl
     repeat' ((conv=>whnf);first|refine K1.w ?_|refine K1.u ?_|refine K1.P1 (uX (b.drop 0) hs (bg.drop (bg.bytes b) 0) (by simp) (by simp;omega)) rfl ?_|refine aJ.dO ?_|refine K1.z ?_|refine K1.y (fun _=>?_) (fun _=>?_)|fail)
     conv=>whnf
     refine⟨⟨0+1,by omega⟩,_,dL.mk' [(2,90)] _ _ _ rfl ⟨aj,aj,aS.int (by omega),trivial⟩ ⟨⟨_,rfl,bW.row rfl (fun m hm=>?_)⟩,trivial⟩ rfl,by show l.length-(0+1)<l.length-0;omega⟩
     have hm:m<1:=hm
     obtain rfl:m=0:=by omega
     show _=rcF (l.take (0+1)) 0
     rw[hg]
     rfl
   · have hl0:l=[]:=List.eq_nil_of_length_eq_zero (by omega)
     subst hl0
     rw[show kY []=[]from rfl,List.length_nil]at hend
     repeat' ((conv=>whnf);first|refine K1.w ?_|refine K1.u ?_|refine K1.P1 (uX (b.drop 0) hend (bg.drop (bg.bytes b) 0) (by simp) (by simp;omega)) rfl ?_|refine aJ.dO ?_|refine K1.z ?_|refine K1.y (fun _=>?_) (fun _=>?_)|fail)
     conv=>whnf
     exact bF.mk (aS.dF (.of (fun X u h=>C1.iP (by decide) h) (.same .nil)))
 · dsimp only
   have hai:=hat (i+1) hj
   have hlt:(l.take (i+1)).length=i+1:=by rw[List.length_take];omega
   by_cases h0:i+1<l.length
   · have hs:=hstep (i+1) h0
     have hn:=hnx (i+1) h0
     have ha:=hat (i+1+1) (by omega)
     have hg:l.take (i+1+1)=l.take (i+1)++[l.getD (i+1) default]:=by
      rw[List.getD,List.getElem?_eq_getElem h0];exact(List.take_append_getElem h0).symm
     repeat' ((conv=>whnf);first|refine K1.w ?_|refine K1.u ?_|refine K1.P1 (uX (b.drop (kY (l.take (i+1))).length) hs (bg.drop (bg.bytes b) _) (by simp) (by simp;omega)) rfl ?_|refine aJ.dO ?_|refine K1.z ?_|refine K1.y (fun _=>?_) (fun _=>?_)|fail)
     conv=>whnf
     refine⟨⟨i+1+1,by omega⟩,_,dL.mk' [(93,90)] _ _ _ rfl ⟨aj,aj,aS.int (by omega),trivial⟩ ⟨⟨_,rfl,bW.row rfl (fun m hm=>?_)⟩,trivial⟩ rfl,by show l.length-(i+1+1)<l.length-(i+1);omega⟩
     show _=rcF (l.take (i+1+1)) m
     rw[hg]
     exact bJ (c:=Rc.cs) hlt.symm rfl m hm
   · have BH:l.take (i+1)=l:=List.take_of_length_le (by omega)
     have hle:i+1=l.length:=by omega
     rw[BH]at hai hlt⊢
     rw[hle]
     repeat' ((conv=>whnf);first|refine K1.w ?_|refine K1.u ?_|refine K1.P1 (uX (b.drop (kY l).length) hend (bg.drop (bg.bytes b) _) (by simp) (by simp;omega)) rfl ?_|refine aJ.dO ?_|refine K1.z ?_|refine K1.y (fun _=>?_) (fun _=>?_)|fail)
     conv=>whnf
     exact bF.mk (aj)
theorem Pv {n:Nat} {F:Nat→List AV} (b:List UInt8) (hF:bg F b) (hn:n=b.length) (hl:b.length≤1000000000) {l:List Rc} {t:List UInt8} (hr:Dt b l t):
  aH Tryz.prog 60 [.sl 1 n true F] (.dF [.sl 9 l.length false (rcF l),.v (.int .i64 ((kY l).length:Int))]) []:=
 (aec b hl l t hr).args (Ch.nT hF hn .nil)
end
section
open Go.RowKit
structure Dk where
 (bs:List UInt8) (down cut:Bool) (keep:Int)
def IU (m:AV) (d:Dk):AO:= .box 146 [m,.v (.bool d.down),.v (.bool d.cut),.v (.int .i64 d.keep)]
def BI (l:List UInt8):AO:= .row 5 1 l.length true (aU l)
def dk0:Dk:=⟨[],false,false,0⟩
theorem C1.aeX {X:CX} {f:Nat→List AV} {u:Value} (h:C1 X (.v (.slice none 0 0)) u):C1 X (.sl 1 0 true f) u:=by
 have h:u= .slice none 0 0:=h
 subst h
 exact .sl 1 0 true f none 0 [] (by omega) (Nat.le_refl _) (by simp[maxLen]) rfl (fun i hi=>absurd hi (by omega)) (fun _ x hx=>by cases hx) (fun i x u hx=>by simp[flat]at hx) (.inl rfl)
theorem VZ (d:Nat) {n:Nat} {F:Nat→List AV} (l:List UInt8) (hF:bg F l) (hn:n=l.length) (hl:l.length≤1000000000):aH Tryz.prog 99 [.sl 1 n true F] (.own d) [(d,BI l)]:=by
 refine K1.E 0x15 Tryz.func99 ?_
 repeat' ((conv=>whnf);first|refine K1.w ?_|refine K1.u ?_|refine K1.z ?_|refine K1.y (fun _=>?_) (fun _=>?_)|fail)
 all_goals(conv=>whnf)
 · have h0:n=0:=by assumption
   obtain rfl:l=[]:=List.eq_nil_of_length_eq_zero (by omega)
   exact aJ.nil d _ 1 _ rfl (by decide)
 · refine aJ.oz d rfl rfl ?_ (aj)
   refine bW.row (by omega) fun i hi=>?_
   exact hF i (by omega)
theorem clone_nil:aH Tryz.prog 99 [.v (.slice none 0 0)] (.v (.slice none 0 0)) []:=by
 refine K1.E 0x15 Tryz.func99 ?_
 repeat' ((conv=>whnf);first|refine K1.w ?_|refine K1.u ?_|refine aJ.dO ?_|refine K1.z ?_|refine K1.y (fun _=>?_) (fun _=>?_)|fail)
 all_goals(conv=>whnf)
 exact bF.mk (aj)
theorem all_nil:aH Tryz.prog 60 [.v (.slice none 0 0)] (.dF [.sl 9 0 false (rcF []),.v (.int .i64 0)]) []:=by
 have hr:Dt [] [] []:=⟨by simp,rfl,by unfold oG;rw[if_pos (.inl (by decide))]⟩
 have:=Pv (n:=0) (F:=aU []) [] (bg.bytes _) rfl (by decide) hr
 exact this.args (.of (fun _ _ h=>C1.aeX h) .nil)
def uj (keep:Int) (n:Nat):Int:=if(n:Int)<(if 0>keep then 0 else keep)then(n:Int)else(if 0>keep then 0 else keep)
theorem Px (keep:Int) (n:Nat):0≤uj keep n∧uj keep n≤n:=by
 unfold uj
 split<;>split<;>omega
def lI (d:Dk) (b:List UInt8):Dk×Int:=
 if d.down then(d,18)else if d.cut then(⟨d.bs++b.take (uj d.keep b.length).toNat,true,false,d.keep⟩,18)else(⟨d.bs++b,false,false,d.keep⟩,0)
theorem oH (d d':Dk) (b:List UInt8) (x:Int) {n:Nat} {F:Nat→List AV} (hF:bg F b) (hn:n=b.length) (h1:d.bs.length≤1000000000) (h2:b.length≤1000000000) (hw:lI d b=(d',x)):
  aV Tryz.prog 94 [(0,IU (.own 1) d),(1,BI d.bs)] [.box 0 0,.sl 1 n true F] (.v (.int .i64 x)) [(0,IU (.own 2) d'),(2,BI d'.bs)]:=by
 obtain⟨bs,down,cut,keep⟩:=d
 have hk:=Px keep b.length
 unfold lI at hw
 dsimp only[IU,BI]at h1 hw⊢
 subst hn
 cases down with
 | true=>
   rw[if_pos rfl]at hw
   obtain⟨rfl,rfl⟩:=Prod.mk.inj hw
   dsimp only
   refine K1.M 0x1113 Tryz.func94 40 ?_
   repeat' ((conv=>whnf);first|refine K1.w ?_|refine K1.u ?_|refine K1.z ?_|refine K1.y (fun _=>?_) (fun _=>?_)|fail)
   all_goals(conv=>whnf)
   exact⟨[(1,2)],rfl,rfl,⟨aF rfl,aF rfl,trivial⟩,rfl,rfl,aj⟩
 | false=>
   rw[if_neg (by simp)]at hw
   cases cut with
   | true=>
     rw[if_pos rfl]at hw
     obtain⟨rfl,rfl⟩:=Prod.mk.inj hw
     dsimp only
     refine K1.M 0x1113 Tryz.func94 40 ?_
     repeat' ((conv=>whnf);first|refine K1.w ?_|refine K1.u ?_|refine K1.z ?_|refine K1.y (fun _=>?_) (fun _=>?_)|fail)
     all_goals(conv=>whnf)
     generalize hb:uj keep b.length=k at hk⊢
     unfold uj at hb
     rw[hb]
     clear hb
     repeat' ((conv=>whnf);first|refine K1.w ?_|refine K1.u ?_|refine K1.I 0x1 Tryz.func128 ?_|refine K1.z ?_|refine K1.y (fun _=>?_) (fun _=>?_)|fail)
     all_goals(conv=>whnf)
     exact⟨[(40,2)],rfl,rfl,⟨aF rfl,⟨_,rfl,bW.nT (bg.app (bg.bytes _) (hF.take _) rfl) (by rw[List.length_append,List.length_take];omega) rfl⟩,trivial⟩,rfl,rfl,aj⟩
   | false=>
     rw[if_neg (by simp)]at hw
     obtain⟨rfl,rfl⟩:=Prod.mk.inj hw
     dsimp only
     refine K1.M 0x1113 Tryz.func94 40 ?_
     repeat' ((conv=>whnf);first|refine K1.w ?_|refine K1.u ?_|refine K1.z ?_|refine K1.y (fun _=>?_) (fun _=>?_)|fail)
     all_goals(conv=>whnf)
     exact⟨[(40,2)],rfl,rfl,⟨aF rfl,⟨_,rfl,bW.nT (bg.app (bg.bytes _) hF rfl) List.length_append.symm rfl⟩,trivial⟩,rfl,rfl,aj⟩
theorem abn {lo k m:Nat} {f g:Nat→List AV} (h:m<lo):Tm lo k f g m=f m:=by
 have hb:Nat.ble lo m=false:=by
  rw[Bool.eq_false_iff]
  intro e
  have:=Nat.le_of_ble_eq_true e
  omega
 show(bif Nat.ble lo m then _ else f m)=f m
 rw[hb]
 rfl
theorem RP {l:List UInt8} {n i:Nat} (h:i<n):aU (l.take n) i=aU l i:=by
 show bC _=bC _
 rw[List.getD,List.getD,List.getElem?_take_of_lt h]
theorem V3 (d:Dk) (n:Nat) (hn:n≤d.bs.length) (h1:d.bs.length≤1000000000):
  aV Tryz.prog 62 [(0,IU (.own 1) d),(1,BI d.bs)] [.box 0 0,.v (.int .i64 (n:Int))] (.dF []) [(0,IU (.own 2) ⟨d.bs.take n,d.down,d.cut,d.keep⟩),(2,BI (d.bs.take n))]:=by
 obtain⟨bs,down,cut,keep⟩:=d
 dsimp only[IU,BI]at hn h1⊢
 refine K1.M 0x4003 Tryz.func62 40 ?_
 iterate 5 ((conv=>whnf);first|refine K1.w ?_|refine K1.u ?_|refine ASl.part ?_|refine K1.z ?_|refine K1.y (fun _=>?_) (fun _=>?_)|fail)
 repeat' ((conv=>whnf);first|refine K1.w ?_|refine K1.u ?_|refine ASl.cut ?_|refine K1.z ?_|refine K1.y (fun _=>?_) (fun _=>?_)|fail)
 all_goals(conv=>whnf)
 exact⟨[(40,2)],rfl,rfl,⟨aF rfl,⟨_,rfl,bW.row (by rw[List.length_take];omega) fun i hi=>(abn hi).trans (RP hi).symm⟩,trivial⟩,rfl,rfl,aj⟩
end
section
open Go.RowKit
theorem get_at (c:aW): ∀ {r:Nat},r<5→c.get (r:Int)=c.at r
  |0,_=>rfl
  |1,_=>rfl
  |2,_=>rfl
  |3,_=>rfl
  |4,_=>rfl
  |_+5,h=>by omega
theorem qP {c:aW} {r:Nat} (h:r<5) {n:Int}:hasB c (r:Int) n=true↔1≤n∧n≤c.at r:=by
 unfold hasB
 rw[decide_eq_true_eq,get_at c h]
 omega
theorem EW (a b:aW): ∀r,(a.join b).at r=IQ (a.at r) (b.at r)
  |0=>rfl
  |1=>rfl
  |2=>rfl
  |3=>rfl
  |_+4=>rfl
theorem Hw (c:aW): ∀ {r q:Nat},r<5→q<5→(c.inc r).at q=if q=r then c.at q+1 else c.at q:=by
 intro r q hr hq
 obtain rfl|rfl|rfl|rfl|rfl:r=0∨r=1∨r=2∨r=3∨r=4:=by omega
 all_goals(obtain rfl|rfl|rfl|rfl|rfl:q=0∨q=1∨q=2∨q=3∨q=4:=by omega)
 all_goals rfl
theorem aed {a b:aW}:a.le b=true↔ ∀r,r<5→a.at r≤b.at r:=by
 unfold aW.le
 rw[decide_eq_true_eq]
 constructor
 · rintro⟨h0,h1,h2,h3,h4⟩ r hr
   obtain rfl|rfl|rfl|rfl|rfl:r=0∨r=1∨r=2∨r=3∨r=4:=by omega
   all_goals assumption
 · intro h
   exact⟨h 0 (by omega),h 1 (by omega),h 2 (by omega),h 3 (by omega),h 4 (by omega)⟩
theorem Uw {H:Nat→aW} {r q:Nat} {c:aW}:qJ H r c q=if q=r then c else H q:=by
 unfold qJ
 by_cases h:q=r
 · rw[if_pos h,h,Nat.beq_refl];rfl
 · rw[if_neg h,show Nat.beq q r=false from by rw[Bool.eq_false_iff];intro e;exact h (Nat.eq_of_beq_eq_true e)];rfl
theorem aee {a b c:Int} (h:a≤c) (k:b≤c):IQ a b≤c:=by unfold IQ;split<;>omega
theorem Zl (a b:Int):a≤IQ a b:=by unfold IQ;split<;>omega
theorem aef (a b:Int):b≤IQ a b:=by unfold IQ;split<;>omega
theorem BJ {c:aW}: ∀ (l:List Ev) (s:Int×Bool),s.2=true→s.1≤(l.foldl (pK c) s).1∧(l.foldl (pK c) s).2=true
  |[],s,h=>⟨Int.le_refl _,h⟩
  | e ::l,s,h=>by
    rw[List.foldl_cons]
    by_cases k:(hasB c e.r e.n&&(!s.2||decide (s.1<e.h)))=true
    · have e1:pK c s e=(e.h,true):=if_pos k
      rw[e1]
      have:=BJ (c:=c) l (e.h,true) rfl
      simp only[h,Bool.not_true,Bool.false_or,Bool.and_eq_true,decide_eq_true_eq]at k
      exact⟨by have:=this.1;simp only at this;omega,this.2⟩
    · have e1:pK c s e=s:=if_neg k
      rw[e1]
      exact BJ l s h
theorem Zm {c:aW} {e:Ev}: ∀ (l:List Ev) (s:Int×Bool),e∈l→hasB c e.r e.n=true→e.h≤(l.foldl (pK c) s).1
  |[],_,h,_=>by cases h
  | x :: l,s,h,hh=>by
    rw[List.foldl_cons]
    rcases List.mem_cons.1 h with rfl|h
    · by_cases k:(hasB c e.r e.n&&(!s.2||decide (s.1<e.h)))=true
      · have e1:pK c s e=(e.h,true):=if_pos k
        rw[e1]
        exact(BJ (c:=c) l (e.h,true) rfl).1
      · have e1:pK c s e=s:=if_neg k
        rw[e1]
        have k':s.2=true∧e.h≤s.1:=by
         rw[hh]at k
         simp only[Bool.true_and,Bool.or_eq_true,Bool.not_eq_true',decide_eq_true_eq,not_or,Bool.not_eq_false,Int.not_lt]at k
         exact k
        have:=(BJ (c:=c) l s k'.1).1
        omega
    · exact Zm l _ h hh
theorem ade {c:aW} {l:List Ev} {e:Ev} (he:e∈l) (hh:hasB c e.r e.n=true):e.h<hgt l c:=by
 have:=Zm l (0,false) he hh
 unfold hgt GK
 omega
structure Fine (e:Ev):Prop where
 k:1≤e.k∧e.k≤5
 key:e.key.size≤3
 l:e.l=0∨e.l=1
 v:e.v.size≤12
structure Inv (T:List Ev) (H:Nat→aW):Prop where
 ev: ∀e∈T,∃r:Nat,r<5∧e.r=(r:Int)∧1≤e.n∧e.n≤(H r).at r∧e.c.at r=e.n-1
 ge: ∀q:Nat,q<5→ ∀r:Nat,r<5→0≤(H q).at r∧(H q).at r≤(H r).at r
 all: ∀r:Nat,r<5→ ∀n:Int,1≤n→n≤(H r).at r→ ∃e∈T,e.r=(r:Int)∧e.n=n
 clo: ∀q:Nat,q<5→ ∀e∈T,hasB (H q) e.r e.n=true→ ∀r:Nat,r<5→e.c.at r≤(H q).at r
 own: ∀e∈T,∀r:Nat,r<5→0≤e.c.at r∧e.c.at r≤(H r).at r
 dis:T.Pairwise fun a b=> ¬ (a.r=b.r∧a.n=b.n)
 ord:T.Pairwise fun a b=>aO b a=false
 hgt: ∀a∈T,∀b∈T,aO a b=true→a.h<b.h
 pre: ∀T1 e T2,T=T1++e::T2→ ∀r:Nat,r<5→ ∀n:Int,1≤n→n≤e.c.at r→ ∃x∈T1,x.r=(r:Int)∧x.n=n
 fine: ∀e∈T,Fine e
theorem Inv.nil:Inv [] (fun _=>bY):=by
 have h0: ∀r,bY.at r=0:=fun r=>match r with|0=>rfl|1=>rfl|2=>rfl|3=>rfl|_+4=>rfl
 exact⟨fun e h=>(by cases h),fun q _ r _=>⟨by rw[h0];omega,by omega⟩,fun r _ n h1 h2=>by rw[h0]at h2;omega,fun _ _ e h=>(by cases h),fun e h=>(by cases h),.nil,.nil,fun a h=>(by cases h),fun T1 e T2 h=>(by simp at h),fun e h=>(by cases h)⟩
section
variable {T:List Ev} {H:Nat→aW}
theorem Inv.sync (h:Inv T H) {r f:Nat} (hr:r<5) (hf:f<5):Inv T (qJ H r ((H r).join (H f))):=by
 have hj: ∀q,(qJ H r ((H r).join (H f)) q)=if q=r then(H r).join (H f)else H q:=fun q=>Uw
 have dg: ∀q,q<5→(qJ H r ((H r).join (H f)) q).at q=(H q).at q:=fun q hq=>by
  rw[hj]
  split
  · rename_i e
    subst e
    rw[EW]
    have:=(h.ge f hf q hq).2
    unfold IQ
    split<;>omega
  · rfl
 refine⟨fun e he=>?_,fun q hq p hp=>?_,fun p hp n h1 h2=>?_,fun q hq e he hh p hp=>?_,fun e he p hp=>?_,h.dis,h.ord,h.hgt,h.pre,h.fine⟩
 · obtain⟨p,h1,h2,h3,h4,h5⟩:=h.ev e he
   exact⟨p,h1,h2,h3,by rw[dg p h1];exact h4,h5⟩
 · rw[dg p hp,hj]
   split
   · rw[EW]
     have a:=h.ge r hr p hp
     have b:=h.ge f hf p hp
     have:=Zl ((H r).at p) ((H f).at p)
     exact⟨by omega,aee a.2 b.2⟩
   · exact h.ge q hq p hp
 · rw[dg p hp]at h2
   exact h.all p hp n h1 h2
 · rw [hj]at hh⊢
   split
   · rename_i e1
     rw[if_pos e1]at hh
     obtain⟨p',h1,h2,h3,h4,h5⟩:=h.ev e he
     rw[h2]at hh
     rw[qP h1,EW]at hh
     rw[EW]
     have ml:=Zl ((H r).at p) ((H f).at p)
     have mr:=aef ((H r).at p) ((H f).at p)
     rcases(show e.n≤(H r).at p'∨e.n≤(H f).at p' by have:=hh.2;unfold IQ at this;split at this<;>omega)with k|k
     · have:=h.clo r hr e he (by rw[h2];exact(qP h1).2 ⟨hh.1,k⟩) p hp
       omega
     · have:=h.clo f hf e he (by rw[h2];exact(qP h1).2 ⟨hh.1,k⟩) p hp
       omega
   · rename_i e1
     rw[if_neg e1]at hh
     exact h.clo q hq e he hh p hp
 · rw[dg p hp]
   exact h.own e he p hp
theorem Inv.edit (h:Inv T H) {r:Nat} (hr:r<5) {x:Ed} (hx: ∀ (rr n:Int) (c:aW) (hh:Int),Fine ⟨rr,n,c,hh,x.k,x.key,x.l,x.v⟩):Inv (T++[D7 T H r x]) (qJ H r ((H r).inc r)):=by
 have hj: ∀q,(qJ H r ((H r).inc r) q)=if q=r then(H r).inc r else H q:=fun q=>Uw
 have dg: ∀q,q<5→(qJ H r ((H r).inc r) q).at q=if q=r then(H q).at q+1 else(H q).at q:=fun q hq=>by
  rw[hj]
  split
  · rename_i e
    subst e
    rw[Hw _ hr hr,if_pos rfl]
  · rfl
 have dle: ∀q,q<5→(H q).at q≤(qJ H r ((H r).inc r) q).at q:=fun q hq=>by rw[dg q hq];split<;>omega
 have er:(D7 T H r x).r=(r:Int):=rfl
 have en:(D7 T H r x).n=(H r).at r+1:=rfl
 have ec:(D7 T H r x).c=H r:=rfl
 have eh:(D7 T H r x).h=Go.Proofs.YtimhagicagdkfaaGreat.hgt T (H r):=rfl
 have ef:Fine (D7 T H r x):=hx _ _ _ _
 generalize D7 T H r x=y at*
 have nb: ∀b∈T,aO y b=false:=fun b hb=>by
  unfold aO
  rw[er,Bool.eq_false_iff]
  intro k
  rw[qP hr]at k
  have:=(h.own b hb r hr).2
  omega
 have ny:aO y y=false:=by
  unfold aO
  rw[er,Bool.eq_false_iff]
  intro k
  rw[qP hr,ec]at k
  omega
 refine⟨fun e he=>?_,fun q hq p hp=>?_,fun p hp n h1 h2=>?_,fun q hq e he hh p hp=>?_,fun e he p hp=>?_, ?_, ?_,fun a ha b hb hab=>?_,fun T1 e T2 e0 p hp n h1 h2=>?_,fun e he=>?_⟩
 · rcases List.mem_append.1 he with he|he
   · obtain⟨p,h1,h2,h3,h4,h5⟩:=h.ev e he
     exact⟨p,h1,h2,h3,by have:=dle p h1;omega,h5⟩
   · rw[List.mem_singleton.1 he]
     refine⟨r,hr,er,by rw[en];have:=(h.ge r hr r hr).1;omega,by rw[en,dg r hr,if_pos rfl];omega,by rw[ec,en];omega⟩
 · have:=dle p hp
   have a:=h.ge q hq p hp
   rw[hj]
   split
   · rename_i e
     subst e
     rw[Hw _ hr hp]
     rw[dg p hp]at*
     split<;>omega
   · omega
 · by_cases e:p=r
   · subst e
     rw[dg p hp,if_pos rfl]at h2
     by_cases k:n≤(H p).at p
     · obtain⟨e,he,h3⟩:=h.all p hp n h1 k
       exact⟨e,List.mem_append.2 (.inl he),h3⟩
     · exact⟨y,List.mem_append.2 (.inr (List.mem_singleton.2 rfl)),er,by rw[en];omega⟩
   · rw[dg p hp,if_neg e]at h2
     obtain⟨e,he,h3⟩:=h.all p hp n h1 h2
     exact⟨e,List.mem_append.2 (.inl he),h3⟩
 · rw [hj]at hh⊢
   rcases List.mem_append.1 he with he|he
   · obtain⟨p',k1,k2,k3,k4,k5⟩:=h.ev e he
     by_cases e1:q=r
     · rw[if_pos e1]at hh⊢
       rw[k2,qP k1,Hw _ hr k1]at hh
       rw[Hw _ hr hp]
       have hk:hasB (H r) e.r e.n=true:=by
        rw[k2]
        refine(qP k1).2 ⟨k3, ?_⟩
        by_cases e2:p'=r
        · subst e2;omega
        · rw[if_neg e2]at hh;exact hh.2
       have:=h.clo r hr e he hk p hp
       split<;>omega
     · rw[if_neg e1]at hh⊢
       exact h.clo q hq e he hh p hp
   · rw[List.mem_singleton.1 he]at hh⊢
     rw[er,qP hr,en]at hh
     by_cases e1:q=r
     · rw[if_pos e1,ec,Hw _ hr hp]
       split<;>omega
     · rw[if_neg e1]at hh
       have:=(h.ge q hq r hr).2
       omega
 · rcases List.mem_append.1 he with he|he
   · have:=h.own e he p hp
     have:=dle p hp
     omega
   · rw[List.mem_singleton.1 he,ec]
     have:=h.ge r hr p hp
     have:=dle p hp
     omega
 · refine List.pairwise_append.2 ⟨h.dis,List.pairwise_singleton _ _,fun a ha b hb=>?_⟩
   rw[List.mem_singleton.1 hb]
   rintro⟨k1,k2⟩
   obtain⟨p,h1,h2,h3,h4,h5⟩:=h.ev a ha
   rw[er,h2]at k1
   have:p=r:=by omega
   subst this
   omega
 · refine List.pairwise_append.2 ⟨h.ord,List.pairwise_singleton _ _,fun a ha b hb=>?_⟩
   rw[List.mem_singleton.1 hb]
   exact nb a ha
 · rcases List.mem_append.1 ha with ha|ha
   · rcases List.mem_append.1 hb with hb|hb
     · exact h.hgt a ha b hb hab
     · rw[List.mem_singleton.1 hb]at hab⊢
       rw[eh]
       unfold aO at hab
       rw[ec]at hab
       exact ade ha hab
   · rw[List.mem_singleton.1 ha]at hab
     rcases List.mem_append.1 hb with hb|hb
     · rw[nb b hb]at hab;cases hab
     · rw[List.mem_singleton.1 hb,ny]at hab;cases hab
 · rcases List.append_eq_append_iff.1 e0 with⟨us,e1,e2⟩|⟨bs,e1,e2⟩
   · cases us with
     | nil=>
       simp only[List.nil_append,List.cons.injEq]at e2
       rw[List.append_nil]at e1
       subst e1
       rw[←e2.1,ec]at h2
       have:=(h.ge r hr p hp).2
       exact h.all p hp n h1 (by omega)
     | cons a us=>
       simp only[List.cons_append,List.cons.injEq]at e2
       exact absurd e2.2.symm (by simp)
   · cases bs with
     | nil=>
       simp only[List.nil_append,List.cons.injEq]at e2
       rw[List.append_nil]at e1
       subst e1
       rw[e2.1,ec]at h2
       have:=(h.ge r hr p hp).2
       exact h.all p hp n h1 (by omega)
     | cons b bs=>
       simp only[List.cons_append,List.cons.injEq]at e2
       obtain⟨rfl,-⟩:=e2
       exact h.pre T1 e bs e1 p hp n h1 h2
 · rcases List.mem_append.1 he with he|he
   · exact h.fine e he
   · rw[List.mem_singleton.1 he]
     exact ef
end
theorem Zn (x:Ed) (rr n:Int) (c:aW) (hh:Int):Fine ⟨rr,n,c,hh,(kU x).k,(kU x).key,(kU x).l,(kU x).v⟩:=by
 have h5:0≤m5 x.k∧m5 x.k≤4:=by
  unfold m5
  have:=acg x.k
  omega
 have hk:(ks3 (sN x.key.data.toList)).size≤3:=by unfold ks3;split;exact Nat.le_refl 3;split;exact Nat.le_refl 3;exact(show 2≤3 by omega)
 have hv:(vs4 (sN x.v.data.toList)).size≤12:=by
  unfold vs4
  split
  · exact(show 1≤12 by omega)
  · split
    · exact(show 3≤12 by omega)
    · split
      · exact(show 2≤12 by omega)
      · exact Nat.le_refl 12
 have hl:=YE x.l
 unfold kU
 split
 · exact⟨⟨by simp only;omega,by simp only;omega⟩,hk,by simp only;omega,hv⟩
 · exact⟨⟨by simp only;omega,by simp only;omega⟩,hk,.inl rfl,Nat.zero_le _⟩
theorem Hy {x:Int}:(x%5).toNat<5:=by omega
theorem Inv.step {T:List Ev} {H:Nat→aW} (h:Inv T H) (c:Xm):Inv (GR (T,H) c).1 (GR (T,H) c).2:=by
 unfold GR
 split
 · exact h.sync Hy Hy
 · exact h.edit Hy (Zn _)
end
section
open Go.RowKit
def lJ (p:ByteArray→Bool) (l:List Ev):List Ev:=l.filter fun x=>p x.key
theorem Zo {α:Type} {q f:α→Bool} {l:List α} (h: ∀x∈l,f x=true→q x=true):(l.filter q).any f=l.any f:=by
 rw[List.any_filter]
 refine any_congr fun x hx=>?_
 cases hf:f x with
 |false=>simp
 |true=>simp[h x hx hf]
theorem Dw {a b:Ev} (h:eX a b=true):a.key=b.key:=of_decide_eq_true h
theorem J7 {a b:Ev} (h:rJ a b=true):a.key=b.key:=by
 simp only[rJ,Bool.and_eq_true]at h
 exact Dw h.1
theorem J8 {a b:Ev} (h:jk a b=true):a.key=b.key:=by
 simp only[jk,Bool.and_eq_true]at h
 exact J7 h.1
section
variable {p:ByteArray→Bool} {l:List Ev} {e:Ev}
theorem BK {k:Int} {same:Ev→Ev→Bool} (hs: ∀a b,same a b=true→a.key=b.key) (he:p e.key=true):fB k same (lJ p l) e=fB k same l e:=
 Zo fun x _ h=>by
  simp only[Bool.and_eq_true]at h
  rw[hs _ _ h.2.1]
  exact he
theorem Zp {k:Int} {same:Ev→Ev→Bool} (hs: ∀a b,same a b=true→a.key=b.key) (he:p e.key=true):gZ k same (lJ p l) e=gZ k same l e:=
 Zo fun x _ h=>by
  simp only[Bool.and_eq_true]at h
  rw[hs _ _ h.2.1]
  exact he
theorem Zq (he:p e.key=true):bK (lJ p l) e=bK l e:=by unfold bK;rw[BK (fun _ _=>Dw) he]
theorem yB:aG (lJ p l)=lJ p (aG l):=by
 unfold aG lJ
 rw[List.filter_filter,List.filter_filter]
 refine List.filter_congr fun x _=>?_
 cases h:p x.key with
 |false=>simp
 | true=>
   have h2:bK (l.filter fun x=>p x.key) x=bK l x:=Zq h
   rw[h2,Bool.and_comm]
theorem Zr (he:p e.key=true):countB (lJ p l) (aG (lJ p l)) e=countB l (aG l) e:=by
 unfold countB
 rw[yB,BK (fun _ _=>J8) he,Zp (fun _ _=>Dw) he]
theorem Eb:bI (lJ p l) (aG (lJ p l))=lJ p (bI l (aG l)):=by
 have h: ∀e,p e.key=true→countB (lJ p l) (aG (lJ p l)) e=countB l (aG l) e:=fun e he=>Zr he
 unfold bI
 generalize countB (lJ p l) (aG (lJ p l))=f at h
 unfold lJ
 rw[List.filter_filter,List.filter_filter]
 refine List.filter_congr fun x _=>?_
 cases hp:p x.key with
 |false=>simp
 |true=>rw[h x hp,Bool.and_comm]
theorem Zt (he:p e.key=true):fE (lJ p l) e=fE l e:=by
 unfold fE
 split
 · exact BK (fun _ _=>J8) he
 · exact BK (fun _ _=>J7) he
theorem V4 (b:ByteArray):(⟨(dI b).toArray⟩:ByteArray)=b:=by obtain⟨a⟩:=b;simp[dI]
theorem J9 {key:ByteArray} {ws:List Ev} {f:Ev→Bool} (hk:p key=true) (hf: ∀e,f e=true→e.key=key):(lJ p ws).filter f=ws.filter f:=by
 unfold lJ
 rw[List.filter_filter]
 refine List.filter_congr fun x _=>?_
 cases h:f x with
 |false=>simp
 |true=>rw[hf x h,hk];rfl
theorem RQ {key:ByteArray} {ws:List Ev} (hk:p key=true):fJ key (lJ p ws)=fJ key ws:=by
 have h1: ∀n,dA key n (lJ p ws)=dA key n ws:=fun n=>J9 hk fun e h=>by
  simp only[yV,Bool.and_eq_true,decide_eq_true_eq]at h
  exact h.1.1
 have h2: ∀n,eF key n (lJ p ws)=eF key n ws:=fun n=>J9 hk fun e h=>by
  simp only[yV,Bool.and_eq_true,decide_eq_true_eq]at h
  exact h.1.1
 unfold fJ
 rw[h1,h1,h2,h2]
theorem MJ {α:Type} {q:α→Bool}: ∀l:List α,(l.filter q).length+(l.filter fun x=> !q x).length=l.length
  |[]=>rfl
  | x::l=>by
    have:=MJ (q:=q) l
    rw[List.filter_cons,List.filter_cons]
    cases q x<;>simp<;>omega
theorem Ux:o9 (lJ p l)=((aG l).filter fun e=>p e.key).length+(((bI l (aG l)).filter fun e=> !fE l e).filter fun e=>p e.key).length:=by
 unfold o9
 rw[Eb,yB]
 congr 2
 unfold lJ
 rw[List.filter_filter,List.filter_filter]
 refine List.filter_congr fun x _=>?_
 cases h:p x.key with
 |false=>simp
 | true=>
   have h2:fE (l.filter fun x=>p x.key) x=fE l x:=Zt h
   rw[h2,Bool.and_comm]
theorem size_two:o9 l=o9 (lJ p l)+o9 (lJ (fun k=> !p k) l):=by
 rw[Ux,Ux,o9]
 have h1:=MJ (q:=fun e:Ev=>p e.key) (aG l)
 have h2:=MJ (q:=fun e:Ev=>p e.key) ((bI l (aG l)).filter fun e=> !fE l e)
 omega
end
end
section
open Go.RowKit
theorem nO (a b:St):jR a b=true↔a.1<b.1∨(a.1=b.1∧a.2<b.2):=by
 unfold jR
 split
 · rename_i h
   simp only[decide_eq_true_eq]
   omega
 · rename_i h
   simp only[decide_eq_true_eq]
   omega
theorem EX: ∀ (l:List St) (m:St),¬jR (pY m l) m=true∧ ∀x∈l,¬jR (pY m l) x=true
  | [],m=>by
    refine⟨fun h=>?_,fun x hx=>absurd hx (by simp)⟩
    have:=(nO m m).1 h
    omega
  | x::l,m=>by
    obtain⟨h1,h2⟩:=EX l (if jR m x=true then x else m)
    show¬jR (pY (if jR m x=true then x else m) l) m=true∧ ∀y∈x::l,¬jR (pY (if jR m x=true then x else m) l) y=true
    generalize pY (if jR m x=true then x else m) l=t at h1 h2
    have h3: ¬jR t m=true∧ ¬jR t x=true:=by
     split at h1
     · rename_i hmx
       rw[nO]at hmx h1
       refine⟨?_,by rw[nO];exact h1⟩
       rw[nO]
       omega
     · rename_i hmx
       rw[nO]at hmx h1
       refine⟨by rw[nO];exact h1, ?_⟩
       rw[nO]
       omega
    refine⟨h3.1,fun y hy=>?_⟩
    rcases List.mem_cons.1 hy with rfl|hy
    · exact h3.2
    · exact h2 y hy
end
section
open Go.RowKit
theorem aeY {l:List Str} {i:Nat} (h:i<l.length):l.getD i []=l[i]:=by rw[List.getD,List.getElem?_eq_getElem h];rfl
theorem Hz {A:List Ev} (h: ¬A.length=0): ∃e∈A,qH A=e.v∧dh e=pY ((A.map dh).getD 0 default) (A.map dh):=by
 have hlt:=Bc (l:=A.map dh) (by intro e;exact h (by rw[←List.length_map (f:=dh),e];rfl))
 have hg:=List.findIdx_getElem (p:=fun s=>decide (s=pY ((A.map dh).getD 0 default) (A.map dh))) (xs:=A.map dh) (w:=hlt)
 have hlt':=hlt
 rw[List.length_map]at hlt
 refine⟨A[Ba (A.map dh)],List.getElem_mem hlt, ?_, ?_⟩
 · rw[qH,if_neg h,aeY (by rw[List.length_map];exact hlt),List.getElem_map,V4]
 · have:=of_decide_eq_true hg
   have e2:(A.map dh)[Ba (A.map dh)]'hlt'=dh (A[Ba (A.map dh)]):=List.getElem_map ..
   exact e2.symm.trans this
def um (l:List Ev):Prop:= ∀a∈l,∀b∈l,dh a=dh b→a=b
theorem abo {a b:St} (h: ¬jR a b=true) (k: ¬jR b a=true):a=b:=by
 rw[nO]at h k
 obtain⟨a1,a2⟩:=a
 obtain⟨b1,b2⟩:=b
 simp only at h k
 have:a1=b1:=by omega
 have:a2=b2:=by omega
 simp[*]
theorem V5 {A:List Ev} {e:Ev} (hd:um A) (he:e∈A) (hm: ∀x∈A,¬jR (dh e) (dh x)=true):qH A=e.v:=by
 have h0: ¬A.length=0:=by
  intro h
  rw[List.length_eq_zero_iff]at h
  rw[h]at he
  cases he
 obtain⟨x,hx,e1,e2⟩:=Hz h0
 have ht:=EX (A.map dh) ((A.map dh).getD 0 default)
 rw[←e2]at ht
 have:=abo (hm x hx) (ht.2 (dh e) (List.mem_map.2 ⟨e,he,rfl⟩))
 rw[e1,hd e he x hx this]
section
variable {l l':List Ev}
end
theorem abp {α:Type} {R:α→α→Prop} {l:List α} (h:l.Pairwise fun a b=> ¬R a b) (hs: ∀a b,R a b→R b a) {a b:α} (ha:a∈l) (hb:b∈l) (hr:R a b):a=b:=by
 obtain⟨i,hi,rfl⟩:=List.getElem_of_mem ha
 obtain⟨j,hj,rfl⟩:=List.getElem_of_mem hb
 rcases Nat.lt_trichotomy i j with k|k|k
 · exact absurd hr (List.pairwise_iff_getElem.1 h i j hi hj k)
 · subst k;rfl
 · exact absurd (hs _ _ hr) (List.pairwise_iff_getElem.1 h j i hj hi k)
theorem Inv.mark {T:List Ev} {H:Nat→aW} (h:Inv T H) {a b:Ev} (ha:a∈T) (hb:b∈T) (hr:a.r=b.r) (hn:a.n=b.n):a=b:=
 abp (R:=fun a b=>a.r=b.r∧a.n=b.n) h.dis (fun _ _ k=>⟨k.1.symm,k.2.symm⟩) ha hb ⟨hr,hn⟩
theorem Inv.stamp {T:List Ev} {H:Nat→aW} (h:Inv T H):um T:=fun a ha b hb e=>by
 obtain⟨p,a1,a2,a3,a4,a5⟩:=h.ev a ha
 obtain⟨q,b1,b2,b3,b4,b5⟩:=h.ev b hb
 have eh:a.h=b.h:=congrArg Prod.fst e
 have er:a.r=b.r:=congrArg Prod.snd e
 have epq:p=q:=by rw[a2,b2]at er;omega
 subst epq
 rcases Int.lt_trichotomy a.n b.n with k|k|k
 · have:=h.hgt a ha b hb (by unfold aO;rw[a2];exact(qP a1).2 ⟨a3,by omega⟩)
   omega
 · exact h.mark ha hb er k
 · have:=h.hgt b hb a ha (by unfold aO;rw[b2];exact(qP a1).2 ⟨b3,by omega⟩)
   omega
structure Spr where
 (out left:List Ev) (hv:aW)
def aeg (left:List Ev) (h:aW) (k:Nat):Bool:=(left.getD k default).c.le h
def adf (left:List Ev) (h:aW):List Nat:=(List.range left.length).filter (aeg left h)
def aW.top (c:aW):Nat→Int→aW
  |0,n=>⟨IQ c.c0 n,c.c1,c.c2,c.c3,c.c4⟩
  |1,n=>⟨c.c0,IQ c.c1 n,c.c2,c.c3,c.c4⟩
  |2,n=>⟨c.c0,c.c1,IQ c.c2 n,c.c3,c.c4⟩
  |3,n=>⟨c.c0,c.c1,c.c2,IQ c.c3 n,c.c4⟩
  |_,n=>⟨c.c0,c.c1,c.c2,c.c3,IQ c.c4 n⟩
theorem MK (c:aW) {r q:Nat} (n:Int) (hr:r<5) (hq:q<5):(c.top r n).at q=if q=r then IQ (c.at q) n else c.at q:=by
 obtain rfl|rfl|rfl|rfl|rfl:r=0∨r=1∨r=2∨r=3∨r=4:=by omega
 all_goals(obtain rfl|rfl|rfl|rfl|rfl:q=0∨q=1∨q=2∨q=3∨q=4:=by omega)
 all_goals rfl
def Uy (s:Spr) (k:Nat):Spr:=⟨s.out++[s.left.getD k default],s.left.take k++s.left.drop (k+1),s.hv.top (s.left.getD k default).r.toNat (s.left.getD k default).n⟩
structure Uz (W:List Ev) (s:Spr):Prop where
 perm:(s.out++s.left).Perm W
 sub:s.left.Sublist W
 hv: ∀e∈s.out,∀r:Nat,r<5→e.r=(r:Int)→e.n≤s.hv.at r
 pos: ∀r:Nat,r<5→0≤s.hv.at r
theorem abq {left:List Ev} {h:aW} {k:Nat}:k∈adf left h↔k<left.length∧aeg left h k=true:=by
 unfold adf
 rw[List.mem_filter,List.mem_range]
theorem abr {α:Type} {l:List α} {k:Nat} (h:k<l.length):(l[k]::l.eraseIdx k).Perm l:=by
 rw[List.eraseIdx_eq_take_drop_succ]
 refine List.perm_middle.symm.trans ?_
 rw[←List.drop_eq_getElem_cons h,List.take_append_drop]
theorem Uz.at {W:List Ev} {H:Nat→aW} (hI:Inv W H) {s:Spr} (h:Uz W s) {k:Nat} (hk:k<s.left.length):Uz W (Uy s k):=by
 obtain⟨out,left,hv⟩:=s
 obtain⟨h1,h2,h3,h4⟩:=h
 simp only at h1 h2 h3 h4 hk
 have hg:left.getD k default=left[k]:=by rw[List.getD,List.getElem?_eq_getElem hk];rfl
 have he:left.take k++left.drop (k+1)=left.eraseIdx k:=(List.eraseIdx_eq_take_drop_succ ..).symm
 have hm:left[k]∈W:=h2.subset (List.getElem_mem hk)
 obtain⟨p,p1,p2,_⟩:=hI.ev _ hm
 have ep:left[k].r.toNat=p:=by rw[p2];omega
 unfold Uy
 simp only[hg,he,ep]
 refine⟨?_,(List.eraseIdx_sublist ..).trans h2,fun e hx r hr h5=>?_,fun r hr=>?_⟩
 · have:=(abr hk).append_left out
   refine(List.Perm.trans ?_ this).trans h1
   rw[List.append_assoc]
   exact .refl _
 · show e.n≤(hv.top p left[k].n).at r
   rw[MK _ _ p1 hr]
   have hx:e∈out++[left[k]]:=hx
   rcases List.mem_append.1 hx with hx|hx
   · have:=h3 e hx r hr h5
     split
     · have:=Zl (hv.at r) left[k].n
       omega
     · exact this
   · rw[List.mem_singleton.1 hx]at h5⊢
     have:r=p:=by rw[p2]at h5;omega
     rw[if_pos this]
     exact aef _ _
 · show 0≤(hv.top p left[k].n).at r
   rw[MK _ _ p1 hr]
   have:=h4 r hr
   split
   · have:=Zl (hv.at r) left[k].n
     omega
   · exact this
end
section
open Go.RowKit
def woP (key:ByteArray) (c:Cont):Bool:= !decide (c.key=key)
def woL (l:List Cont) (key:ByteArray):List Cont:=l.filter (woP key)
def Zu (l:List Cont) (key:ByteArray):Nat:=l.findIdx fun c=>decide (c.key=key)
def sV (l:List Cont) (key:ByteArray):Int:=if Zu l key<l.length then(Zu l key:Int)else-1
end
end Go.Proofs.YtimhagicagdkfaaGreat
