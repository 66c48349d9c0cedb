/-
  Contracts of the walk:WcM.
-/
import Derived.Test.YtkimgljckickcaaGreatRa33
import Derived.Test.YtkimgljckickcaaGreatRa34
import Derived.Test.YtkimgljckickcaaGreatRa37
set_option maxHeartbeats 16000000
set_option maxRecDepth 100000
set_option linter.unusedVariables false
set_option linter.unusedSimpArgs false
namespace Go.Proofs.YtkimgljckickcaaGreat
open Go.RowKit
open Go.Proofs.Tryz
def OB.le(o o':OB):Prop:= ∀w k v,o.R w k v->o'.R w k v
theorem OB.le_refl(o:OB):o.le o:=λ _ _ _ h=>h
theorem aj.oV{P:Program}{f:FuncId}{hin:List (Nat×AO)}{aW:List AV}{r:AV}{j:Nat}{o o':OB}(hM:aj P f hin aW r [(j,.obs o)])(hl:o.le o'):aj P f hin aW r [(j,.obs o')]:=by
 refine⟨hM.1,λ w keep ρ args hkeep jg hnd hbl hargs=>(hM.2 w keep ρ args hkeep jg hnd hbl hargs).mono ?_⟩;rintro e w' ⟨u,xQ,rfl,hbel,hfix,hc,hout,hnd',hnew⟩;refine⟨u,xQ,rfl,hbel,λ p hp q hq e=>?_,hc,λ p hp=>?_,hnd',hnew⟩
 ·obtain rfl:=amZ.1 hq;exact hfix p hp (j,.obs o) (amZ.2 rfl) e
 ·obtain rfl:=amZ.1 hp;obtain⟨us,e1,hR⟩:=hout (j,.obs o) (amZ.2 rfl);exact⟨us,e1,hl _ _ _ hR⟩
theorem FZ{X:CX}{i:Nat}{o o':OB}(hl:o.le o')(h:aQ X i (.obs o)):aQ X i (.obs o'):=by
 obtain⟨us,e1,hR⟩:=h;exact⟨us,e1,hl _ _ _ hR⟩
theorem alh(os os':List OB)(hb hb' ln:OB)(h1:1<=os.length)(h5:os.length<=5)(he:os'.length=os.length)(d:OB)(hl:∀i,i<os.length->(os.getD i d).le (os'.getD i d))(hh:hb.le hb'):(wO os hb ln).le (wO os' hb' ln):=by
 revert hl;refine O4 (C:=λ os os'=>(∀i,i<os.length->(os.getD i d).le (os'.getD i d))->(wO os hb ln).le (wO os' hb' ln)) os os' h1 h5 he ?_ ?_ ?_ ?_ ?_;all_goals
  intros;rename_i hl;rintro w k v ⟨x,ρ,us,rfl,hbl,hnd,hn,ho,hok⟩;refine⟨(),ρ,us,rfl,hbl,hnd,rfl,ho,λ p hp=>?_⟩;simp only[wH,wN,wP,am4,aol,or_false]at hp;have l0:=hl 0;have l1:=hl 1;have l2:=hl 2;have l3:=hl 3;have l4:=hl 4;simp[List.getD]at l0 l1 l2 l3 l4;repeat' (rcases hp with hp|hp)
  all_goals first
   |exact hok (0,_) (by simp[wH,wP])
   |exact hok (1,_) (by simp[wH,wP])
   |exact hok (3,.obs ln) (by simp[wH])
   |exact FZ hh (hok (2,.obs hb) (by simp[wH]))
   |(refine FZ (i:=10) l0 (hok (10,.obs _) ?_);simp[wH,wN];done)
   |(refine FZ (i:=11) l1 (hok (11,.obs _) ?_);simp[wH,wN];done)
   |(refine FZ (i:=12) l2 (hok (12,.obs _) ?_);simp[wH,wN];done)
   |(refine FZ (i:=13) l3 (hok (13,.obs _) ?_);simp[wH,wN];done)
   |(refine FZ (i:=14) l4 (hok (14,.obs _) ?_);simp[wH,wN];done)
theorem aiG(os:List OB)(hb ln:OB)(h1:1<=os.length)(h5:os.length<=5)(s:Stp)(h:(s.r<0\/(os.length:Int)<=s.r)/\(s.k<4\/10<s.k\/8<=s.k/\s.k<=10/\s.r≠5)):
  aj prog 15 [(0,.obs (wO os hb ln))] [.box 0 0,s.av] (.v (.int .i64 1)) [(0,.obs (wO os hb ln))]:=by
 refine oU (ho:=[]) ⟨_,_,func15,rfl,rfl⟩ ?_ rfl;rw[<-X9 os h1 h5]at h;revert h;obtain⟨k,r,⟨ek,key,l,v⟩,at',bit,mask,keep⟩:=s;dsimp only[Stp.av,Stp.cs];refine jS (C:=λ os=>(r<0\/((wP os).length:Int)<=r)/\(k<4\/10<k\/8<=k/\k<=10/\r≠5)->aj prog 15 (wH os hb ln ()) [.box 0 0,.agg [.v (.int .i64 k),.v (.int .i64 r),.v (.int .i64 ek),.v (.string key),.v (.int .i64 l),.v (.string v),.v (.int .i64 at'),.v (.int .i64 bit),.v (.int .u32 mask),.v (.int .i64 keep)]] (.v (.int .i64 1)) (wH os hb ln ()++[])) os h1 h5 ?_ ?_ ?_ ?_ ?_;all_goals
  intros;rename_i h;dsimp only[wP]at h;rcases h with⟨h|h,h2|h2|⟨h2,h3,h4⟩⟩
 all_goals
  dsimp only[wH,wP,wN,List.append_nil];refine K1.M 0x1041040180200406bb func15 40 ?_;repeat' ((conv=>whnf);first|refine K1.u ?_|refine K1.I 0x44600010007b func38 ?_|refine K1.I 0x13 func39 ?_|refine K1.y (λ _=>?_) (λ _=>?_)|fail)
  all_goals(conv=>whnf)
  all_goals
   refine⟨[],rfl,rfl, ?_,rfl,rfl,bY⟩;repeat' (first|exact trivial|refine⟨dB rfl, ?_⟩)
theorem ali(os:List OB)(hb ln:OB)(r:Nat)(h5:os.length<=5)(hr:r<os.length)(k:Int)(ed:Ed)(at' bit mask keep:Int)(h:k<0\/11<k):
  aj prog 15 [(0,.obs (wO os hb ln))] [.box 0 0,Stp.av ⟨k,(r:Int),ed,at',bit,mask,keep⟩] (.v (.int .i64 1)) [(0,.obs (wO os hb ln))]:=by
 refine oU (ho:=[]) ⟨_,_,func15,rfl,rfl⟩ ?_ rfl;refine sO (C:=λ os r=>aj prog 15 (wH os hb ln ()) [.box 0 0,Stp.av ⟨k,(r:Int),ed,at',bit,mask,keep⟩] (.v (.int .i64 1)) (wH os hb ln ()++[])) os r h5 hr ?_ ?_ ?_ ?_ ?_ ?_ ?_ ?_ ?_ ?_ ?_ ?_ ?_ ?_ ?_;all_goals
  intros;rcases h with h|h
 all_goals
  dsimp only[wH,wP,wN,List.append_nil,Stp.av,Stp.cs];refine K1.M 0x1041040180200406bb func15 40 ?_;repeat' ((conv=>whnf);first|refine K1.u ?_|refine K1.I 0x13 func39 ?_|refine nR.yes (of_decide_eq_true rfl) ?_|refine mJ.lit _ rfl rfl ?_|fail)
  all_goals(conv=>whnf)
  refine⟨[],rfl,rfl, ?_,rfl,rfl,bY⟩;repeat' (first|exact trivial|refine⟨dB rfl, ?_⟩)
end Go.Proofs.YtkimgljckickcaaGreat
