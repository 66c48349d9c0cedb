/-
  Contracts of the walk:WdF.
-/
import Derived.Test.YtifjccndenojlaaGreatWf37
set_option maxHeartbeats 16000000
set_option maxRecDepth 100000
set_option linter.unusedVariables false
set_option linter.unusedSimpArgs false
namespace Go.Proofs.YtifjccndenojlaaGreat
open Go.RowKit
def cPr:kR:=⟨3,2,2,6,2,2⟩
def Nv:Ed:=⟨0,⟨#[]⟩,0,⟨#[]⟩⟩
def Fq:Nat->ByteArray
 |0=>⟨#[97,110,110]⟩
 |1=>⟨#[98,111,98]⟩
 |_=>⟨#[99,121]⟩
def TM(a b:Nat)(k:ByteArray):Nat->Stp
 |0=>⟨0,a,⟨1,k,0,⟨#[]⟩⟩,0,0,0,0⟩
 |1=>⟨1,a,Nv,0,0,0,0⟩
 |2=>⟨2,b,Nv,0,0,0,0⟩
 |3=>⟨4,0,Nv,1,0,0,0⟩
 |4=>⟨4,0,Nv,1,0,0,0⟩
 |5=>⟨4,0,Nv,0,0,0,0⟩
 |6=>⟨2,b,Nv,0,0,0,0⟩
 |7=>⟨4,0,Nv,1,0,0,0⟩
 |8=>⟨4,0,Nv,1,0,0,0⟩
 |_=>⟨4,0,Nv,0,0,0,0⟩
def Af(a b:Nat)(k:ByteArray):Nat->Wy
 |0=>wy0 cPr
 |n+1=>((Af a b k n).step (TM a b k n)).1
def tK(a b:Nat)(k:ByteArray)(n:Nat):Bool:=decide (((Af a b k n).step (TM a b k n)).2=0)
def alU(a b:Nat)(k:ByteArray):Bool:=
 tK a b k 0&&tK a b k 1&&tK a b k 2&&tK a b k 3&&tK a b k 4&&tK a b k 5&&tK a b k 6&&tK a b k 7&&tK a b k 8&&tK a b k 9
 &&(((Af a b k 5).nd (b:Int)).up&&(((Af a b k 5).nd (b:Int)).log.length==0))&&(((Af a b k 8).nd (b:Int)).up&&(((Af a b k 8).nd (b:Int)).log.length==0))
 &&(((Af a b k 9).nd (b:Int)).up&&(((Af a b k 9).nd (b:Int)).log.length==1))&&(((Af a b k 10).nd (a:Int)).up&&decide (((Af a b k 10).nd (a:Int)).sent=1))&&((Af a b k 10).fl.length==0)&&((Af a b k 10).ns.length==3)
theorem amX:((List.range 3).all λ a=>(List.range 3).all λ b=>(a==b)||(List.range 3).all λ i=>alU a b (Fq i))=true:=by kernel_rfl
end Go.Proofs.YtifjccndenojlaaGreat
