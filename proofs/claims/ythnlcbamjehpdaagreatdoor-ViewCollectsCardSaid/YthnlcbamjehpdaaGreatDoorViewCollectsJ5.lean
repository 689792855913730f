/- Part 5. -/
import Derived.Test.YthnlcbamjehpdaaGreatDoorViewCollectsJ4
namespace Go.Proofs.YthnlcbamjehpdaaGreatDoor
set_option linter.unusedVariables false
set_option maxHeartbeats 16000000
set_option maxRecDepth 100000
section
open Go
abbrev TF:=Int->Option (Nat×Nat)
def TF.put(t:TF)(a:Int)(x:Nat×Nat):TF:=fun y=>if y=a then some x else t y
def z3c{α:Type}(f:Int->Option α):List Nat:=(List.range 90).filter fun i=>(f (i:Int)).isSome
def zEH{α:Type}(f:Int->Option α):Prop:=∀x,(f x).isSome=true->0<=x/\x<90
structure Pgr where
 D:Dsk
 a:Int
 n:Nat
 num:Nat
 last:Int
 tag:Nat
 tb:TF
 wr:SF
 gn:Int->Bool
def Pgr.has(P:Pgr)(x:Int):Bool:=(P.wr x).isSome||((P.tb x).isSome&& !P.gn x)
def Pgr.pages(P:Pgr):List Nat:=(List.range 90).filter fun i=>P.has (i:Int)
def z65(x:Int)(b:List UInt8):Nat:=if x<0∨90<=x then 131 else if 2048<b.length then 132 else 0
def z2u(g:Int->Bool)(x:Int)(v:Bool):Int->Bool:=fun y=>if y=x then v else g y
def Pgr.put(P:Pgr)(x:Int)(b:List UInt8):Pgr:={P with wr:=P.wr.put x b,gn:=z2u P.gn x false}
def Pgr.write(P:Pgr)(x:Int)(b:List UInt8):Pgr:=if z65 x b=0 then P.put x b else P
def Pgr.free(P:Pgr)(x:Int):Pgr:=if P.has x then {P with wr:=P.wr.del x,gn:=z2u P.gn x true}else P
def Pgr.least(P:Pgr):Option Nat:=(List.range 90).find? fun i=> !P.has (i:Int)
def Pgr.alloc(P:Pgr)(b:List UInt8):Pgr×Nat×Nat:=if 2048<b.length then(P,0,132)else match P.least with
 |some i=>(P.put (i:Int) b,i,0)
 |none=>(P,0,133)
def zEd(b:List UInt8)(k:Nat):List UInt8:=(b.drop (512*k)).take 512
def z7z(a:Int)(p:Nat):Int:=a+2+4*(p:Int)
structure PcSt where
 rest:List UInt8
 err:Nat
 last:Int
 used:List Bool
 t:TF
def pcOne(n:Nat)(s:PcSt):Option PcSt:=
 let x:=z0k s.rest s.err 89
 let y:=z0k x.2.1 x.2.2 ((n:Int)-1)
 let z:=z0k y.2.1 y.2.2 2048
 if(z2w z.2.1 z.2.2≠0/\z2w z.2.1 z.2.2≠31)∨(x.1:Int)<=s.last∨(zIg s.used (y.1:Int)).2≠0 then none
 else some ⟨z.2.1,z.2.2,(x.1:Int),(zIg s.used (y.1:Int)).1,s.t.put (x.1:Int) (y.1,z.1)⟩
def zIx(n:Nat):Nat->PcSt->Option PcSt
 |0,s=>some s
 |k+1,s=>match pcOne n s with
  |some s'=>zIx n k s'
  |none=>none
def pcInit(n:Nat)(body:List UInt8):PcSt:=
 ⟨(z0k (z16 body 0).2.1 (z16 body 0).2.2 90).2.1,(z0k (z16 body 0).2.1 (z16 body 0).2.2 90).2.2,-1,List.replicate n false,fun _=>none⟩
def zFg(n:Nat)(body:List UInt8):Option (Nat×TF):=match zIx n (z0k (z16 body 0).2.1 (z16 body 0).2.2 90).1 (pcInit n body)with
 |some s=>if z2w s.rest s.err=0 then some ((z16 body 0).1,s.t)else none
 |none=>none
def z20(D:Dsk)(a:Int)(n:Nat)(num:Nat)(last:Int)(x:Nat×TF):Pgr:=⟨D,a,n,num,last,x.1,x.2,fun _=>none,fun _=>false⟩
def z8Y(D:Dsk)(a:Int)(n:Nat):Option Pgr:=
 if(z1q D.view a).1=0 then some (z20 D a n 0 (z1q D.view a).2.1 (0,fun _=>none))
 else(zFg n (z1q D.view a).2.2).map (z20 D a n (z1q D.view a).1 (z1q D.view a).2.1)
def pgPl(a n:Int):Prop:=2<=n/\n<=256/\0<=a/\a<=65534-4*n
theorem zBO{α:Type}{f:Int->Option α}{i:Nat}:i∈z3c f↔i<90/\(f (i:Int)).isSome=true:=by
 unfold z3c;rw [YD,yt]
theorem ids_lt{α:Type}(f:Int->Option α):(z3c f).Pairwise (· < ·):=List.Pairwise.sublist Zy List.pairwise_lt_range
theorem ids_le{α:Type}(f:Int->Option α):(z3c f).length<=90:=by
 have:=YI (fun i:Nat=>(f (i:Int)).isSome) (List.range 90);rw [ZJ]at this;exact this
end
section
open Go Go.RowKit
end
end Go.Proofs.YthnlcbamjehpdaaGreatDoor
