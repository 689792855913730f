/- Part 8. -/
import Derived.Test.YthnlcbamjehpdaaGreatDoorViewCollectsJ3
namespace Go.Proofs.YthnlcbamjehpdaaGreatDoor
set_option linter.unusedVariables false
set_option maxHeartbeats 16000000
set_option maxRecDepth 100000
section
open Go Go.RowKit
theorem zBm{P:Program}{w:World}{ops:Array Oper}{o:Oper}{a:Act}{K:Act->World->Prop}{Q:Exit->Act->World->Prop}{F:Prop}(w0:World)(hd:zJ9 w0 w)(hgd:o.guard=none)(s x:Operand){t e:TypeId}{z:Value}{size bytes:Nat}
 (E:Elem P t e z size bytes) (ho:o.op= .call {callee:= .builtin .append,args:= #[s,x],argTypes:= #[t,t]})
 {base:Nat} {v:Value} {n:Nat} {xs:List Value} (hown:w0.ownsRow base e size v n xs)
 {S:Nat->Prop} {u:Value} {m:Nat} {news:List Value} (hr:Sl S w0 size u m news) (hs:a.eval s=v) (hx:a.eval x=u) (h1:∀y∈news,y.oneCell'=true)
 (hlen:n+m<=maxLen) (hbytes:(n+m)*bytes<=140737488355328) (hbase:base<=w0.heap.size)
 (h:∀A k c w',w'.ownsRow base e size (.slice A k c) (n+m) (xs++news)->w0.grownBy w' v.ownBlock->K (a.put o.dst (.slice A k c)) w'):
 if Region.wanted o (yielded ops a.tmps)=true then Oper.wp P o a w K Q else F:=by
 have hw:Region.wanted o (yielded ops a.tmps)=true:=by simp [Region.wanted,hgd]
 rw [yB hw];obtain⟨d,rfl⟩:=hd;obtain⟨v',w',hrun,h2,h3,h4⟩:=z2W (P:=P) (w0.drewN d) E o.type hown (Sl.drewN hr d) h1 hlen hbytes hbase;obtain⟨A,k,c,rfl⟩:=z0v h2;unfold Oper.wp execOp;simp only [ho,resolve,invoke,builtin,ZV,ZW,Ym,QG,yy,Yx,hs,hx,hrun];exact h A k c w' h2 ⟨h3.os,h3.tape,h3.output,h3.size,h3.block⟩
theorem zBl{P:Program}{w:World}{ops:Array Oper}{o:Oper}{a:Act}{K:Act->World->Prop}{Q:Exit->Act->World->Prop}{F:Prop}(w0:World)(hd:zJ9 w0 w)(hgd:o.guard=none)(s x:Operand){t e:TypeId}
 (E:Elem P t e (.int .u8 0) 1 1) (ho:o.op= .call {callee:= .builtin .append,args:= #[s,x],argTypes:= #[t,t]})
 {base:Nat} {v:Value} {l:List UInt8} (hown:Ob e w0 base v l)
 {S:Nat->Prop} {u:Value} {m:List UInt8} (hr:Bs S w0 u m) (hs:a.eval s=v) (hx:a.eval x=u)
 (hlen:l.length+m.length<=140737488355328) (hbase:base<=w0.heap.size)
 (h:∀A k c w',Ob e w' base (.slice A k c) (l++m)->w0.grownBy w' v.ownBlock->K (a.put o.dst (.slice A k c)) w'):
 if Region.wanted o (yielded ops a.tmps)=true then Oper.wp P o a w K Q else F:=
 zBm w0 hd hgd s x E ho hown hr hs hx (zId _) (by simp only [maxLen];omega) (by omega) hbase fun A k c w' h2 h3=>
  h A k c w' (by unfold Ob;rw [z6f,y6];exact h2) h3
end
end Go.Proofs.YthnlcbamjehpdaaGreatDoor
