/- Part 17. -/
import Derived.Test.YtdkobefpnjbgnaaGreatDoorMovePutsJ10
import Derived.Test.YtdkobefpnjbgnaaGreatDoorMovePutsJ16
namespace Go.Proofs.YtdkobefpnjbgnaaGreatDoor
set_option linter.unusedVariables false
set_option maxHeartbeats 16000000
set_option maxRecDepth 100000
section
open Go Go.RowKit
structure Dp(w W:World)(h:Zn)(D:Dsk):Prop where
 dk:Dk W h D
 new:∀b,h.has b→w.heap.size≤b
 below:Below w.heap.size w W
section
variable {w W W':World} {h h':Zn} {D D':Dsk}
end
section
variable {w W W':World} {h h':Zn} {D D':Dsk} {g:Nat} {a:Int} {num:Nat} {last:Int} {body t:List UInt8}
end
section
variable {P:Pgr} {c:Int→List UInt8}
end
section
variable {w W W':World} {Z Z':Pz} {P P':Pgr} {c c':Int→List UInt8}
end
set_option linter.unusedSimpArgs false
section
variable {P:Program} {ops:Array Oper} {F:Nat→Prop} {pt:Pt} {ic:Nat} {w0:World}
section
variable {Q:Act→World→Prop} {a:Act} {o:Oper} {rest:List Oper} {Vs:List VP} {env:List (Value×VP)}
end
end
end
section
open Go Go.RowKit
set_option linter.unusedSimpArgs false
def coS(F:Nat→Prop)(ic i:Nat):World→World→Prop:=if i=ic then Turn F else fun w w'=>Below w.heap.size w w'
def coR(F:Nat→Prop)(ic:Nat)(w0:World):RegFr:=⟨coS F ic,fun j=>if j=ic then Below w0.heap.size w0 else Turn F w0,Turn F w0⟩
def VCo(F:Nat→Prop)(ic j:Nat)(V:VP):Prop:=Stays V∧(j≠ic→∀v w w',Turn F w w'→V v w→V v w')
def CoOk(F:Nat→Prop)(ic:Nat):Nat→List VP→Prop
 |_,[]=>True
 |j,V::Vs=>VCo F ic j V∧CoOk F ic (j+1) Vs
theorem coOk{F:Nat→Prop}{ic:Nat}:∀ {Vs:List VP} {n:Nat},CoOk F ic n Vs→∀j,j<Vs.length→VCo F ic (n+j) (vAt Vs j)
 |V::Vs,n,h,0,_=>h.1
 |V::Vs,n,h,j+1,hj=>by
  have:=coOk h.2 j (by simp only [List.length_cons]at hj;omega);rw [show n+1+j=n+(j+1)from by omega]at this;exact this
theorem VCo.is(F:Nat→Prop)(ic j:Nat)(c:Value):VCo F ic j (Is c):=⟨Stays.is c,fun _ _ _ _ _ h=>h⟩
section
variable {P:Program} {ops:Array Oper} {F:Nat→Prop} {ic:Nat} {w0:World}
theorem zCM:coS F ic ic=Turn F:=by unfold coS;rw [if_pos rfl]
theorem z83{i:Nat}(h:i≠ic):coS F ic i=fun w w'=>Below w.heap.size w w':=by unfold coS;rw [if_neg h]
theorem zFd{i:Nat}{w w':World}(hS:coS F ic i w w')(hE:Turn F w0 w):Turn F w0 w':=by
 unfold coS at hS
 split at hS
 ·exact hE.trans hS fun b hb=> .inl hb
 ·exact hE.trans (Turn.of_below (F:=F) hS) fun b hb=> .inl hb
theorem coR_ok{Vs:List VP}(hlen:Vs.length=ops.size)(h:CoOk F ic 0 Vs):(coR F ic w0).Ok ops Vs:=by
 refine⟨fun i j hi hj hne hwt x w w' hS hv=> ?_,fun i j hi hj hne hwt w w' hS hC=> ?_,fun i hi w w' hS hE=>zFd hS hE⟩
 ·have h1:=coOk h j (by omega);rw [Nat.zero_add]at h1;have hS:coS F ic i w w':=hS;by_cases h2:i=ic
  ·subst h2;rw [zCM]at hS;exact h1.2 (Ne.symm hne) x w w' hS hv
  ·rw [z83 h2]at hS;exact h1.1 x w w' hS hv
 ·have hS:coS F ic i w w':=hS;simp only [coR]at hC ⊢;by_cases hj2:j=ic
  ·subst hj2;rw [if_pos rfl]at hC ⊢;rw [z83 hne]at hS;exact hC.trans (Below.mono hS hC.size)
  ·rw [if_neg hj2]at hC ⊢;exact zFd hS hC
theorem z5d{id:Nat}{Q':Exit→Act→World→Prop}{l:List Oper}{a0:Act}(F:Nat→Prop)(ic:Nat)(hm:P.follows .mixedOrders=true)(hg:z2Y l.toArray=true)
 (h:∃Vs,z16 P l.toArray (coR F ic w0) (fun a w=>Q' .normal a w) l Vs [] a0∧CoOk F ic 0 Vs∧Vs.length=l.length):(Code.region id l.toArray true).wp P Q' a0 w0:=by
 obtain⟨Vs,h0,hS,hlen⟩:=h;refine z3C l hm hg (coR_ok (by simpa using hlen) hS) hlen ((Turn.refl _ _).drew) (fun j _=> ?_) h0;simp only [coR]
 split
 ·exact(Below.refl _ _).drew
 ·exact(Turn.refl _ _).drew
section
variable {Q:Act→World→Prop} {a:Act} {o:Oper} {rest:List Oper} {Vs:List VP} {env:List (Value×VP)}
theorem z78{V:VP}(hw:Region.wanted o (yielded ops a.tmps)=true)(hn:(env.length==ic)=false)
 (h1:∀w,Turn F w0 w→(∀e∈o.after,Region.binds .any e=true→∀ (x:Value) (W:VP),env[e.on]? =some (x,W)→W x w)→z07 P o a w V)
 (h2:∀x,(∃w,Turn F w0 w∧V x w)→∀K:Act→Prop,(∀a',z16 P ops (coR F ic w0) Q rest Vs (env++ [(x,V)]) a'→K a')→K (a.put o.dst x)):z16 P ops (coR F ic w0) Q (o::rest) (V::Vs) env a:=by
 have hn':env.length≠ic:=by simpa using hn
 refine⟨?_,fun x hx=>h2 x hx _ fun _ h=>h⟩;rw [if_pos hw];intro w hC hf;have hC:Turn F w0 w:=by
  simp only [coR]at hC;rw [if_neg hn']at hC;exact hC
 have h3:=h1 w hC hf;have eS:(coR F ic w0).S env.length=fun w w'=>Below w.heap.size w w':=z83 hn'
 rw [eS];unfold z07 at h3;unfold steps
 revert h3
 cases (execOp a.eval o).run P w with
 |ok n w'=>
  cases n<;>simp only [z0G,z0T]<;>first|exact fun h=>h|exact fun h=>h.2.mono fun e w'' ⟨v,he,hb,hv⟩=>⟨v,he,z14 h.1 hb,hv⟩
 |halt x w'=>simp only [z0G,z0T];exact fun h=>h
theorem z20{c:Value}(hw:Region.wanted o (yielded ops a.tmps)=true)(hn:(env.length==ic)=false)
 (h1:∀w,Turn F w0 w→(∀e∈o.after,Region.binds .any e=true→∀ (x:Value) (W:VP),env[e.on]? =some (x,W)→W x w)→z07 P o a w (Is c))
 (h2:∀K:Act→Prop,(∀a',z16 P ops (coR F ic w0) Q rest Vs (env++ [(c,Is c)]) a'→K a')→K (a.put o.dst c)):z16 P ops (coR F ic w0) Q (o::rest) (Is c::Vs) env a:=
 z78 hw hn h1 fun x ⟨_,_,hx⟩=>by
  obtain rfl:x=c:=hx;exact h2
theorem zCH{V:VP}(hw:Region.wanted o (yielded ops a.tmps)=true)(hic:(env.length==ic)=true)
 (h1:∀w,Below w0.heap.size w0 w→(∀e∈o.after,Region.binds .any e=true→∀ (x:Value) (W:VP),env[e.on]? =some (x,W)→W x w)→steps P o a w (Turn F) V)
 (h2:∀x,(∃w,Turn F w0 w∧V x w)→∀K:Act→Prop,(∀a',z16 P ops (coR F ic w0) Q rest Vs (env++ [(x,V)]) a'→K a')→K (a.put o.dst x)):z16 P ops (coR F ic w0) Q (o::rest) (V::Vs) env a:=by
 obtain rfl:env.length=ic:=by simpa using hic
 refine⟨?_,fun x hx=>h2 x hx _ fun _ h=>h⟩;rw [if_pos hw];intro w hC hf;have hC:Below w0.heap.size w0 w:=by
  simp only [coR]at hC;rw [if_pos trivial]at hC;exact hC
 have eS:(coR F env.length w0).S env.length=Turn F:=zCM;rw [eS];exact h1 w hC hf
theorem zDv(h:∀w,Turn F w0 w→(∀ (j:Nat) (x:Value) (W:VP),env[j]? =some (x,W)→W x w)→Q a w):z16 P ops (coR F ic w0) Q [] [] env a:=h
end
end
end
section
open Go
def z0j:Nat→List UInt8→Nat→List (Nat×List UInt8)×Nat
 |0,_,_=>([],0)
 |k+1,l,f=>match z0e l with
  |none=>([],0)
  |some (r,n)=>if r.1=f%U64 then(r::(z0j k (l.drop n) (f+1)).1,n+(z0j k (l.drop n) (f+1)).2)else([],0)
theorem z5X{l:List UInt8}{r:Nat×List UInt8}{n:Nat}(h:z0e l=some (r,n)):8≤n∧n≤l.length:=by
 unfold z0e at h
 split at h
 ·cases h
 ·rename_i hc
  split at h
  ·cases h
  ·rename_i f hf
   split at h
   ·injection h with h
    injection h with _ h
    unfold z1g at hf
    split at hf
    ·cases hf
    ·rename_i h4;rw [List.length_take]at h4;rw [List.length_drop]at hc h4;omega
   ·cases h
theorem zCx:z0e []=none:=by unfold z0e;rw [if_pos (.inl (by simp))]
def titleB:List UInt8:= [115,101,103,109,101,110,116]
abbrev Rcd:=Nat×List UInt8
def z1Z(f:SF)(p:Int):Nat→List UInt8
 |0=> []
 |n+1=>match f p with
  |none=> []
  |some b=>if b.length<512 then b else b++z1Z f (p+1) n
def z7V(s:List UInt8):Option (Nat×List Rcd):=match z0e s with
 |some ((q,t),n)=>if t=titleB then some (q,(z0j (s.drop n).length (s.drop n) q).1)else none
 |none=>none
def z3K(f:SF)(a:Int)(size:Nat)(i:Nat):Option (Nat×List Rcd):=z7V (z1Z f (a+(i:Int)*size) size)
structure Fd where
 at':Nat
 base:Nat
 recs:List Rcd
deriving DecidableEq
def zCG(f:SF)(a:Int)(size:Nat):Nat→List Fd
 |0=> []
 |n+1=>zCG f a size n++(match z3K f a size n with|some (q,rs)=> [⟨n,q,rs⟩]|none=> [])
def Fd.fits(x:Fd)(frm:Nat):Bool:=decide (x.base≤(frm+1)%U64)&&decide ((frm+1)%U64≤(x.base+x.recs.length)%U64)
def z4N:Option Fd→Fd→Bool
 |none,_=>true
 |some y,x=>decide (y.base<x.base)
def z1z(frm:Nat):List Fd→Option Fd→Option Fd
 | [],b=>b
 |x::xs,b=>z1z frm xs (if x.fits frm&&z4N b x then some x else b)
structure Sg where
 at':Nat
 base:Nat
 count:Nat
deriving DecidableEq
def Fd.sg(x:Fd):Sg:=⟨x.at',x.base,x.recs.length%U64⟩
def z1O(live:List Sg)(i:Nat):Bool:=live.any fun s=>s.at'==i
def Fd.last(x:Fd):Nat:=(x.base+x.recs.length+(U64-1))%U64
def zAG(all:List Fd)(live:List Sg)(last:Nat):Option Fd:=all.find? fun x=>decide (x.base=(last+1)%U64)&& !z1O live x.at'
def z4B(all:List Fd)(frm:Nat):Nat→List Sg→Nat→List Rcd→Option Fd→List Sg×Nat×List Rcd
 |0,live,last,out,_=>(live,last,out)
 |_+1,live,last,out,none=>(live,last,out)
 |k+1,live,last,out,some x=>z4B all frm k (live++ [x.sg]) x.last (out++x.recs.filter fun r=>decide (frm<r.1)) (zAG all (live++ [x.sg]) x.last)
def z4t(D:Dsk)(p:Int):Nat→Dsk
 |0=>D
 |n+1=>(z4t D p n).free (p+(n:Int))
def z0c(D:Dsk)(a:Int)(size:Nat)(live:List Sg):Nat→Dsk
 |0=>D
 |n+1=>if z1O live n then z0c D a size live n else z4t (z0c D a size live n) (a+(n:Int)*size) size
structure Wl where
 D:Dsk
 a:Int
 n:Nat
 size:Nat
 live:List Sg
 stream:List UInt8
 last:Nat
 synced:Nat
def Wl.sync(l:Wl):Wl:={l with D:=l.D.sync,synced:=l.last}
def z1I(D:Dsk)(a:Int)(n size:Nat)(frm:Nat):Wl×List Rcd:=
 let all:=zCG D.view a size n
 let c:=z4B all frm (n+1) [] frm [] (z1z frm all none)
 (({D:=z0c D a size c.1 n,a:=a,n:=n,size:=size,live:=c.1,stream:= [],last:=max c.2.1 frm,synced:=0}:Wl).sync,c.2.2)
def z3Q(live:List Sg)(n:Nat):Option Nat:=(List.range n).find? fun i=> !z1O live i
def z3y(D:Dsk)(p:Int)(b:List UInt8):Nat→Nat→Dsk×Nat
 |0,_=>(D,0)
 |m+1,k=>if 512*k<b.length then
   (if D.why (p+(k:Int)) ((b.drop (512*k)).take 512)=0 then z3y (D.write (p+(k:Int)) ((b.drop (512*k)).take 512)) p b m (k+1)
   else(D,D.why (p+(k:Int)) ((b.drop (512*k)).take 512)))else(D,0)
def z46:List Sg→List Sg
 | []=> []
 | [s]=> [{s with count:=(s.count+1)%U64}]
 |s::t::r=>s::z46 (t::r)
def z0P(l:Wl)(t:List UInt8):Wl×Nat×Nat:=
 let q:=(l.last+1)%U64
 let b:=z6u q t
 let head:=z6u q titleB
 if 32768<t.length∨512*l.size<head.length+b.length then(l,0,81)
 else if l.stream= []∨512*l.size<l.stream.length+b.length then
  match z3Q l.live l.n with
  |none=>(l,0,82)
  |some i=>
   let r:=z3y l.D (l.a+(i:Int)*l.size) (head++b) (head++b).length 0
   if r.2=0 then({l with D:=r.1,live:=z46 (l.live++ [⟨i,q,0⟩]),stream:=head++b,last:=q},q,0)
   else(({l with D:=z4t r.1 (l.a+(i:Int)*l.size) l.size,stream:= []}:Wl).sync,0,r.2)
 else
  let r:=z3y l.D (l.a+(((l.live.getLast?).map (·.at')).getD 0:Nat)*l.size) (l.stream++b) (l.stream++b).length (l.stream.length / 512)
  if r.2=0 then({l with D:=r.1,live:=z46 l.live,stream:=l.stream++b,last:=q},q,0)
  else({l with D:=r.1,stream:= []},0,r.2)
theorem z5S{D:Dsk}(hok:D.Ok):∀ (n:Nat) (p:Int),(z1Z D.view p n).length≤512*n
 |0,_=>by simp [z1Z]
 |n+1,p=>by
  rw [z1Z];cases hv:D.view p with
  |none=>simp
  |some b=>
   have h1:=(hok.view.at hv).2.2;have ih:=z5S hok n (p+1);simp only
   split
   ·omega
   ·rw [List.length_append];omega
theorem z6T{f:SF}{p:Int}{n:Nat}(h:f p=none):z1Z f p (n+1)= []:=by rw [z1Z,h]
theorem zAH{f:SF}{p:Int}{n:Nat}{b:List UInt8}(h:f p=some b)(hb:b.length<512):z1Z f p (n+1)=b:=by rw [z1Z,h];simp only;rw [if_pos hb]
theorem zB3{f:SF}{p:Int}{n:Nat}{b:List UInt8}(h:f p=some b)(hb:¬b.length<512):z1Z f p (n+1)=b++z1Z f (p+1) n:=by rw [z1Z,h];simp only;rw [if_neg hb]
def z6r(f:SF)(a:Int)(size i:Nat):List Fd:=match z3K f a size i with|some (q,rs)=> [⟨i,q,rs⟩]|none=> []
theorem z2v(f:SF)(a:Int)(size n:Nat):zCG f a size (n+1)=zCG f a size n++z6r f a size n:=rfl
def zAY(f:SF)(a:Int)(size:Nat):Nat→Nat→List Fd
 |_,0=> []
 |i,k+1=>z6r f a size i++zAY f a size (i+1) k
theorem z7v(f:SF)(a:Int)(size:Nat):∀k i,zAY f a size i (k+1)=zAY f a size i k++z6r f a size (i+k)
 |0,i=>by simp [zAY]
 |k+1,i=>by
  rw [zAY,z7v f a size k (i+1),zAY,List.append_assoc,show i+1+k=i+(k+1) by omega]
theorem zEE(f:SF)(a:Int)(size:Nat):∀n,zCG f a size n=zAY f a size 0 n
 |0=>rfl
 |n+1=>by rw [z2v,zEE f a size n,z7v,Nat.zero_add]
theorem zCr{f:SF}{a:Int}{size i q:Nat}{rs:List Rcd}(h:z3K f a size i=some (q,rs)):z6r f a size i= [⟨i,q,rs⟩]:=by unfold z6r;rw [h]
theorem z7y{f:SF}{a:Int}{size i:Nat}(h:z3K f a size i=none):z6r f a size i= []:=by unfold z6r;rw [h]
theorem zGA{f:SF}{a:Int}{size i:Nat}{x:Fd}(h:x∈z6r f a size i):x.at'=i∧z3K f a size i=some (x.base,x.recs):=by
 unfold z6r at h;cases hl:z3K f a size i with
 |none=>rw [hl]at h;cases h
 |some r=>
  obtain⟨q,rs⟩:=r;rw [hl]at h;simp only [List.mem_singleton]at h;subst h;exact⟨rfl,rfl⟩
theorem z4s{f:SF}{a:Int}{size:Nat}{x:Fd}:∀ {n},x∈zCG f a size n→x.at'<n∧z3K f a size x.at'=some (x.base,x.recs)
 |0,h=>by cases h
 |n+1,h=>by
  rw [z2v,List.mem_append]at h;rcases h with h|h
  ·have:=z4s h;exact⟨by omega,this.2⟩
  ·obtain⟨rfl,h2⟩:=zGA h;exact⟨by omega,h2⟩
theorem zCR(f:SF)(a:Int)(size:Nat):∀n,(zCG f a size n).length≤n
 |0=>by simp [zCG]
 |n+1=>by
  rw [z2v,List.length_append];have:=zCR f a size n;have:(z6r f a size n).length≤1:=by unfold z6r;split<;>simp
  omega
def z7K(frm:Nat)(b:Option Fd)(x:Fd):Option Fd:=if x.fits frm&&z4N b x then some x else b
theorem z5M(frm:Nat)(x:Fd)(xs:List Fd)(b:Option Fd):z1z frm (x::xs) b=z1z frm xs (z7K frm b x):=rfl
theorem z5e(frm:Nat):∀ (xs ys:List Fd) (b:Option Fd),z1z frm (xs++ys) b=z1z frm ys (z1z frm xs b)
 | [],_,_=>rfl
 |x::xs,ys,b=>by rw [List.cons_append,z5M,z5M,z5e frm xs ys]
theorem z9R(frm:Nat){x:Fd}:∀ (xs:List Fd) (b:Option Fd),z1z frm xs b=some x→x∈xs∨b=some x
 | [],_,h=> .inr h
 |y::ys,b,h=>by
  rw [z5M]at h;rcases z9R frm ys _ h with h1|h1
  ·exact .inl (List.mem_cons_of_mem _ h1)
  ·unfold z7K at h1;by_cases hc:(y.fits frm&&z4N b y)=true
   ·rw [if_pos hc]at h1;cases h1
    exact .inl (List.mem_cons_self ..)
   ·rw [if_neg hc]at h1;exact .inr h1
theorem zDP{all:List Fd}{live:List Sg}{last:Nat}{x:Fd}(h:zAG all live last=some x):x∈all∧x.base=(last+1)%U64∧z1O live x.at'=false:=by
 have h1:=List.find?_some h;simp only [Bool.and_eq_true,decide_eq_true_eq,Bool.not_eq_true']at h1;exact⟨List.mem_of_find?_eq_some h,h1.1,h1.2⟩
theorem z4v{D:Dsk}(h:D.Ok)(p:Int):∀n,(z4t D p n).Ok
 |0=>h
 |n+1=>(z4v h p n).free _
theorem zDN(D:Dsk)(x:Int):(D.free x).pend.length≤D.pend.length+1:=by
 unfold Dsk.free
 split
 ·show(D.pend++ [_]).length≤_;simp
 ·omega
theorem z5T(D:Dsk)(p:Int):∀n,(z4t D p n).pend.length≤D.pend.length+n
 |0=>Nat.le_refl _
 |n+1=>by
  have:=zDN (z4t D p n) (p+(n:Int));have:=z5T D p n;rw [z4t];omega
theorem z2M{D:Dsk}(h:D.Ok)(a:Int)(size:Nat)(live:List Sg):∀n,(z0c D a size live n).Ok
 |0=>h
 |n+1=>by
  rw [z0c]
  split
  ·exact z2M h a size live n
  ·exact z4v (z2M h a size live n) _ _
theorem z4h(D:Dsk)(a:Int)(size:Nat)(live:List Sg):∀n,(z0c D a size live n).pend.length≤D.pend.length+n*size
 |0=>by simp [z0c]
 |n+1=>by
  have h1:=z4h D a size live n;have h2:=z5T (z0c D a size live n) (a+(n:Int)*size) size;have h3:(n+1)*size=n*size+size:=by rw [Nat.add_mul,Nat.one_mul]
  rw [z0c]
  split<;>omega
theorem z4U(D:Dsk)(x:Int)(b:List UInt8):(D.write x b).pend.length≤D.pend.length+1:=by
 unfold Dsk.write
 split
 ·show(D.pend++ [_]).length≤_;simp
 ·omega
theorem zAn(p:Int)(b:List UInt8):∀ (m k:Nat) {D:Dsk},D.Ok→(z3y D p b m k).1.Ok
 |0,_,_,h=>h
 |m+1,k,D,h=>by
  rw [z3y]
  split
  ·split
   ·exact zAn p b m (k+1) (h.write _ _)
   ·exact h
  ·exact h
theorem zD2(live:List Sg)(s:Sg)(i:Nat):z1O (live++ [s]) i=(z1O live i||s.at'==i):=by simp [z1O]
theorem z3S{live:List Sg}{i:Nat}:z1O live i=true↔∃s∈live,s.at'=i:=by simp [z1O]
theorem z2n:∀ (n:Nat) (l:List Nat),l.Nodup→(∀x∈l,x<n)→l.length≤n
 |0,l,_,h=>by
  cases l with
  |nil=>simp
  |cons a l=>have:=h a (by simp);omega
 |n+1,l,hd,h=>by
  by_cases hm:n∈l
  ·have h1:=z2n n (l.erase n) (hd.erase n) (fun x hx=>by
    have h2:=(hd.mem_erase_iff).1 hx;have:=h x h2.2;have:=h2.1;omega)
   rw [List.length_erase_of_mem hm]at h1;omega
  ·have:=z2n n l hd (fun x hx=>by
    have h2:=h x hx;have:x≠n:=fun e=>hm (e▸hx)
    omega)
   omega
structure ChSt(all:List Fd)(frm n:Nat)(live:List Sg)(last:Nat)(out:List Rcd)(nx:Option Fd):Prop where
 eq:∃k,live.length+k=n+1∧z4B all frm k live last out nx=z4B all frm (n+1) [] frm [] (z1z frm all none)
 nd:(live.map (·.at')).Nodup
 lt:∀s∈live,s.at'<n
 nx:∀x,nx=some x→z1O live x.at'=false∧x∈all
 out:out.length≤live.length*40000
 last:last<U64
theorem ChSt.start{all:List Fd}{frm n:Nat}(hf:frm<U64):ChSt all frm n [] frm [] (z1z frm all none):=
 ⟨⟨n+1,by simp,rfl⟩,by simp,by simp,fun x h=>⟨rfl,(z9R frm _ _ h).resolve_right (by simp)⟩,by simp,hf⟩
theorem ChSt.len{all:List Fd}{frm n:Nat}{live:List Sg}{last:Nat}{out:List Rcd}{nx:Option Fd}(s:ChSt all frm n live last out nx):live.length≤n:=by
 have:=z2n n (live.map (·.at')) s.nd (fun x hx=>by
  obtain⟨y,hy,rfl⟩:=List.mem_map.1 hx;exact s.lt y hy)
 simpa using this
theorem ChSt.next{all:List Fd}{frm n:Nat}{live:List Sg}{last:Nat}{out:List Rcd}{x:Fd}(s:ChSt all frm n live last out (some x))(hall:∀y∈all,y.at'<n∧y.recs.length≤40000):
 ChSt all frm n (live++ [x.sg]) x.last (out++x.recs.filter fun r=>decide (frm<r.1)) (zAG all (live++ [x.sg]) x.last):=by
 obtain⟨k,hk,he⟩:=s.eq;obtain⟨hu,hx⟩:=s.nx x rfl;have hxn:=hall x hx;have hnd:((live++ [x.sg]).map (·.at')).Nodup:=by
  rw [List.map_append,List.nodup_append];refine⟨s.nd,by simp,fun a ha b hb=> ?_⟩;simp only [List.map_cons,List.map_nil,List.mem_singleton]at hb;subst hb;rintro rfl;obtain⟨y,hy,e⟩:=List.mem_map.1 ha;have:z1O live x.at'=true:=z3S.2 ⟨y,hy,e⟩;rw [hu]at this;cases this
 have hlt:∀s∈live++ [x.sg],s.at'<n:=fun y hy=>by
  rw [List.mem_append,List.mem_singleton]at hy;rcases hy with hy|rfl
  ·exact s.lt y hy
  ·exact hxn.1
 have hl:=z2n n _ hnd (fun z hz=>by
  obtain⟨y,hy,rfl⟩:=List.mem_map.1 hz;exact hlt y hy)
 rw [List.length_map,List.length_append,List.length_singleton]at hl;obtain⟨k,rfl⟩:∃j,k=j+1:=⟨k-1,by omega⟩;refine⟨⟨k,by rw [List.length_append,List.length_singleton];omega,?_⟩,hnd,hlt,fun y hy=> ?_,?_,?_⟩
 ·rw [←he,z4B]
 ·have:=zDP hy;exact⟨this.2.2,this.1⟩
 ·have h1:=List.length_filter_le (fun r:Rcd=>decide (frm<r.1)) x.recs;have h2:=s.out;rw [List.length_append,List.length_append,List.length_singleton];omega
 ·exact Nat.mod_lt _ (by unfold U64;omega)
theorem ChSt.end{all:List Fd}{frm n:Nat}{live:List Sg}{last:Nat}{out:List Rcd}(s:ChSt all frm n live last out none):z4B all frm (n+1) [] frm [] (z1z frm all none)=(live,last,out):=by
 obtain⟨k,_,he⟩:=s.eq;rw [←he];cases k<;>rfl
structure Wl.Ok(l:Wl):Prop where
 dok:l.D.Ok
 n2:2≤l.n
 n64:l.n≤64
 s1:1≤l.size
 s64:l.size≤64
 a0:0≤l.a
 a1:l.a+(l.n:Int)*l.size≤65536
 last:l.last<U64
 synced:l.synced<U64
 nd:(l.live.map (·.at')).Nodup
 lt:∀s∈l.live,s.at'<l.n
 str:l.stream≠ []→l.live≠ []
 slen:l.stream.length≤512*l.size
theorem Wl.Ok.len{l:Wl}(h:l.Ok):l.live.length≤l.n:=by
 have:=z2n l.n (l.live.map (·.at')) h.nd (fun x hx=>by
  obtain⟨y,hy,rfl⟩:=List.mem_map.1 hx;exact h.lt y hy)
 simpa using this
theorem Wl.Ok.am{l:Wl}(h:l.Ok):l.a≤65536:=by
 have:=h.a1;have h2:(0:Int)≤(l.n:Int)*l.size:=Int.mul_nonneg (by omega) (by omega);omega
theorem z8C:∀ (l:List Sg),(z46 l).map (·.at')=l.map (·.at')
 | []=>rfl
 | [s]=>rfl
 |s::t::r=>by
  have:=z8C (t::r);simp only [z46,List.map_cons]at this ⊢;rw [this]
theorem z5D(s:Sg):∀ (l:List Sg),z46 (l++ [s])=l++ [{s with count:=(s.count+1)%U64}]
 | []=>rfl
 | [t]=>rfl
 |t::u::r=>by
  have:=z5D s (u::r);simp only [List.cons_append,z46]at this ⊢;rw [this]
theorem z6h{live:List Sg}{n i:Nat}(h:z3Q live n=some i):i<n∧z1O live i=false:=by
 unfold z3Q at h;have h1:=List.find?_some h;have h2:=List.mem_of_find?_eq_some h;exact⟨List.mem_range.1 h2,by simpa using h1⟩
theorem zFT{live:List Sg}{n i:Nat}(hi:i<n)(hb:∀j,j<i→z1O live j=true)(hu:z1O live i=false):z3Q live n=some i:=by
 unfold z3Q;rw [List.find?_range_eq_some];exact⟨by simp [hu],List.mem_range.2 hi,fun j hj=>by simp [hb j hj]⟩
theorem zBK{live:List Sg}{n:Nat}(hb:∀j,j<n→z1O live j=true):z3Q live n=none:=by
 unfold z3Q;rw [List.find?_eq_none];intro x hx;simp [hb x (List.mem_range.1 hx)]
structure ApC(l:Wl)(q:Nat)(head b:List UInt8)(L:List Sg)(s:List UInt8)(i:Nat)(fr:Bool):Prop where
 fresh:fr=true→(l.stream= []∨512*l.size<l.stream.length+b.length)∧z3Q l.live l.n=some i∧L=l.live++ [⟨i,q,0⟩]∧s=head
 old:fr=false→¬ (l.stream= []∨512*l.size<l.stream.length+b.length)∧L=l.live∧s=l.stream∧((l.live.getLast?).map (·.at')).getD 0=i
def z1L(l:Wl)(fr:Bool):Nat:=if fr then 0 else l.stream.length
section
variable {l:Wl} {q:Nat} {t head b:List UInt8} {L:List Sg} {s:List UInt8} {i:Nat} {fr:Bool}
theorem z40(hq:q=(l.last+1)%U64)(hh:head=z6u q titleB)(hb:b=z6u q t)(ht:¬ (32768<t.length∨512*l.size<head.length+b.length))(c:ApC l q head b L s i fr)
 {r:Dsk×Nat} (hr:z3y l.D (l.a+(i:Int)*l.size) (s++b) (s++b).length (z1L l fr / 512)=r) (h0:r.2=0):
 z0P l t=({l with D:=r.1,live:=z46 L,stream:=s++b,last:=q},q,0):=by
 subst hq hh hb;unfold z0P;rw [if_neg ht];cases fr with
 |true=>
  obtain⟨h1,h2,rfl,rfl⟩:=c.fresh rfl;rw [if_pos h1,h2];simp only [z1L,if_true,Nat.zero_div]at hr;simp only [hr,h0,if_true]
 |false=>
  obtain⟨h1,rfl,rfl,h4⟩:=c.old rfl;rw [if_neg h1];simp only [z1L,Bool.false_eq_true,if_false]at hr;simp only [h4,hr,h0,if_true]
theorem z5V(hq:q=(l.last+1)%U64)(hh:head=z6u q titleB)(hb:b=z6u q t)(ht:¬ (32768<t.length∨512*l.size<head.length+b.length))(c:ApC l q head b L s i fr)
 {r:Dsk×Nat} (hr:z3y l.D (l.a+(i:Int)*l.size) (s++b) (s++b).length (z1L l fr / 512)=r) (h0:r.2≠0):
 z0P l t=(if fr then(({l with D:=z4t r.1 (l.a+(i:Int)*l.size) l.size,stream:= []}:Wl).sync,0,r.2)else({l with D:=r.1,stream:= []},0,r.2)):=by
 subst hq hh hb;unfold z0P;rw [if_neg ht];cases fr with
 |true=>
  obtain⟨h1,h2,rfl,rfl⟩:=c.fresh rfl;rw [if_pos h1,h2];simp only [z1L,if_true,Nat.zero_div]at hr;simp only [hr,h0,if_true,if_false]
 |false=>
  obtain⟨h1,rfl,rfl,h4⟩:=c.old rfl;rw [if_neg h1];simp only [z1L,Bool.false_eq_true,if_false]at hr;simp only [h4,hr,h0,if_false,Bool.false_eq_true]
theorem ApC.lens(c:ApC l q head b L s i fr)(ok:l.Ok)(ht:¬ (32768<t.length∨512*l.size<head.length+b.length)):
 (s++b).length≤512*l.size∧i<l.n∧z1L l fr≤(s++b).length∧z1O l.live i= !fr∧L.length≤l.n:=by
 cases fr with
 |true=>
  obtain⟨h1,h2,rfl,rfl⟩:=c.fresh rfl;have h3:=z6h h2;refine⟨by rw [List.length_append];omega,h3.1,by simp [z1L],h3.2,?_⟩;have hnd:((l.live++ [(⟨i,q,0⟩:Sg)]).map (fun s:Sg=>s.at')).Nodup:=by
   rw [List.map_append,List.nodup_append];refine⟨ok.nd,by simp,fun x hx y hy e9=> ?_⟩;simp only [List.map_cons,List.map_nil,List.mem_singleton]at hy;obtain⟨z,hz,e⟩:=List.mem_map.1 hx;have:z1O l.live i=true:=z3S.2 ⟨z,hz,(e.trans e9).trans hy⟩;rw [h3.2]at this;cases this
  have:=z2n l.n _ hnd (fun x hx=>by
   rw [List.map_append,List.mem_append]at hx;rcases hx with hx|hx
   ·obtain⟨z,hz,rfl⟩:=List.mem_map.1 hx;exact ok.lt z hz
   ·simp only [List.map_cons,List.map_nil,List.mem_singleton]at hx;rw [hx];exact h3.1)
  simpa using this
 |false=>
  obtain⟨h1,rfl,rfl,h4⟩:=c.old rfl;have hne:l.live≠ []:=ok.str (fun e=>h1 (.inl e));have hm:=List.getLast_mem hne;rw [List.getLast?_eq_some_getLast hne]at h4;simp only [Option.map_some,Option.getD_some]at h4;subst h4;refine⟨by rw [List.length_append];omega,ok.lt _ hm,by simp [z1L],?_,ok.len⟩;simp only [Bool.not_false];exact z3S.2 ⟨_,hm,rfl⟩
theorem ApC.ne(c:ApC l q head b L s i fr)(ok:l.Ok):∃L0 s0,L=L0++ [s0]∧s0.at'=i:=by
 cases fr with
 |true=>
  obtain⟨h1,h2,rfl,rfl⟩:=c.fresh rfl;exact⟨_,_,rfl,rfl⟩
 |false=>
  obtain⟨h1,rfl,rfl,h4⟩:=c.old rfl;have hne:l.live≠ []:=ok.str (fun e=>h1 (.inl e));rw [List.getLast?_eq_some_getLast hne]at h4;simp only [Option.map_some,Option.getD_some]at h4;exact⟨_,_,(List.dropLast_concat_getLast hne).symm,h4⟩
theorem ApC.ok(c:ApC l q head b L s i fr)(ok:l.Ok)(hq:q<U64)(ht:¬ (32768<t.length∨512*l.size<head.length+b.length)){D:Dsk}(hD:D.Ok):({l with D:=D,live:=z46 L,stream:=s++b,last:=q}:Wl).Ok:=by
 have hl:=c.lens (t:=t) ok ht;have hin:(L.map (·.at')).Nodup∧∀x∈L,x.at'<l.n:=by
  cases fr with
  |true=>
   obtain⟨h1,h2,rfl,rfl⟩:=c.fresh rfl;have h3:=z6h h2;refine⟨?_,fun x hx=> ?_⟩
   ·rw [List.map_append,List.nodup_append];refine⟨ok.nd,by simp,fun x hx y hy e9=> ?_⟩;simp only [List.map_cons,List.map_nil,List.mem_singleton]at hy;obtain⟨z,hz,e⟩:=List.mem_map.1 hx;have:z1O l.live i=true:=z3S.2 ⟨z,hz,(e.trans e9).trans hy⟩;rw [h3.2]at this;cases this
   ·rw [List.mem_append,List.mem_singleton]at hx;rcases hx with hx|rfl
    ·exact ok.lt x hx
    ·exact h3.1
  |false=>
   obtain⟨h1,rfl,rfl,h4⟩:=c.old rfl;exact⟨ok.nd,ok.lt⟩
 refine⟨hD,ok.n2,ok.n64,ok.s1,ok.s64,ok.a0,ok.a1,hq,ok.synced,by rw [z8C];exact hin.1,fun x hx=> ?_,fun _ e=> ?_,hl.1⟩
 ·have:x.at'∈(z46 L).map (·.at'):=List.mem_map.2 ⟨x,hx,rfl⟩;rw [z8C]at this;obtain⟨z,hz,e⟩:=List.mem_map.1 this;rw [←e];exact hin.2 z hz
 ·obtain⟨L0,s0,rfl,_⟩:=c.ne ok;have e2:(z46 (L0++ [s0]))= []:=e;rw [z5D]at e2;simp at e2
end
theorem Wl.Ok.drop{l:Wl}(ok:l.Ok){D:Dsk}(hD:D.Ok):({l with D:=D,stream:= []}:Wl).Ok:=⟨hD,ok.n2,ok.n64,ok.s1,ok.s64,ok.a0,ok.a1,ok.last,ok.synced,ok.nd,ok.lt,fun h=>(h rfl).elim,Nat.zero_le _⟩
theorem Wl.Ok.sync{l:Wl}(ok:l.Ok):l.sync.Ok:=⟨ok.dok.sync,ok.n2,ok.n64,ok.s1,ok.s64,ok.a0,ok.a1,ok.last,ok.last,ok.nd,ok.lt,ok.str,ok.slen⟩
structure Sb where
 at':Nat
 base:Nat
 bs:List (List UInt8)
section
variable {l:Wl} {SB:List Sb}
end
section
variable {l:Wl} {SB:List Sb}
end
section
variable {l:Wl} {SB:List Sb}
end
end
section
open Go Go.RowKit
def SameK(ks:List (Option TypeId))(w w':World):Prop:=∀b t,t∈ks→z0E w b=some t→w'.heap[b]? =w.heap[b]?
section
variable {ks:List (Option TypeId)} {w w1 w2:World}
theorem SameK.refl(w:World):SameK ks w w:=fun _ _ _ _=>rfl
theorem z9u{w w':World}{b:Nat}{t:Option TypeId}(h:w'.heap[b]? =w.heap[b]?)(hk:z0E w b=some t):z0E w' b=some t:=by unfold z0E at hk ⊢;rw [h];exact hk
theorem SameK.trans(h:SameK ks w w1)(k:SameK ks w1 w2):SameK ks w w2:=fun b t ht hk=>
 (k b t ht (z9u (h b t ht hk) hk)).trans (h b t ht hk)
theorem SameK.below(h:Below w.heap.size w w1):SameK ks w w1:=fun b t _ hk=>h.block b (z2Z hk)
theorem SameK.not{b:Nat}{t t':Option TypeId}(hk:z0E w b=some t)(ht:t∉ks)(hk':z0E w b=some t'):t'∉ks:=by
 rw [hk]at hk';injection hk' with hk'
 subst hk';exact ht
theorem SameK.setCell{p:Addr}{t:TypeId}{cs:Array Value}(hb:Blk w p.block t cs)(ht:some t∉ks)(u:Value):SameK ks w (w.setCell p u):=fun b t' ht' hk=>
 Below.heap_setCell w p u b fun e=>by
  subst e;exact SameK.not (z0F hb) ht hk ht'
theorem SameK.less{ks':List (Option TypeId)}(h:SameK ks w w1)(hs:∀t∈ks',t∈ks):SameK ks' w w1:=fun b t ht hk=>h b t (hs t ht) hk
theorem KSl.same{e:TypeId}{size n:Nat}{v:Value}{xs:List Value}(h:KSl e size w v n xs)(hs:SameK ks w w1)(he:some e∈ks):KSl e size w1 v n xs:=h.keep fun b hb=>hs b _ he hb
theorem Blk.sameK{g:Nat}{t:TypeId}{cs:Array Value}(h:Blk w g t cs)(hs:SameK ks w w1)(ht:some t∈ks):Blk w1 g t cs:=(hs g _ ht (z0F h)).trans h
theorem MpV.sameK{P:Program}{k:TypeId}{b n:Nat}{f:Int→Option Value}(h:MpV P k w b f n)(hk:z0E w b=some none)(hs:SameK ks w w1)(ht:none∈ks):MpV P k w1 b f n:=h.at (hs b _ ht hk)
theorem Ow.same{e:TypeId}{B:Nat}{v:Value}{xs:List Value}(h:Ow e w B v xs)(hs:SameK ks w w1)(ht:some e∈ks):Ow e w1 B v xs:=by
 obtain⟨h1,h2⟩:=h;refine⟨h1,?_⟩;have hk:=fun b=>z1E (b:=b) (show w.ownsRow B e 1 v xs.length xs from⟨h1,h2⟩)
 rcases h2 with h2|⟨g,cap,cur,hv,hg,hh,r⟩
 ·exact .inl h2
 ·exact .inr ⟨g,cap,cur,hv,hg,(hs g _ ht (hk g (by rw [hv];rfl))).trans hh,r⟩
end
def rcs(rs:List (Nat×List UInt8)):List Value:=rs.flatMap fun r=> [.int .u64 (r.1:Int),.string (st r.2)]
theorem z5P(a b:List (Nat×List UInt8)):rcs (a++b)=rcs a++rcs b:=by simp [rcs]
theorem zAr(rs:List (Nat×List UInt8)):∀u∈rcs rs,u.oneCell'=true:=by
 intro u hu;obtain⟨r,_,hu⟩:=List.mem_flatMap.1 hu;simp at hu;rcases hu with rfl|rfl<;>rfl
theorem zAd:Elem Tryz.prog 169 173 (.agg #[.int .u64 0,.string ⟨#[]⟩]) 2 24:=Elem.mk' Tryz.underlying169 (by kernel_rfl) rfl (by omega)
def Ro(w:World)(B:Nat)(v:Value)(rs:List (Nat×List UInt8)):Prop:=w.ownsRow B 173 2 v rs.length (rcs rs)
theorem z2a{P:Program}{w:World}{ops:Array Oper}{o:Oper}{a:Act}{K:Act→World→Prop}{Q:Exit→Act→World→Prop}{F:Prop}(w0:World)(hd:zGr w0 w)(hgd:o.guard=none)(s x:Operand){t e:TypeId}{z:Value}{size bytes:Nat}
 (E:Elem P t e z size bytes) (ho:o.op= .call {callee:= .builtin .append,args:= #[s,x],argTypes:= #[t,t]})
 {base:Nat} {v:Value} {n:Nat} {xs:List Value} (hown:w0.ownsRow base e size v n xs)
 {S:Nat→Prop} {u:Value} {m:Nat} {news:List Value} (hr:Sl S w0 size u m news) (hs:a.eval s=v) (hx:a.eval x=u) (h1:∀y∈news,y.oneCell'=true)
 (hlen:n+m≤maxLen) (hbytes:(n+m)*bytes≤140737488355328) (hbase:base≤w0.heap.size)
 (h:∀A k c w',w'.ownsRow base e size (.slice A k c) (n+m) (xs++news)→w0.grownBy w' v.ownBlock→K (a.put o.dst (.slice A k c)) w'):
 if Region.wanted o (yielded ops a.tmps)=true then Oper.wp P o a w K Q else F:=by
 have hw:Region.wanted o (yielded ops a.tmps)=true:=by simp [Region.wanted,hgd]
 rw [if_pos hw];obtain⟨d,rfl⟩:=hd;obtain⟨v',w',hrun,h2,h3,h4⟩:=z1b (P:=P) (w0.drewN d) E o.type hown (Sl.drewN hr d) h1 hlen hbytes hbase;obtain⟨A,k,c,rfl⟩:=z0p h2;unfold Oper.wp execOp;simp only [ho,resolve,invoke,builtin,Sem.run_bind,Sem.run_pure,Result.andThen_ok,List.map_toArray,List.map_cons,List.map_nil,hs,hx,hrun];exact h A k c w' h2 ⟨h3.os,h3.tape,h3.output,h3.size,h3.block⟩
theorem Sl.newrec{S:Nat→Prop}(w:World)(r:Nat×List UInt8){g:Nat}(hg:g=w.heap.size)(hS:S g):
 Sl S (w.alloc (.cells #[.int .u64 (r.1:Int),.string (st r.2)] 173)) 2 (.slice (some ⟨g,0,none⟩) 1 1) 1 (rcs [r]):=by
 subst hg;refine⟨by simp [rcs],_,1,rfl,by simp,by simp [maxLen],(fun h=>by cases h),fun _=>⟨_,0,rfl,hS,fun j v hu=> ?_⟩⟩;rw [World.cell?_alloc_new];rw [Nat.zero_add];simpa [rcs]using hu
theorem ro_two{w:World}{B:Nat}{v:Value}{rs:List (Nat×List UInt8)}{r:Nat×List UInt8}{e:TypeId}{t u:TypeId}{b b':Nat}{cs cs':Array Value}(h:w.ownsRow B e 2 v (rs.length+1) (rcs rs++rcs [r]))(hb:Blk w b t cs)(hb':Blk w b' u cs')(h1:e≠t)(h2:e≠u)(hne:b≠b')(x y:Value):
 ((w.setCell ⟨b,0,none⟩ x).setCell ⟨b',0,none⟩ y).ownsRow B e 2 v (rs++ [r]).length (rcs (rs++ [r])):=by
 rw [z5P,List.length_append];exact z1m (z1m h hb h1 0 x) (hb'.far (p:=⟨b,0,none⟩) hne.symm x) h2 0 y
theorem zH4(bl ba B:Nat)(A:Option Addr)(k c:Nat)(rs:List (Nat×List UInt8))(r:Nat×List UInt8)(n a:Nat)(w:World)
 (hl:Blk w bl 169 #[.slice A k c]) (ha:Blk w ba 3 #[.int .i64 (a:Int)]) (hown:Ro w B (.slice A k c) rs) (hB:B≤w.heap.size) (hbl:B≤bl) (hba:B≤ba) (hrs:rs.length≤1099511627776) (hna:a+n≤1099511627776):
 Calls Tryz.prog 174 #[zBr r,.int .i64 n,.pointer (some ⟨bl,0,none⟩),.pointer (some ⟨ba,0,none⟩)] w fun e w'=>e= .returned (.tuple #[])∧∃A' k' c',
  Blk w' bl 169 #[.slice A' k' c']∧Blk w' ba 3 #[.int .i64 ((a+n:Nat):Int)]∧Ro w' B (.slice A' k' c') (rs++ [r])∧Below B w w':=by
 obtain⟨q,t⟩:=r;unfold zBr;have c0:(w.alloc (.cells #[.int .u64 (q:Int),.string (st t)] 173)).cell? ⟨bl,0,none⟩=some (.slice A k c):=(hl.alloc _).cell 0;have c1:(w.alloc (.cells #[.int .u64 (q:Int),.string (st t)] 173)).cell? ⟨ba,0,none⟩=some (.int .i64 (a:Int)):=(ha.alloc _).cell 0;have hwr:IntKind.i64.wrap ((a:Int)+(n:Int))=((a+n:Nat):Int):=by rw [IntWalk.i64_in _ (by omega)];omega
 simp only;have hown1:(w.alloc (.cells #[.int .u64 (q:Int),.string (st t)] 173)).ownsRow B 173 2 (.slice A k c) rs.length (rcs rs):=World.ownsRow.alloc hown _;have q1:Below B w (w.alloc (.cells #[.int .u64 (q:Int),.string (st t)] 173)):=(Below.refl _ _).alloc hB _;have hl1:=hl.alloc (.cells #[.int .u64 (q:Int),.string (st t)] 173);have ha1:=ha.alloc (.cells #[.int .u64 (q:Int),.string (st t)] 173);have hn:=Blk.new w 173 #[.int .u64 (q:Int),.string (st t)];have hsz:B≤(w.alloc (.cells #[.int .u64 (q:Int),.string (st t)] 173)).heap.size:=by simp;omega
 go_enter Tryz.func174,Tryz.ntmps174
 go_wp2_with fail
 generalize hw1:w.alloc (.cells #[.int .u64 (q:Int),.string (st t)] 173)=w1 at*;have d0:w1.cell? ⟨w.heap.size,0,none⟩=some (.int .u64 (q:Int)):=hn.cell 0;have d1:w1.cell? ⟨w.heap.size,1,none⟩=some (.string (st t)):=hn.cell 1;have a0:(w1.alloc (.cells #[.int .u64 (q:Int),.string (st t)] 173)).cell? ⟨bl,0,none⟩=some (.slice A k c):=(hl1.alloc _).cell 0;have a1:(w1.alloc (.cells #[.int .u64 (q:Int),.string (st t)] 173)).cell? ⟨ba,0,none⟩=some (.int .i64 (a:Int)):=(ha1.alloc _).cell 0;have a2:(w1.alloc (.cells #[.int .u64 (q:Int),.string (st t)] 173)).cell? ⟨w.heap.size,0,none⟩=some (.int .u64 (q:Int)):=(hn.alloc _).cell 0;have a3:(w1.alloc (.cells #[.int .u64 (q:Int),.string (st t)] 173)).cell? ⟨w.heap.size,1,none⟩=some (.string (st t)):=(hn.alloc _).cell 1;have f0:=hl1.free 0;have f1:=ha1.free 0;have HO:=zz hown1;have hne:bl≠ba:=Blk.ne hl ha (by decide);have hne2:ba≠bl:=hne.symm;clear hw1 hown hl ha hn hown1;go_region_law (refine z2a (w1.alloc (.cells #[.int .u64 (q:Int),.string (st t)] 173)) (by first|exact⟨0,rfl⟩|exact⟨1,rfl⟩|exact⟨2,rfl⟩|exact⟨3,rfl⟩) rfl (.tmp 6) (.tmp 8) zAd rfl (World.ownsRow.alloc HO.out _) (Sl.newrec (S:=fun _=>True) _ (q,t) rfl trivial) rfl rfl (zAr _) (by simp only [maxLen];omega) (by omega) (by simp;omega) ?_;intro A2 k2 c2 w2 hown2 hg2;have hl2:=(hl1.alloc _).kept (World.ownsRow.alloc HO.out _) hg2 (by decide);have ha2:=(ha1.alloc _).kept (World.ownsRow.alloc HO.out _) hg2 (by decide);have g0:=hl2.free 0;have g1:=ha2.free 0;have g2:=hl2.cell 0;have g3:=ha2.cell 0;simp at g2 g3)
 all_goals
  go_wp2_with fail
  go_end0
  exact⟨rfl,A2,k2,c2,(hl2.put1 _).far (p:=⟨ba,0,none⟩) hne _,by rw [Int.natCast_add];exact(ha2.far (p:=⟨bl,0,none⟩) hne2 _).put1 _,ro_two hown2 hl2 ha2 (by decide) (by decide) hne _ _,((z02 (q1.alloc hsz _) (World.ownsRow.alloc HO.out _) hg2 (by simp;omega)).setCell hbl _).setCell hba _⟩
theorem Ro.nil(w:World)(B:Nat):Ro w B (.slice none 0 0) []:=World.ownsRow_nil w B _ 2
theorem Ro.later{w w':World}{B:Nat}{v:Value}{rs:List (Nat×List UInt8)}(h:Ro w B v rs)(hb:Below w.heap.size w w'):Ro w' B v rs:=by
 obtain⟨h1,h2⟩:=h;refine⟨h1,?_⟩;rcases h2 with h2|⟨g,cap,cur,hv,hg,hh,r⟩
 ·exact .inl h2
 ·exact .inr ⟨g,cap,cur,hv,hg,(hb.block g (lt_of_block hh)).trans hh,r⟩
theorem Ro.len{w:World}{B:Nat}{A:Option Addr}{k c:Nat}{rs:List (Nat×List UInt8)}(h:Ro w B (.slice A k c) rs):k=rs.length:=z0V h
theorem z5b{k:Nat}{l:List UInt8}{f:Nat}(h:z0e l=none):z0j (k+1) l f=([],0):=by rw [z0j,h]
theorem z4o{k:Nat}{l:List UInt8}{f:Nat}{r:Nat×List UInt8}{n:Nat}(h:z0e l=some (r,n))(hq:¬r.1=f%U64):z0j (k+1) l f=([],0):=by
 rw [z0j,h];simp only;rw [if_neg hq]
theorem z5k{k:Nat}{l:List UInt8}{f:Nat}{r:Nat×List UInt8}{n:Nat}(h:z0e l=some (r,n))(hq:r.1=f%U64):
 z0j (k+1) l f=(r::(z0j k (l.drop n) (f+1)).1,n+(z0j k (l.drop n) (f+1)).2):=by
 rw [z0j,h];simp only;rw [if_pos hq]
structure ScSt(l:List UInt8)(first i:Nat)(rs:List (Nat×List UInt8))(a:Nat):Prop where
 le:a≤l.length
 len:rs.length≤i
 all:z0j l.length l first=(rs++(z0j (l.length-i) (l.drop a) (first+i)).1,a+(z0j (l.length-i) (l.drop a) (first+i)).2)
theorem ScSt.zero(l:List UInt8)(first:Nat):ScSt l first 0 [] 0:=⟨Nat.zero_le _,Nat.le_refl _,by simp⟩
theorem ScSt.stop{l:List UInt8}{first i:Nat}{rs:List (Nat×List UInt8)}{a:Nat}(h:ScSt l first i rs a)(hi:i<l.length)(hn:z0j (l.length-i-1+1) (l.drop a) (first+i)=([],0)):z0j l.length l first=(rs,a):=by
 rw [h.all,show l.length-i=l.length-i-1+1 by omega,hn];simp
theorem ScSt.next{l:List UInt8}{first i:Nat}{rs:List (Nat×List UInt8)}{a:Nat}(h:ScSt l first i rs a)(hi:i<l.length){r:Nat×List UInt8}{n:Nat}(hg:z0e (l.drop a)=some (r,n))(hq:r.1=(first+i)%U64):ScSt l first (i+1) (rs++ [r]) (a+n):=by
 have hn:=z5X hg;rw [List.length_drop]at hn;refine⟨by have:=h.le;omega,by have:=h.len;rw [List.length_append,List.length_singleton];omega,?_⟩;rw [h.all,show l.length-i=l.length-(i+1)+1 by omega,z5k hg hq,List.drop_drop,←Nat.add_assoc];simp [Nat.add_assoc]
theorem ScSt.end{l:List UInt8}{first:Nat}{rs:List (Nat×List UInt8)}{a:Nat}(h:ScSt l first l.length rs a):z0j l.length l first=(rs,a):=by
 rw [h.all,Nat.sub_self,z0j];simp
theorem z4P(a b:Nat):IntKind.u64.wrap ((a:Int)+(b:Int))=(((a+b)%U64:Nat):Int):=by
 simp only [IntKind.wrap,IntKind.bits,IntKind.signed];rw [Int.natCast_emod];rfl
theorem zE7(S:Nat→Prop)(v0:Value)(l:List UInt8)(first:Nat)(w:World)(hl:l.length≤1099511627776)(hf:first<U64)(hr:Bs S w v0 l):
 Calls Tryz.prog 153 #[v0,.int .u64 first] w fun e w'=>∃A k c,e= .returned (.tuple #[.slice A k c,.int .i64 ((z0j l.length l first).2:Int)])∧Ro w' w.heap.size (.slice A k c) (z0j l.length l first).1∧Below w.heap.size w w':=by
 have HR:Hid (Bs (fun b=>b<w.heap.size) w v0 l):=(Sl.lt hr (by omega)).more (fun _ h=>h.2);obtain⟨A,c,rfl,hlc,hcm,hA0,hA⟩:=hr.at;have HA:=zz hA;have hmf:=z0K Tryz.prog;have HF:Hid (first<U64):=hf;have R0:Blk ((w.alloc (.cells #[.slice none 0 0] 169)).alloc (.cells #[.int .i64 ((0:Nat):Int)] 3)) w.heap.size 169 #[.slice none 0 0]∧
  Blk ((w.alloc (.cells #[.slice none 0 0] 169)).alloc (.cells #[.int .i64 ((0:Nat):Int)] 3)) (w.heap.size+1) 3 #[.int .i64 ((0:Nat):Int)]∧
  Below w.heap.size w ((w.alloc (.cells #[.slice none 0 0] 169)).alloc (.cells #[.int .i64 ((0:Nat):Int)] 3)):=by
  refine⟨(Blk.new w _ _).alloc _,?_,((Below.refl _ _).alloc (Nat.le_refl _) _).alloc (by simp) _⟩;have:=Blk.new (w.alloc (.cells #[.slice none 0 0] 169)) 3 #[.int .i64 ((0:Nat):Int)];simpa using this
 clear hA hr hA0 hf;go_enter Tryz.func153,Tryz.ntmps153
 go_wp2_with fail
 go_loopw [16] (fun iv wr=>∃ (i:Nat) (A':Option Addr) (k' c':Nat) (rs:List (Nat×List UInt8)) (a:Nat),iv= .int .i64 (i:Int)∧i≤l.length∧Blk wr w.heap.size 169 #[.slice A' k' c']∧Blk wr (w.heap.size+1) 3 #[.int .i64 (a:Int)]∧
  Ro wr w.heap.size (.slice A' k' c') rs∧ScSt l first i rs a∧Below w.heap.size w wr) (fun iv _=>l.length-(intOf iv).toNat)
 case atStart=>exact⟨0,none,0,0,[],0,rfl,by omega,R0.1,R0.2.1,Ro.nil _ _,ScSt.zero _ _,R0.2.2⟩
 case round=>
  obtain⟨i,A',k',c',rs,a,rfl,hi,hbl,hba,hro,hst,hbw⟩:=hrel;clear R0;have hsz:=hbw.size;by_cases hil:i<l.length
  ·obtain⟨b,o,rfl,_,_⟩:=HA.out (by omega);have hal:=hst.le;have hst0:=hst.len;have e2:Hid (a+(l.drop a).length≤l.length):=by rw [Hid,List.length_drop];omega
   have c1:wr.cell? ⟨w.heap.size+1,0,none⟩=some (.int .i64 (a:Int)):=hba.cell 0;have hcut:=Bs.cut (Sl.below HR.out hbw (fun _ h=>h)) hal;have HST:=zz hst;have HBL:=zz hbl;have HBA:=zz hba;have HRO:=zz hro;have hdl:(l.drop a).length≤1099511627776:=by rw [List.length_drop];omega
   clear hst hbl hba hro;obtain⟨m,hm⟩:∃m,l.drop a=m:=⟨_,rfl⟩;have HM:=zz hm;rw [hm]at hcut hdl e2;clear hm;by_cases hca:c=a
   case' pos=>
    rw [if_pos hca]at hcut;subst hca;rw [Nat.sub_self,show l.length-c=0 by omega]at hcut;have HC:=zz hcut;clear hcut;go_wp2_with fail
    refine(z4j _ _ m wr hdl HC.out).mono ?_
   case' neg=>
    rw [if_neg hca]at hcut;have HC:=zz hcut;clear hcut;go_wp2_with fail
    refine(z4j _ _ m wr hdl HC.out).mono ?_
   all_goals
    rintro e w1 ⟨rfl,hbl1⟩;cases hg:z0e m with
    |none=>
     have HE:=zz (HST.out.stop hil (z5b (by rw [HM.out];exact hg)));have HRO1:=zz (HRO.out.later hbl1);have hb1:=(HBL.out.later hbl1).alloc (.cells #[.int .u64 0,.string (st [])] 173);have hb2:=(HBA.out.later hbl1).alloc (.cells #[.int .u64 0,.string (st [])] 173);have e0:(w1.alloc (.cells #[.int .u64 0,.string (st [])] 173)).cell? ⟨w.heap.size,0,none⟩=some (.slice A' k' c'):=hb1.cell 0;have e1:=hb2.cell 0;have q1:=hbw.trans (hbl1.mono hsz);unfold z7O zBr;clear hbl1 c1 hg;go_wp2_with fail
     go_quiet (fail)
     go_wp2_with fail
     go_ret2
     rw [HE.out];exact⟨A',k',c',rfl,HRO1.out.later (below_drewN ((Below.refl _ _).alloc (Nat.le_refl _) _) _),below_drewN (q1.alloc q1.size _) _⟩
    |some rn=>
     obtain⟨⟨q,t⟩,n⟩:=rn;have hgl:=z5X hg;have HRO1:=zz (HRO.out.later hbl1);have hb1:=(HBL.out.later hbl1).alloc (.cells #[.int .u64 (q:Int),.string (st t)] 173);have hb2:=(HBA.out.later hbl1).alloc (.cells #[.int .u64 (q:Int),.string (st t)] 173);have q1:=hbw.trans (hbl1.mono hsz);have hwr:IntKind.u64.wrap ((first:Int)+(i:Int))=(((first+i)%U64:Nat):Int):=z4P first i
     by_cases hq:q=(first+i)%U64
     ·have HE:=zz (HST.out.next hil (r:=(q,t)) (n:=n) (by rw [HM.out];exact hg) hq);have HM2:=zz hgl;rw [←hq]at hwr;have HRL:=zz hst0;unfold z7O zBr;clear hbl1 c1 hg hq;have q2:=q1.alloc q1.size (.cells #[.int .u64 (q:Int),.string (st t)] 173);have hs2:=q2.size;go_wp2_with fail
      refine(zH4 w.heap.size (w.heap.size+1) w.heap.size _ _ _ rs (q,t) n _ _ hb1 hb2 (HRO1.out.later ((Below.refl _ _).alloc (Nat.le_refl _) _)) hs2 (Nat.le_refl _) (by omega) (by have:=HRL.out;omega) (by have:=HM2.out.2;have:=e2.out;omega)).mono ?_;rintro e w3 ⟨rfl,A3,k3,c3,hbl3,hba3,hro3,hbw3⟩;go_wp2_with fail
      go_roundw
      case rel=>exact⟨i+1,A3,k3,c3,_,_,by go_num,by omega,hbl3,hba3,hro3,HE.out,q2.trans hbw3⟩
      case measure=>simp [intOf];omega
     ·have HE:=zz (HST.out.stop hil (z4o (by rw [HM.out];exact hg) hq));have e0:(w1.alloc (.cells #[.int .u64 (q:Int),.string (st t)] 173)).cell? ⟨w.heap.size,0,none⟩=some (.slice A' k' c'):=hb1.cell 0;have e1:=hb2.cell 0;have t1:((q:Int) != (((first+i)%U64:Nat):Int))=true:=by rw [bne_iff_ne];omega
      generalize (first+i)%U64=fi at*;unfold z7O zBr;clear hbl1 c1 hg hq;go_wp2_with fail
      go_quiet (fail)
      go_wp2_with fail
      go_ret2
      rw [HE.out];exact⟨A',k',c',rfl,HRO1.out.later (below_drewN ((Below.refl _ _).alloc (Nat.le_refl _) _) _),below_drewN (q1.alloc q1.size _) _⟩
  ·obtain rfl:i=l.length:=by omega
   have HE:=zz hst.end;have c0:wr.cell? ⟨w.heap.size,0,none⟩=some (.slice A' k' c'):=hbl.cell 0;have c1:wr.cell? ⟨w.heap.size+1,0,none⟩=some (.int .i64 (a:Int)):=hba.cell 0;go_wp2_with fail
   go_quiet (fail)
   go_wp2_with fail
   go_ret2
   rw [HE.out];exact⟨A',k',c',rfl,hro,below_drewN hbw _⟩
def lgC(hg:Nat)(a:Int)(n size:Nat)(lv sv:Value)(last synced:Nat):Array Value:=
 #[.pointer (some ⟨hg,0,none⟩),.int .i64 a,.int .i64 (n:Int),.int .i64 (size:Int),lv,sv,.int .u64 (last:Int),.int .u64 (synced:Int)]
abbrev Lb(w:World)(gl:Nat)(hg:Nat)(a:Int)(n size:Nat)(lv sv:Value)(last synced:Nat):Prop:=Blk w gl 219 (lgC hg a n size lv sv last synced)
theorem i64_in{x:Int}(h0: -9223372036854775808≤x)(h1:x≤9223372036854775807):IntKind.i64.wrap x=x:=by
 simp [IntKind.wrap,IntKind.bits,IntKind.signed];omega
structure BySt(w wr:World)(f:SF)(p:Int)(size k:Nat)(v:Value)(out:List UInt8):Prop where
 hk:k≤size
 all:z1Z f p size=out++z1Z f (p+(k:Int)) (size-k)
 len:out.length≤512*k
 own:Ob 5 wr w.heap.size v out
 below:Below w.heap.size w wr
theorem BySt.full{w wr w2:World}{f:SF}{p:Int}{size k:Nat}{v v':Value}{out b:List UInt8}(s:BySt w wr f p size k v out)(hk:k<size)(hb:f (p+(k:Int))=some b)(hb1:¬b.length<512)(hb2:b.length≤512)(ho:Ob 5 w2 w.heap.size v' (out++b))(hq:Below w.heap.size w w2):
 BySt w w2 f p size (k+1) v' (out++b):=by
 refine⟨hk,?_,by rw [List.length_append];have:=s.len;omega,ho,hq⟩;rw [s.all,show size-k=size-(k+1)+1 by omega,zB3 hb hb1,List.append_assoc]
 congr 3
 push_cast
 omega
theorem zAt(h:Zn)(D:Dsk)(gl:Nat)(a:Int)(n size i:Nat)(lv sv:Value)(last synced:Nat)(w:World)(hd:Dk w h D)(hok:D.Ok)(hl:Lb w gl h.g a n size lv sv last synced)(hs:size≤64)(hi:i≤64)(h0:0≤a)(h1:a≤65536):
 Calls Tryz.prog 151 #[.pointer (some ⟨gl,0,none⟩),.int .i64 (i:Int)] w fun e w'=>∃A k c,e= .returned (.slice A k c)∧Ob 5 w' w.heap.size (.slice A k c) (z1Z D.view (a+(i:Int)*size) size)∧Below w.heap.size w w':=by
 have HD:=zz hd;have HOK:=zz hok;have HL:=zz hl;have l3:w.cell? ⟨gl,3,none⟩=some (.int .i64 (size:Int)):=hl.cell 3;clear hd hok hl;have hmul:(0:Int)≤(i:Int)*size∧(i:Int)*size≤4096:=by
  constructor
  ·exact Int.mul_nonneg (by omega) (by omega)
  ·have:i*size≤64*64:=Nat.mul_le_mul hi hs;have e:((i*size:Nat):Int)=(i:Int)*size:=by push_cast;rfl
   omega
 go_enter Tryz.func151,Tryz.ntmps151
 go_wp2_with fail
 clear l3;go_loopw [5,13] (fun ov kv wr=>∃ (k:Nat) (A:Option Addr) (m c:Nat) (out:List UInt8),ov= .slice A m c∧kv= .int .i64 (k:Int)∧Hid (BySt w wr D.view (a+(i:Int)*size) size k (.slice A m c) out)) (fun _ kv _=>size-(intOf kv).toNat)
 case atStart=>exact⟨0,none,0,0,[],rfl,rfl,⟨Nat.zero_le _,by simp,by simp,Ob.nil _ _ _,Below.refl _ _⟩⟩
 case round=>
  obtain⟨k,A,m,c,out,rfl,rfl,B⟩:=hrel;have hk:=B.out.hk;by_cases hlt:k<size
  ·have LR:=zz (HL.out.later B.out.below);have l0:wr.cell? ⟨gl,0,none⟩=some (.pointer (some ⟨h.g,0,none⟩)):=LR.out.cell 0;have l1:wr.cell? ⟨gl,1,none⟩=some (.int .i64 a):=LR.out.cell 1;have l3:wr.cell? ⟨gl,3,none⟩=some (.int .i64 (size:Int)):=LR.out.cell 3;have hw1:IntKind.i64.wrap ((i:Int)*size)=(i:Int)*size:=i64_in (by omega) (by omega);have hw2:IntKind.i64.wrap (a+(i:Int)*size)=a+(i:Int)*size:=i64_in (by omega) (by omega);have hw3:IntKind.i64.wrap (a+(i:Int)*size+k)=a+(i:Int)*size+k:=i64_in (by omega) (by omega);go_wp2_with fail
   have HDR:=zz (below_drewN (Below.refl wr.heap.size wr) 1);cases hv:D.view (a+(i:Int)*size+k)with
   |none=>
    go_region_held3 (fun w'=>w'.cell? ⟨gl,0,none⟩=some (.pointer (some ⟨h.g,0,none⟩))∧w'.cell? ⟨gl,1,none⟩=some (.int .i64 a)∧w'.cell? ⟨gl,3,none⟩=some (.int .i64 (size:Int)))
     (first
       |go_keep
       |(go_split_ands
         refine⟨?_,?_,?_⟩<;>(apply cell_later hb4;assumption)))
     ((first
       |(go_at_call 169;refine(z4w h D (a+(i:Int)*size+k) _ ((HD.out.later B.out.below).later (below_drewN (Below.refl _ _) 1)) HOK.out (by unfold InI;omega)).mono ?_;rintro e w4 ⟨hsome,hnone,hb4⟩;obtain rfl:=hnone hv)))
    have hall:=B.out.all;rw [show size-k=size-k-1+1 by omega,z6T hv,List.append_nil]at hall;have q:=(B.out.below).trans ((HDR.out.trans hb4).mono B.out.below.size);have ho:=B.out.own.later (HDR.out.trans hb4);clear hsome hnone hb4 l0 l1 l3 hw1 hw2 hw3;go_wp2_with fail
    go_ret
    exact⟨_,_,_,rfl,by rw [hall];exact ho,q⟩
   |some b=>
    go_region_held3 (fun w'=>w'.cell? ⟨gl,0,none⟩=some (.pointer (some ⟨h.g,0,none⟩))∧w'.cell? ⟨gl,1,none⟩=some (.int .i64 a)∧w'.cell? ⟨gl,3,none⟩=some (.int .i64 (size:Int)))
     (first
       |go_keep
       |(go_split_ands
         refine⟨?_,?_,?_⟩<;>(apply cell_later hb4;assumption)))
     ((first
       |(go_at_call 169;refine(z4w h D (a+(i:Int)*size+k) _ ((HD.out.later B.out.below).later (below_drewN (Below.refl _ _) 1)) HOK.out (by unfold InI;omega)).mono ?_;rintro e w4 ⟨hsome,hnone,hb4⟩;obtain⟨Ab,cb,rfl,hob⟩:=hsome _ hv)))
    have hb2:b.length≤512:=(HOK.out.view.at hv).2.2;have q:=(B.out.below).trans ((HDR.out.trans hb4).mono B.out.below.size);have ho:=zz (B.out.own.later (HDR.out.trans hb4));have hbs:=zz hob.bs;clear hsome hnone hb4 l0 l1 l3 hw1 hw2 hw3 hob;have hlen:=B.out.len;by_cases hb5:b.length<512
    ·have hall:=B.out.all;rw [show size-k=size-k-1+1 by omega,zAH hv hb5]at hall;go_wp2_with (at_builtin;(refine z03 _ rfl (.tmp 39) (.tmp 40) z0Z rfl ho.out hbs.out rfl rfl (by have:=B.out.len;omega) q.size ?_);intro A5 k5 c5 w5 hown5 hg5 hat5)
     have q5:=z02 q ho.out hg5 q.size;go_ret
     exact⟨_,_,_,rfl,by rw [hall];exact hown5,q5⟩
    ·go_wp2_with (at_builtin;(refine z03 _ rfl (.tmp 39) (.tmp 40) z0Z rfl ho.out hbs.out rfl rfl (by have:=B.out.len;omega) q.size ?_);intro A5 k5 c5 w5 hown5 hg5 hat5)
     have q5:=z02 q ho.out hg5 q.size;go_roundw
     case rel=>exact⟨k+1,A5,k5,c5,out++b,rfl,by go_num,B.out.full hlt hv hb5 hb2 hown5 q5⟩
     case measure=>simp [intOf];omega
  ·obtain rfl:k=size:=by omega
   have hall:=B.out.all;rw [Nat.sub_self,z1Z,List.append_nil]at hall;go_wp2_with fail
   go_ret
   exact⟨_,_,_,rfl,by rw [hall];exact B.out.own,B.out.below⟩
theorem z7d{l:List UInt8}{q:Nat}{t:List UInt8}{n:Nat}(h:z0e l=some ((q,t),n)):q<U64:=by
 unfold z0e at h
 split at h
 ·cases h
 ·split at h
  ·cases h
  ·rename_i f hf;have:=(z91 f (e:=0) (by omega)).1
   split at h
   ·simp only [Option.some.injEq,Prod.mk.injEq]at h;rw [←h.1.1];exact this
   ·cases h
def fdC(x:Fd×Value):List Value:= [.int .i64 (x.1.at':Int),.int .u64 (x.1.base:Int),.int .u64 (x.1.recs.length:Int),x.2]
def fcs(l:List (Fd×Value)):List Value:=l.flatMap fdC
theorem zGa(l:List (Fd×Value))(x:Fd×Value):fcs (l++ [x])=fcs l++fdC x:=by simp [fcs]
abbrev Rr(w:World)(v:Value)(rs:List Rcd):Prop:=KSl 173 2 w v rs.length (rcs rs)
structure Fs(w:World)(B:Nat)(v:Value)(L:List (Fd×Value)):Prop where
 own:w.ownsRow B 225 4 v L.length (fcs L)
 recs:∀x∈L,Rr w x.2 x.1.recs∧x.1.recs.length≤40000
theorem z19{e:TypeId}{size n B:Nat}{w w':World}{v:Value}{xs:List Value}(h:w.ownsRow B e size v n xs)(hb:Below w.heap.size w w'):w'.ownsRow B e size v n xs:=by
 obtain⟨h1,h2⟩:=h;refine⟨h1,?_⟩;rcases h2 with h2|⟨g,cap,cur,hv,hg,hh,r⟩
 ·exact .inl h2
 ·exact .inr ⟨g,cap,cur,hv,hg,(hb.block g (lt_of_block hh)).trans hh,r⟩
theorem Fs.later{w w':World}{B:Nat}{v:Value}{L:List (Fd×Value)}(h:Fs w B v L)(hb:Below w.heap.size w w'):Fs w' B v L:=
 ⟨z19 h.own hb,fun x hx=>⟨KSl.later (h.recs x hx).1 hb,(h.recs x hx).2⟩⟩
theorem zIS:Elem Tryz.prog 220 225 (.agg #[.int .i64 0,.int .u64 0,.int .u64 0,.slice none 0 0]) 4 48:=Elem.mk' Tryz.underlying220 (by kernel_rfl) rfl (by omega)
theorem zEH{x:Fd×Value}(h:∃A k c,x.2= .slice A k c):∀y∈fdC x,y.oneCell'=true:=by
 obtain⟨A,k,c,h⟩:=h;intro y hy;simp only [fdC,List.mem_cons,List.not_mem_nil,or_false]at hy;rcases hy with rfl|rfl|rfl|rfl
 ·rfl
 ·rfl
 ·rfl
 ·rw [h];rfl
theorem Sl.newfd(w:World)(x:Fd×Value){g:Nat}(hg:g=w.heap.size):Sl (fun _=>True) (w.alloc (.cells (fdC x).toArray 225)) 4 (.slice (some ⟨g,0,none⟩) 1 1) 1 (fdC x):=by
 have:=KSl.new w 225 4 (by omega) (fdC x).toArray 1 (by omega) (by simp [maxLen]) (by simp [fdC]) hg;rw [List.toList_toArray]at this;exact Sl.more this fun _ _=>trivial
theorem Fs.snoc{w w':World}{B:Nat}{v v':Value}{L:List (Fd×Value)}{x:Fd×Value}(h:Fs w B v L)(hown:w'.ownsRow B 225 4 v' (L.length+1) (fcs L++fdC x))(hs:SameK [some 173] w w')(hx:Rr w' x.2 x.1.recs)(hl:x.1.recs.length≤40000):Fs w' B v' (L++ [x]):=by
 refine⟨by rw [List.length_append,zGa];exact hown,fun y hy=> ?_⟩;rw [List.mem_append,List.mem_singleton]at hy;rcases hy with hy|rfl
 ·exact⟨KSl.same (h.recs y hy).1 hs (by decide),(h.recs y hy).2⟩
 ·exact⟨hx,hl⟩
theorem SameK.grown{ks:List (Option TypeId)}{w w':World}{row:Option Nat}(hg:w.grownBy w' row)(hr:∀z t,row=some z→z0E w z=some t→t∉ks):SameK ks w w':=fun b t ht hk=>
 hg.block b (z2Z hk) fun e=>hr b t e.symm hk ht
theorem z3E:∀ (k:Nat) (l:List UInt8) (f:Nat),(z0j k l f).1.length≤k
 |0,l,f=>by simp [z0j]
 |k+1,l,f=>by
  cases hg:z0e l with
  |none=>rw [z5b hg];simp
  |some r=>
   obtain⟨r,n⟩:=r;by_cases hq:r.1=f%U64
   ·rw [z5k hg hq];have:=z3E k (l.drop n) (f+1);simp only [List.length_cons];omega
   ·rw [z4o hg hq];simp
theorem zBp(S:Nat→Prop)(v0:Value)(l:List UInt8)(first:Nat)(rr:List Rcd×Nat)(hrr:z0j l.length l first=rr)(w:World)(hl:l.length≤1099511627776)(hf:first<U64)(hr:Bs S w v0 l):
 Calls Tryz.prog 153 #[v0,.int .u64 first] w fun e w'=>∃A k c,e= .returned (.tuple #[.slice A k c,.int .i64 (rr.2:Int)])∧Ro w' w.heap.size (.slice A k c) rr.1∧Below w.heap.size w w':=by
 rw [←hrr];exact zE7 S v0 l first w hl hf hr
structure LkSt(w wr:World)(f:SF)(a:Int)(size i:Nat)(v:Value)(L:List (Fd×Value)):Prop where
 all:L.map Prod.fst=zCG f a size i
 fs:Fs wr w.heap.size v L
 below:Below w.heap.size w wr
theorem LkSt.len{w wr:World}{f:SF}{a:Int}{size i:Nat}{v:Value}{L:List (Fd×Value)}(s:LkSt w wr f a size i v L):L.length≤i:=by
 have:=zCR f a size i;rw [←s.all,List.length_map]at this;exact this
theorem LkSt.skip{w wr w':World}{f:SF}{a:Int}{size i:Nat}{v:Value}{L:List (Fd×Value)}(s:LkSt w wr f a size i v L)(hn:z3K f a size i=none)(hb:Below wr.heap.size wr w'):LkSt w w' f a size (i+1) v L:=
 ⟨by rw [s.all,z2v,z7y hn,List.append_nil],s.fs.later hb,s.below.trans (hb.mono s.below.size)⟩
theorem LkSt.next{w wr w7 w8:World}{f:SF}{a:Int}{size i q:Nat}{A A8:Option Addr}{m c k8 c8:Nat}{rv:Value}{L:List (Fd×Value)}{rs:List Rcd}{o:Obj}{B':Nat}(s:LkSt w wr f a size i (.slice A m c) L)(hl:z3K f a size i=some (q,rs))(h7:Below wr.heap.size wr w7)
 (hr:Ro w7 B' rv rs) (hlr:rs.length≤40000) (hown:w8.ownsRow w.heap.size 225 4 (.slice A8 k8 c8) (L.length+1) (fcs L++fdC (⟨i,q,rs⟩,rv))) (hg:(w7.alloc o).grownBy w8 (Value.slice A m c).ownBlock):
 LkSt w w8 f a size (i+1) (.slice A8 k8 c8) (L++ [(⟨i,q,rs⟩,rv)]):=by
 have qa:=(Below.refl w7.heap.size w7).alloc (Nat.le_refl _) o;have f8:=(s.fs.later h7).later qa;have hs:SameK [some 173] (w7.alloc o) w8:=SameK.grown hg fun z t hz ht=>by
  have:=z1E f8.own hz;rw [this]at ht;cases ht
  decide
 refine⟨?_,f8.snoc hown hs ?_ hlr,?_⟩
 ·rw [List.map_append,s.all,z2v,zCr hl];rfl
 ·exact KSl.same (KSl.later (KSl.of_own (by omega) hr) qa) hs (by decide)
 ·exact z02 ((s.below.trans (h7.mono s.below.size)).alloc (s.below.trans (h7.mono s.below.size)).size o) f8.own hg (Nat.le_trans (s.below.trans (h7.mono s.below.size)).size qa.size)
theorem zHT{f:SF}{a:Int}{size i:Nat}{b:List UInt8}(hb:z1Z f (a+(i:Int)*size) size=b):z3K f a size i=z7V b:=by unfold z3K;rw [hb]
theorem zCd(h:Zn)(D:Dsk)(gl:Nat)(a:Int)(n size:Nat)(lv sv:Value)(last synced:Nat)(w:World)(hd:Dk w h D)(hok:D.Ok)(hl:Lb w gl h.g a n size lv sv last synced)(hn:n≤64)(hs:size≤64)(h0:0≤a)(h1:a≤65536):
 Calls Tryz.prog 120 #[.pointer (some ⟨gl,0,none⟩)] w fun e w'=>∃v L,e= .returned v∧LkSt w w' D.view a size n v L:=by
 have HD:=zz hd;have HOK:=zz hok;have HL:=zz hl;have l2:w.cell? ⟨gl,2,none⟩=some (.int .i64 (n:Int)):=hl.cell 2;have htit:Hid (st titleB=⟨#[115,101,103,109,101,110,116]⟩):=rfl;clear hd hok hl;go_enter Tryz.func120,Tryz.ntmps120
 go_wp2_with fail
 clear l2;go_loopw [3,15] (fun ov kv wr=>∃ (i:Nat) (A:Option Addr) (m c:Nat) (L:List (Fd×Value)),ov= .slice A m c∧kv= .int .i64 (i:Int)∧i≤n∧Hid (LkSt w wr D.view a size i (.slice A m c) L)) (fun _ kv _=>n-(intOf kv).toNat)
 case atStart=>exact⟨0,none,0,0,[],rfl,rfl,Nat.zero_le _,⟨rfl,⟨World.ownsRow_nil _ _ _ _,fun x hx=>by cases hx⟩,Below.refl _ _⟩⟩
 case round=>
  obtain⟨i,A,m,c,L,rfl,rfl,hi,B⟩:=hrel;by_cases hlt:i<n
  ·go_wp2_with fail
   refine(zAt h D gl a n size i lv sv last synced wr (HD.out.later B.out.below) HOK.out (HL.out.later B.out.below) hs (by omega) h0 h1).mono ?_;rintro e w4 ⟨Ab,kb,cb,rfl,hob,hb4⟩;obtain rfl:=hob.len;have hbl:=z5S HOK.out size (a+(i:Int)*size);have HLK:=zz (zHT (f:=D.view) (a:=a) (size:=size) (i:=i) rfl);generalize z1Z D.view (a+(i:Int)*size) size=bs at*;go_wp2_with fail
   refine(z4j _ _ bs w4 (by omega) hob.bs).mono ?_;rintro e w5 ⟨rfl,hb5⟩;have q5:=zz (hb4.trans (hb5.mono hb4.size));have HOB:=zz (hob.later hb5);clear hb4 hb5 hob;unfold z7V at HLK;cases hg:z0e bs with
   |none=>
    rw [hg]at HLK;have B5:=zz (B.out.skip HLK.out (q5.out.trans (((Below.refl w5.heap.size w5).alloc (Nat.le_refl _) (.cells #[.int .u64 0,.string (st [])] 173)).mono q5.out.size)));have hV:z7O none= .tuple #[.agg #[.int .u64 0,.string (st [])],.int .i64 0,.bool false]:=rfl;rw [hV];clear hg hV;go_wp2_with fail
    go_roundw
    case rel=>exact⟨i+1,A,m,c,L,rfl,by go_num,by omega,B5⟩
    case measure=>simp [intOf];omega
   |some r=>
    obtain⟨⟨q,t⟩,m2⟩:=r;have HQ:=zz (z7d hg);have hlen:=z5X hg;rw [hg]at HLK;have hV:z7O (some ((q,t),m2))= .tuple #[.agg #[.int .u64 (q:Int),.string (st t)],.int .i64 (m2:Int),.bool true]:=rfl;rw [hV];clear hg hV;have qa:=(Below.refl w5.heap.size w5).alloc (Nat.le_refl _) (.cells #[.int .u64 (q:Int),.string (st t)] 173);have BR:=zz (Blk.new w5 173 #[.int .u64 (q:Int),.string (st t)]);have Q6:=zz (q5.out.trans (qa.mono q5.out.size));have HB6:=zz (HOB.out.later qa);clear qa q5 HOB;by_cases ht:t=titleB
    ·subst ht;have hll:z3K D.view a size i=some (q,(z0j (bs.drop m2).length (bs.drop m2) q).1):=by have:=HLK.out;simpa using this
     have HDL:Hid ((bs.drop m2).length≤1099511627776):=by rw [Hid,List.length_drop];omega
     obtain⟨rr,hrr⟩:∃rr,z0j (bs.drop m2).length (bs.drop m2) q=rr:=⟨_,rfl⟩;rw [hrr]at hll;have HRR:=zz hrr;have HLL:=zz hll;obtain⟨Ab',cb',hAb,hcb,hcm,-,hAA⟩:=HB6.out.bs.at;injection hAb with e1 e2 e3
     subst e1 e3;obtain⟨bb,oo,rfl,-,-⟩:=hAA (by omega);clear hAA hll hrr;have HCC:Hid ((cb=m2→Hid (Bs (fun b=>wr.heap.size≤b∧b<(w5.alloc (.cells #[.int .u64 (q:Int),.string (st titleB)] 173)).heap.size) (w5.alloc (.cells #[.int .u64 (q:Int),.string (st titleB)] 173)) (.slice (some ⟨bb,oo,none⟩) 0 0) (bs.drop m2)))∧(¬cb=m2→Hid (Bs (fun b=>wr.heap.size≤b∧b<(w5.alloc (.cells #[.int .u64 (q:Int),.string (st titleB)] 173)).heap.size) (w5.alloc (.cells #[.int .u64 (q:Int),.string (st titleB)] 173)) (.slice (some ⟨bb,oo+m2,none⟩) (bs.length-m2) (cb-m2)) (bs.drop m2)))):=by
      have:=HB6.out.bs.cut (k:=m2) hlen.2;exact⟨fun h=>by rw [if_pos h,h,Nat.sub_self,show bs.length-m2=0 by omega]at this;exact this,fun h=>by rw [if_neg h]at this;exact this⟩
     have r1:(w5.alloc (.cells #[.int .u64 (q:Int),.string (st titleB)] 173)).cell? ⟨w5.heap.size,1,none⟩=some (.string (st titleB)):=BR.out.cell 1;have r0:(w5.alloc (.cells #[.int .u64 (q:Int),.string (st titleB)] 173)).cell? ⟨w5.heap.size,0,none⟩=some (.int .u64 (q:Int)):=BR.out.cell 0;have hbt:(titleB== [115,101,103,109,101,110,116])=true:=rfl;have b1:(0:Int)≤(m2:Int):=by omega
     have b2:(m2:Int)≤(bs.length:Int):=by omega
     go_wp2_with fail
     generalize w5.alloc _=w6 at*;generalize w5.heap.size=gr at*;clear hbt r1;by_cases hcn:cb=m2
     ·have HCUT:=HCC.out.1 hcn;have hcn:=hcn.symm;subst hcn;have r0:w6.cell? ⟨gr,0,none⟩=some (.int .u64 (q:Int)):=BR.out.cell 0;go_region_held3 (fun w'=>w'.cell? ⟨gr,0,none⟩=some (.int .u64 (q:Int)))
       (first
         |(with_reducible assumption)
         |(simp only [World.cell?_drew];with_reducible assumption)
         |(apply cell_later hb7;assumption))
       ((first
         |(go_at_call 153;refine(zBp _ _ (bs.drop m2) q rr HRR.out _ HDL.out HQ.out (Bs.later HCUT.out (below_drewN (Below.refl _ _) 1))).mono ?_;rintro e w7 ⟨Ar,kr,cr,rfl,hro,hb7⟩)))
      have HRO:=zz hro;obtain rfl:=hro.len;have Q7:=zz (Q6.out.trans (((below_drewN (Below.refl w6.heap.size w6) 1).trans hb7).mono Q6.out.size));have BR7:=zz (BR.out.later ((below_drewN (Below.refl w6.heap.size w6) 1).trans hb7));clear hro hb7 r0;have hrl:rr.1.length≤40000:=by
       have h1:=z3E (bs.drop m2).length (bs.drop m2) q;rw [HRR.out,List.length_drop]at h1;omega
      have HRL:=zz hrl;have hwl:=z0l (n:=((rr.1.length:Nat):Int)) (by omega) (by unfold U64;omega);have r0:w7.cell? ⟨gr,0,none⟩=some (.int .u64 (q:Int)):=BR7.out.cell 0;have HOWN:=zz (z19 B.out.fs.own Q7.out);have hll:=B.out.len;have hz7:=Nat.le_trans B.out.below.size Q7.out.size;have hM1:Hid (L.length+1≤maxLen):=by simp only [Hid,maxLen];omega
      have hM2:Hid ((L.length+1)*48≤140737488355328):=by rw [Hid];omega
      have hM3:Hid (∀o:Obj,w.heap.size≤(w7.alloc o).heap.size):=fun o=>by simp;omega
      have hM4:=zz (zEH (x:=(⟨i,q,rr.1⟩,.slice Ar rr.1.length cr)) ⟨_,_,_,rfl⟩);go_wp2_with (at_builtin;refine z05 _ rfl (.tmp 43) (.tmp 53) zIS rfl (World.ownsRow.alloc HOWN.out _) (Sl.newfd w7 (⟨i,q,rr.1⟩,.slice Ar rr.1.length cr) rfl) rfl rfl hM4.out hM1.out hM2.out (hM3.out _) ?_;intro A8 k8 c8 w8 hown8 hg8 hat8)
      have BN:=zz (B.out.next HLL.out Q7.out HRO.out HRL.out hown8 hg8);go_roundw
      case rel=>exact⟨i+1,A8,k8,c8,_,rfl,by go_num,by omega,BN⟩
      case measure=>simp [intOf];omega
     ·have HCUT:=HCC.out.2 hcn;have r0:w6.cell? ⟨gr,0,none⟩=some (.int .u64 (q:Int)):=BR.out.cell 0;go_region_held3 (fun w'=>w'.cell? ⟨gr,0,none⟩=some (.int .u64 (q:Int)))
       (first
         |(with_reducible assumption)
         |(simp only [World.cell?_drew];with_reducible assumption)
         |(apply cell_later hb7;assumption))
       ((first
         |(go_at_call 153;refine(zBp _ _ (bs.drop m2) q rr HRR.out _ HDL.out HQ.out (Bs.later HCUT.out (below_drewN (Below.refl _ _) 1))).mono ?_;rintro e w7 ⟨Ar,kr,cr,rfl,hro,hb7⟩)))
      have HRO:=zz hro;obtain rfl:=hro.len;have Q7:=zz (Q6.out.trans (((below_drewN (Below.refl w6.heap.size w6) 1).trans hb7).mono Q6.out.size));have BR7:=zz (BR.out.later ((below_drewN (Below.refl w6.heap.size w6) 1).trans hb7));clear hro hb7 r0;have hrl:rr.1.length≤40000:=by
       have h1:=z3E (bs.drop m2).length (bs.drop m2) q;rw [HRR.out,List.length_drop]at h1;omega
      have HRL:=zz hrl;have hwl:=z0l (n:=((rr.1.length:Nat):Int)) (by omega) (by unfold U64;omega);have r0:w7.cell? ⟨gr,0,none⟩=some (.int .u64 (q:Int)):=BR7.out.cell 0;have HOWN:=zz (z19 B.out.fs.own Q7.out);have hll:=B.out.len;have hz7:=Nat.le_trans B.out.below.size Q7.out.size;have hM1:Hid (L.length+1≤maxLen):=by simp only [Hid,maxLen];omega
      have hM2:Hid ((L.length+1)*48≤140737488355328):=by rw [Hid];omega
      have hM3:Hid (∀o:Obj,w.heap.size≤(w7.alloc o).heap.size):=fun o=>by simp;omega
      have hM4:=zz (zEH (x:=(⟨i,q,rr.1⟩,.slice Ar rr.1.length cr)) ⟨_,_,_,rfl⟩);go_wp2_with (at_builtin;refine z05 _ rfl (.tmp 43) (.tmp 53) zIS rfl (World.ownsRow.alloc HOWN.out _) (Sl.newfd w7 (⟨i,q,rr.1⟩,.slice Ar rr.1.length cr) rfl) rfl rfl hM4.out hM1.out hM2.out (hM3.out _) ?_;intro A8 k8 c8 w8 hown8 hg8 hat8)
      have BN:=zz (B.out.next HLL.out Q7.out HRO.out HRL.out hown8 hg8);go_roundw
      case rel=>exact⟨i+1,A8,k8,c8,_,rfl,by go_num,by omega,BN⟩
      case measure=>simp [intOf];omega
    ·have hno:z3K D.view a size i=none:=by have:=HLK.out;simpa [ht]using this
     have B6:=zz (B.out.skip hno Q6.out);have hbt:(t== [115,101,103,109,101,110,116])=false:=by
      rw [beq_eq_false_iff_ne];exact ht
     clear hno;go_wp2_with fail
     go_roundw
     case rel=>exact⟨i+1,A,m,c,L,rfl,by go_num,by omega,B6⟩
     case measure=>simp [intOf];omega
  ·obtain rfl:i=n:=by omega
   go_wp2_with fail
   go_ret
   exact⟨_,L,rfl,B.out⟩
def sgC(s:Sg):List Value:= [.int .i64 (s.at':Int),.int .u64 (s.base:Int),.int .u64 (s.count:Int)]
def z3H(l:List Sg):List Value:=l.flatMap sgC
abbrev Rg3(w:World)(v:Value)(l:List Sg):Prop:=KSl 223 3 w v l.length (z3H l)
theorem zBh:∀ (l:List Sg) (j:Nat) (hj:j<l.length),(z3H l)[j*3]? =some (.int .i64 (l[j].at':Int))∧(z3H l)[j*3+1]? =some (.int .u64 (l[j].base:Int))∧(z3H l)[j*3+2]? =some (.int .u64 (l[j].count:Int))
 |x::xs,0,_=>⟨rfl,rfl,rfl⟩
 |x::xs,j+1,hj=>by
  have h:=zBh xs j (by simpa using hj);have e:z3H (x::xs)=sgC x++z3H xs:=rfl;have g:∀k,(z3H (x::xs))[(j+1)*3+k]? =(z3H xs)[j*3+k]? :=fun k=>by
   rw [e,List.getElem?_append_right (by simp [sgC];omega)]
   congr 1
   simp [sgC];omega
  refine⟨?_,?_,?_⟩
  ·rw [show(j+1)*3=(j+1)*3+0 by omega,g];exact h.1
  ·rw [g];exact h.2.1
  ·rw [g];exact h.2.2
theorem Rg3.at{w:World}{v:Value}{l:List Sg}(h:Rg3 w v l):∃A c,v= .slice A l.length c∧l.length≤c∧c≤maxLen∧
 (0<l.length→∃b o,A=some ⟨b,o,none⟩∧b<w.heap.size∧∀j (hj:j<l.length),w.cell? ⟨b,o+j*3,none⟩=some (.int .i64 (l[j].at':Int))∧w.cell? ⟨b,o+j*3+1,none⟩=some (.int .u64 (l[j].base:Int))∧w.cell? ⟨b,o+j*3+2,none⟩=some (.int .u64 (l[j].count:Int))):=by
 obtain⟨_,A,c,h2,h3,h4,h5,h6⟩:=KSl.lt h;refine⟨A,c,h2,h3,h4,fun hn=> ?_⟩;obtain⟨b,o,ha,hs,hc⟩:=h6 hn;refine⟨b,o,ha,hs,fun j hj=> ?_⟩;have hg:=zBh l j hj;refine⟨hc _ _ hg.1,?_,?_⟩
 ·rw [Nat.add_assoc];exact hc _ _ hg.2.1
 ·rw [Nat.add_assoc];exact hc _ _ hg.2.2
theorem zFg(x:Sg)(i gb:Nat)(w:World)(hb:Blk w gb 3 #[.int .i64 (i:Int)]):
 Calls Tryz.prog 155 #[.agg #[.int .i64 (x.at':Int),.int .u64 (x.base:Int),.int .u64 (x.count:Int)],.pointer (some ⟨gb,0,none⟩)] w fun e w'=>e= .returned (.bool (x.at'==i))∧Below w.heap.size w w':=by
 have q:=(Below.refl w.heap.size w).alloc (Nat.le_refl _) (.cells #[.int .i64 (x.at':Int),.int .u64 (x.base:Int),.int .u64 (x.count:Int)] 223);have c0:(w.alloc (.cells #[.int .i64 (x.at':Int),.int .u64 (x.base:Int),.int .u64 (x.count:Int)] 223)).cell? ⟨gb,0,none⟩=some (.int .i64 (i:Int)):=(hb.later q).cell 0;have hlt:=hb.lt;clear hb;by_cases hx:x.at'=i
 ·subst hx;have hx2:(x.at'==x.at')=true:=by simp
  rw [hx2];clear hx2;go_enter Tryz.func155,Tryz.ntmps155
  go_wp2_with fail
  go_ret
  exact⟨by simp,q⟩
 ·have hx2:(x.at'==i)=false:=by simpa using hx
  have hx4:=zz hx;clear hx;have hx3:¬ ((x.at':Int)=(i:Int)):=by have:=hx4.out;omega
  rw [hx2];clear hx2;go_enter Tryz.func155,Tryz.ntmps155
  go_wp2_with fail
  go_ret
  exact⟨by simp [hx3],q⟩
theorem zBN(lv:Value)(live:List Sg)(i gb:Nat)(w:World)(hb:Blk w gb 3 #[.int .i64 (i:Int)])(hl:Rg3 w lv live):
 Calls Tryz.prog 175 #[lv,.func (Fn.func 155) #[] #[.pointer (some ⟨gb,0,none⟩)]] w fun e w'=>∃r:Int,e= .returned (.int .i64 r)∧(0≤r↔z1O live i=true)∧Below w.heap.size w w':=by
 obtain⟨A,c,rfl,hlc,hcm,hA⟩:=hl.at;have HA:=zz hA;have HB:=zz hb;have hm:live.length≤9223372036854775807:=by unfold maxLen at hcm;omega
 clear hl hb hA;go_enter Tryz.func175,Tryz.ntmps175
 go_wp2_with fail
 go_loopw [8] (fun kv wr=>∃k:Nat,kv= .int .i64 (k:Int)∧k≤live.length∧Hid (z1O (live.take k) i=false)∧Hid (Below w.heap.size w wr)) (fun kv _=>live.length-(intOf kv).toNat)
 case atStart=>exact⟨0,rfl,Nat.zero_le _,rfl,Below.refl _ _⟩
 case round=>
  obtain⟨k,rfl,hk,HU,B⟩:=hrel;by_cases hlt:k<live.length
  ·obtain⟨b,o,rfl,hbl,hcell⟩:=HA.out (by omega);obtain⟨k0,k1,k2⟩:=hcell k hlt;have x0:=(B.out.cell (p:=⟨b,o+k*3,none⟩) hbl).trans k0;have x1:=(B.out.cell (p:=⟨b,o+k*3+1,none⟩) hbl).trans k1;have x2:=(B.out.cell (p:=⟨b,o+k*3+2,none⟩) hbl).trans k2;have HBR:=zz (HB.out.later B.out);have HT:Hid (live.take (k+1)=live.take k++ [live[k]]):=by rw [Hid,List.take_add_one,List.getElem?_eq_getElem hlt];rfl
   have HM:=zz (List.getElem_mem hlt);clear hcell k0 k1 k2;generalize live[k]=x at*;go_wp2_with fail
   refine(zFg x i gb wr HBR.out).mono ?_;rintro e w4 ⟨rfl,hb4⟩;have B4:=zz (B.out.trans (hb4.mono B.out.size));by_cases hx:x.at'=i
   ·have hx2:(x.at'==i)=true:=by simpa using hx
    rw [hx2];go_wp2_with fail
    go_ret
    exact⟨_,rfl,⟨fun _=>z3S.2 ⟨x,HM.out,hx⟩,fun _=>by omega⟩,B4.out⟩
   ·have hx2:(x.at'==i)=false:=by simpa using hx
    have HU2:Hid (z1O (live.take (k+1)) i=false):=by rw [Hid,HT.out,zD2,HU.out,hx2];rfl
    rw [hx2];go_wp2_with fail
    go_roundw
    case rel=>exact⟨k+1,by go_num,by omega,HU2,B4⟩
    case measure=>simp [intOf];omega
  ·obtain rfl:k=live.length:=by omega
   have hu:=HU.out;rw [List.take_length]at hu;go_wp2_with fail
   go_ret
   exact⟨_,rfl,⟨fun h=>by simp at h,fun h=>by rw [hu]at h;cases h⟩,B.out⟩
theorem z7R(lv:Value)(live:List Sg)(i gb:Nat)(w:World)(hb:Blk w gb 3 #[.int .i64 (i:Int)])(hl:Rg3 w lv live):
 Calls Tryz.prog 154 #[lv,.func (Fn.func 155) #[] #[.pointer (some ⟨gb,0,none⟩)]] w fun e w'=>e= .returned (.bool (z1O live i))∧Below w.heap.size w w':=by
 go_enter Tryz.func154,Tryz.ntmps154
 go_wp2_with fail
 refine(zBN lv live i gb w hb hl).mono ?_;rintro e w4 ⟨r,rfl,hr,hb4⟩;have HR:=zz hr;clear hr;go_wp2_with fail
 go_ret
 refine⟨?_,hb4⟩;have:=HR.out;cases hu:z1O live i
 ·rw [hu]at this;simp at this;simp;omega
 ·rw [hu]at this;simp at this;simp [this]
theorem z1j(gl hg:Nat)(a:Int)(n size i:Nat)(lv sv:Value)(last synced:Nat)(live:List Sg)(w:World)(hl:Lb w gl hg a n size lv sv last synced)(hs:Rg3 w lv live):
 Calls Tryz.prog 124 #[.pointer (some ⟨gl,0,none⟩),.int .i64 (i:Int)] w fun e w'=>e= .returned (.bool (z1O live i))∧Below w.heap.size w w':=by
 have qa:=(Below.refl w.heap.size w).alloc (Nat.le_refl _) (.cells #[.int .i64 (i:Int)] 3);have l4:(w.alloc (.cells #[.int .i64 (i:Int)] 3)).cell? ⟨gl,4,none⟩=some lv:=(hl.later qa).cell 4;have HS:=zz (KSl.later hs qa);have HB:=zz (Blk.new w 3 #[.int .i64 (i:Int)]);have HQ:=zz qa;have hmf:=z0K Tryz.prog;obtain⟨A,c,rfl,-⟩:=hs.at;clear hl hs qa;go_enter Tryz.func124,Tryz.ntmps124
 go_wp2_with fail
 refine(z7R _ live i _ _ HB.out HS.out).mono ?_;rintro e w4 ⟨rfl,hb4⟩;have q:=HQ.out.trans (hb4.mono HQ.out.size);go_wp2_with fail
 go_ret
 exact⟨rfl,q⟩
abbrev Sec:=Int×List UInt8
def scs(l:List Sec):List Value:=l.flatMap fun x=> [.int .i64 x.1,.string (st x.2)]
section
variable {w wr w':World} {D pc Z:Array Value}
end
def dkKs:List (Option TypeId):= [some 164,none,some 291,some 3,some 25,some 5]
theorem Ub.same{ks:List (Option TypeId)}{w w':World}{B:Nat}{v:Value}{l:List UInt8}(h:Ub w B v l)(hs:SameK ks w w')(hk:some 5∈ks):Ub w' B v l:=h.keep fun b hb=>hs b _ hk (zAx hb)
theorem Secs.same{ks:List (Option TypeId)}{w w':World}{b n:Nat}{f:SF}(h:Secs w b f n)(hs:SameK ks w w')(h1:none∈ks)(h2:some 5∈ks):Secs w' b f n:=by
 have hk:=h.kind;obtain⟨m,hm,hr⟩:=h;exact⟨m,hm.sameK hk hs h1,fun a ha=>(hr a ha).keep fun _ _ h=>h.same hs h2⟩
theorem PnIs.same{w w':World}{v:Value}{p:Pnd}(h:PnIs w v p)(hs:SameK dkKs w w'):PnIs w' v p:=by
 cases p with
 |wr a b=>
  obtain⟨ga,A,c,h1,h2,h3,h4⟩:=h;exact⟨ga,A,c,h1,h2.sameK hs (by decide),h3.sameK hs (by decide),h4.same hs (by decide)⟩
 |fr a=>
  obtain⟨ga,h1,h2⟩:=h;exact⟨ga,h1,h2.sameK hs (by decide)⟩
theorem Dk.same{w w':World}{h:Zn}{D:Dsk}(d:Dk w h D)(hs:SameK dkKs w w'):Dk w' h D:=by
 obtain⟨vs,h1,h2⟩:=d.pend;exact⟨d.blk.sameK hs (by decide),d.view.same hs (by decide) (by decide),d.ground.same hs (by decide) (by decide),d.ne,vs,h1.same hs (by decide),h2.keep fun _ _ h=>h.same hs⟩
theorem Stp.same{ks:List (Option TypeId)}{h h':Zn}{w w':World}{D:Dsk}(s:Stp h w h' w')(d:Dk w h D)(hk:some 164∉ks)(h0:none∉ks)(hp:some 291∉ks):SameK ks w w':=fun b t ht hb=>
 s.turn.block b (z2Z hb) fun e=>by
  rcases d.kinds e with h3|h3|h3
  ·exact SameK.not h3 hk hb ht
  ·exact SameK.not h3 h0 hb ht
  ·exact SameK.not h3 hp hb ht
theorem Stp.lb{h h':Zn}{w w':World}{D:Dsk}(s:Stp h w h' w')(d:Dk w h D){gl hg:Nat}{a:Int}{n size:Nat}{lv sv:Value}{last synced:Nat}(hl:Lb w gl hg a n size lv sv last synced):Lb w' gl hg a n size lv sv last synced:=s.blk d hl (by decide) (by decide)
theorem Mtp.sameL{ks:List (Option TypeId)}{h h':Zn}{w w':World}{D:Dsk}{g:Nat}{t:TypeId}{cs:Array Value}(s:Mtp h g w h' w')(d:Dk w h D)(m:Blk w g t cs)(hk:some 164∉ks)(h0:none∉ks)(hp:some 291∉ks)(hm:some t∉ks):SameK ks w w':=fun b t' ht hb=>
 s.turn.block b (z2Z hb) fun e=>by
  rcases e with e|rfl
  ·rcases d.kinds e with h3|h3|h3
   ·exact SameK.not h3 hk hb ht
   ·exact SameK.not h3 h0 hb ht
   ·exact SameK.not h3 hp hb ht
  ·exact SameK.not (z0F m) hm hb ht
theorem zB9{i size:Nat}(hi:i≤64)(hs:size≤64):(0:Int)≤(i:Int)*size∧(i:Int)*size≤4096:=by
 constructor
 ·exact Int.mul_nonneg (by omega) (by omega)
 ·have:i*size≤64*64:=Nat.mul_le_mul hi hs;have e:((i*size:Nat):Int)=(i:Int)*size:=by push_cast;rfl
  omega
theorem z7r(h:Zn)(D:Dsk)(gl:Nat)(a:Int)(n size i:Nat)(lv sv:Value)(last synced:Nat)(w:World)(hd:Dk w h D)(hok:D.Ok)(hl:Lb w gl h.g a n size lv sv last synced)(hs:size≤64)(hi:i≤64)(h0:0≤a)(h1:a≤65536)(hp:D.pend.length≤900000):
 Calls Tryz.prog 125 #[.pointer (some ⟨gl,0,none⟩),.int .i64 (i:Int)] w fun e w'=>e= .returned (.tuple #[])∧∃h',Dk w' h' (z4t D (a+(i:Int)*size) size)∧Stp h w h' w':=by
 have HD:=zz hd;have HOK:=zz hok;have HL:=zz hl;have l3:w.cell? ⟨gl,3,none⟩=some (.int .i64 (size:Int)):=hl.cell 3;have hmul:=zB9 hi hs;clear hd hok hl;go_enter Tryz.func125,Tryz.ntmps125
 go_wp2_with fail
 clear l3;go_loopw [9] (fun kv wr=>∃ (k:Nat) (h':Zn),kv= .int .i64 (k:Int)∧k≤size∧Hid (Dk wr h' (z4t D (a+(i:Int)*size) k))∧Hid (Stp h w h' wr)) (fun kv _=>size-(intOf kv).toNat)
 case atStart=>exact⟨0,h,rfl,Nat.zero_le _,HD,Stp.refl _ _⟩
 case round=>
  obtain⟨k,h',rfl,hk,DK,ST⟩:=hrel;by_cases hlt:k<size
  ·have LR:=zz (ST.out.lb HD.out HL.out);have l0:wr.cell? ⟨gl,0,none⟩=some (.pointer (some ⟨h.g,0,none⟩)):=LR.out.cell 0;have l1:wr.cell? ⟨gl,1,none⟩=some (.int .i64 a):=LR.out.cell 1;have l3:wr.cell? ⟨gl,3,none⟩=some (.int .i64 (size:Int)):=LR.out.cell 3;have hw1:IntKind.i64.wrap ((i:Int)*size)=(i:Int)*size:=i64_in (by omega) (by omega);have hw2:IntKind.i64.wrap (a+(i:Int)*size)=a+(i:Int)*size:=i64_in (by omega) (by omega);have hw3:IntKind.i64.wrap (a+(i:Int)*size+k)=a+(i:Int)*size+k:=i64_in (by omega) (by omega);have hin:Hid (InI (a+(i:Int)*size+k)):=by rw [Hid];unfold InI;omega
   have hpe:=z5T D (a+(i:Int)*size) k;have HPE:Hid ((z4t D (a+(i:Int)*size) k).pend.length≤1000000000):=by rw [Hid];omega
   have HOKR:=zz (z4v HOK.out (a+(i:Int)*size) k);have HG:=zz ST.out.g;clear hpe;go_wp2_with fail
   go_region_held3 (fun w'=>w'.cell? ⟨gl,0,none⟩=some (.pointer (some ⟨h.g,0,none⟩))∧w'.cell? ⟨gl,1,none⟩=some (.int .i64 a)∧w'.cell? ⟨gl,3,none⟩=some (.int .i64 (size:Int)))
    (first
      |go_keep
      |exact⟨LX.cell 0,LX.cell 1,LX.cell 3⟩
      |fail)
    ((first
      |(go_at_call 156;rw [←HG.out];refine(zEC h' _ (a+(i:Int)*size+k) _ (DK.out.later (below_drewN (Below.refl _ _) 1)) HOKR.out hin.out HPE.out).mono ?_;rintro e w4 ⟨rfl,h4,hd4,hs4⟩;rw [HG.out];have LX:=hs4.blk (DK.out.later (below_drewN (Below.refl _ _) 1)) (LR.out.later (below_drewN (Below.refl _ _) 1)) (by decide) (by decide))))
   have D4:=zz hd4;have S4:=zz (ST.out.trans ((Stp.below (below_drewN (Below.refl _ _) 1)).trans hs4));clear hd4 hs4 LX l0 l1 l3;go_wp2_with fail
   go_roundw
   case rel=>exact⟨k+1,h4,by go_num,by omega,D4,S4⟩
   case measure=>simp [intOf];omega
  ·obtain rfl:k=size:=by omega
   go_wp2_with fail
   go_end0
   exact⟨rfl,h',DK.out,ST.out⟩
theorem lg_put{w W:World}{h h':Zn}{D D':Dsk}{gl:Nat}{cs:Array Value}(hd:Dk W h' D')(hl:Blk W gl 219 cs)(m:Mtp h gl w h' W)(k:Nat)(u:Value):
 Dk (W.setCell ⟨gl,k,none⟩ u) h' D'∧Blk (W.setCell ⟨gl,k,none⟩ u) gl 219 (cs.setIfInBounds k u)∧Mtp h gl w h' (W.setCell ⟨gl,k,none⟩ u):=
 ⟨hd.same (SameK.setCell (p:=⟨gl,k,none⟩) hl (by decide) u),hl.put k u,m.g,m.turn.setCell (p:=⟨gl,k,none⟩) (.inl (.inr rfl)) u,m.has⟩
theorem z5A(h:Zn)(D:Dsk)(gl:Nat)(a:Int)(n size:Nat)(lv sv:Value)(last synced:Nat)(w:World)(hd:Dk w h D)(hok:D.Ok)(hl:Lb w gl h.g a n size lv sv last synced):
 Calls Tryz.prog 126 #[.pointer (some ⟨gl,0,none⟩)] w fun e w'=>e= .returned (.tuple #[])∧∃h',Dk w' h' D.sync∧Lb w' gl h.g a n size lv sv last last∧Mtp h gl w h' w':=by
 have HD:=zz hd;have HL:=zz hl;have l0:w.cell? ⟨gl,0,none⟩=some (.pointer (some ⟨h.g,0,none⟩)):=hl.cell 0;clear hd hl;go_enter Tryz.func126,Tryz.ntmps126
 go_wp2_with fail
 refine(zEW h D w HD.out hok).mono ?_;rintro e w4 ⟨rfl,h4,hd4,hs4⟩;have D4:=zz hd4;have S4:=zz hs4;have L4:=zz (hs4.lb HD.out HL.out);have l6:w4.cell? ⟨gl,6,none⟩=some (.int .u64 (last:Int)):=L4.out.cell 6;have l7:w4.cell? ⟨gl,7,none⟩=some (.int .u64 (synced:Int)):=L4.out.cell 7;have f7:=L4.out.free 7;clear hd4 hs4 l0;go_wp2_with fail
 go_end0
 have:=lg_put (D:=D) D4.out L4.out (Mtp.of_stp S4.out) 7 (.int .u64 (last:Int));exact⟨rfl,h4,this.1,this.2.1,this.2.2⟩
theorem z3j(gl hg:Nat)(a:Int)(n size:Nat)(lv sv:Value)(last synced:Nat)(w:World)(hl:Lb w gl hg a n size lv sv last synced)(hs:size≤64):
 Calls Tryz.prog 139 #[.pointer (some ⟨gl,0,none⟩)] w fun e w'=>e= .returned (.int .i64 ((512*size:Nat):Int))∧w=w':=by
 have l3:w.cell? ⟨gl,3,none⟩=some (.int .i64 (size:Int)):=hl.cell 3;have hw:IntKind.i64.wrap ((size:Int)*512)=((512*size:Nat):Int):=by rw [i64_in (by omega) (by omega)];omega
 clear hl;go_enter Tryz.func139,Tryz.ntmps139
 go_wp2_with fail
 go_ret
 exact⟨rfl,rfl⟩
theorem zFX:Elem Tryz.prog 217 223 (.agg #[.int .i64 0,.int .u64 0,.int .u64 0]) 3 24:=Elem.mk' Tryz.underlying217 (by kernel_rfl) rfl (by omega)
theorem zAv(s:Sg):∀y∈sgC s,y.oneCell'=true:=by
 intro y hy;simp only [sgC,List.mem_cons,List.not_mem_nil,or_false]at hy;rcases hy with rfl|rfl|rfl<;>rfl
theorem zAC(l:List Sg)(x:Sg):z3H (l++ [x])=z3H l++sgC x:=by simp [z3H]
theorem Sl.newsg(w:World)(x:Sg){g:Nat}(hg:g=w.heap.size):Sl (fun _=>True) (w.alloc (.cells (sgC x).toArray 223)) 3 (.slice (some ⟨g,0,none⟩) 1 1) 1 (sgC x):=by
 have:=KSl.new w 223 3 (by omega) (sgC x).toArray 1 (by omega) (by simp [maxLen]) (by simp [sgC]) hg;rw [List.toList_toArray]at this;exact Sl.more this fun _ _=>trivial
theorem Rr.at{w:World}{v:Value}{l:List Rcd}(h:Rr w v l):∃A c,v= .slice A l.length c∧l.length≤c∧c≤maxLen∧
 (0<l.length→∃b o,A=some ⟨b,o,none⟩∧b<w.heap.size∧z0E w b=some (some 173)∧∀j (hj:j<l.length),w.cell? ⟨b,o+j*2,none⟩=some (.int .u64 (l[j].1:Int))∧w.cell? ⟨b,o+j*2+1,none⟩=some (.string (st l[j].2))):=by
 obtain⟨_,A,c,h2,h3,h4,h5,h6⟩:=h;refine⟨A,c,h2,h3,h4,fun hn=> ?_⟩;obtain⟨b,o,ha,hs,hc⟩:=h6 hn;refine⟨b,o,ha,z2Z hs,hs,fun j hj=> ?_⟩;have key:∀ (l:List Rcd) (j:Nat) (hj:j<l.length),(rcs l)[j*2]? =some (.int .u64 (l[j].1:Int))∧(rcs l)[j*2+1]? =some (.string (st l[j].2)):=by
  intro l
  induction l with
  |nil=>intro j hj;cases hj
  |cons r rs ih=>
   intro j hj;rcases j with _|j
   ·exact⟨rfl,rfl⟩
   ·have:=ih j (by simpa using hj);rw [show(j+1)*2=j*2+1+1 by omega];simpa [rcs]using this
 have:=key l j hj;exact⟨hc _ _ this.1,by rw [Nat.add_assoc];exact hc _ _ this.2⟩
def z56(x:Fd)(frm:Nat):List Rcd:=x.recs.filter fun r=>decide (frm<r.1)
theorem z2m{e:TypeId}{size n B B':Nat}{w:World}{v:Value}{xs:List Value}(h:w.ownsRow B e size v n xs)(hB:B'≤B):w.ownsRow B' e size v n xs:=by
 obtain⟨h1,h2⟩:=h;refine⟨h1,?_⟩;rcases h2 with h2|⟨g,cap,cur,hv,hg,r⟩
 ·exact .inl h2
 ·exact .inr ⟨g,cap,cur,hv,Nat.le_trans hB hg,r⟩
def TkPost(gl hg:Nat)(a:Int)(n size:Nat)(sv:Value)(synced:Nat)(live:List Sg)(x:Fd)(frm B:Nat)(w:World)(e:Ending)(w':World):Prop:=
 ∃A k c A' k' c',e= .returned (.slice A k c)∧w'.ownsRow w.heap.size 173 2 (.slice A k c) (z56 x frm).length (rcs (z56 x frm))∧Lb w' gl hg a n size (.slice A' k' c') sv x.last synced∧
  w'.ownsRow B 223 3 (.slice A' k' c') (live.length+1) (z3H (live++ [x.sg]))∧Below B w w'∧SameK [some 225,some 173,some 116] w w'
theorem zGs(m:Nat):IntKind.u64.wrap ((m:Int)-1)=(((m+(U64-1))%U64:Nat):Int):=by
 simp only [IntKind.wrap,IntKind.bits,IntKind.signed];unfold U64;simp;omega
theorem zJ8(x:Fd):x.last=(((x.base+x.recs.length)%U64)+(U64-1))%U64:=by
 unfold Fd.last;rw [Nat.mod_add_mod]
structure TkC(gl hg:Nat)(a:Int)(n size:Nat)(sv:Value)(last synced:Nat)(live:List Sg)(x:Sg)(cs:Array Value)(B:Nat)(w:World)(A:Option Addr)(k c:Nat)(W:World):Prop where
 lb:Lb W gl hg a n size (.slice A k c) sv last synced
 own:W.ownsRow B 223 3 (.slice A k c) (live.length+1) (z3H (live++ [x]))
 box:Blk W w.heap.size 225 cs
 below:Below B w W
 same:SameK [some 225,some 173,some 116] w W
 size:w.heap.size<W.heap.size
theorem tk_one{gl hg:Nat}{a:Int}{n size:Nat}{sv:Value}{last synced:Nat}{live:List Sg}{x:Sg}{cs:Array Value}{B:Nat}{w w1 w2:World}{A A2:Option Addr}{k c k2 c2:Nat}{o:Obj}{u:List Value}(hB:B≤w.heap.size)(hBg:B≤gl)(hl:Lb w1 gl hg a n size (.slice A k c) sv last synced)(hown:w1.ownsRow B 223 3 (.slice A k c) live.length (z3H live))
 (hb:Blk w1 w.heap.size 225 cs) (h1:Below w.heap.size w w1) (hs:w.heap.size<w1.heap.size) (hx:sgC x=u) (hown2:w2.ownsRow B 223 3 (.slice A2 k2 c2) (live.length+1) (z3H live++u)) (hgr:(w1.alloc o).grownBy w2 (Value.slice A k c).ownBlock):
 TkC gl hg a n size sv last synced live x cs B w A2 k2 c2 (w2.setCell ⟨gl,4,none⟩ (.slice A2 k2 c2)):=by
 have qa:=(Below.refl w1.heap.size w1).alloc (Nat.le_refl _) o;have ho:=World.ownsRow.alloc hown o;have hl2:Blk w2 gl _ _:=(hl.alloc o).kept ho hgr (by decide);have hb2:Blk w2 w.heap.size _ _:=(hb.alloc o).kept ho hgr (by decide);have hne:=hb2.ne hl2 (by decide);subst hx;refine⟨hl2.put 4 _,?_,hb2.far (p:=⟨gl,4,none⟩) hne _,?_,?_,?_⟩
 ·rw [zAC];exact z1m hown2 hl2 (by decide) 4 _
 ·exact(z02 (((h1.mono hB).trans (qa.mono (Nat.le_trans hB (Nat.le_of_lt hs))))) ho hgr (Nat.le_trans (Nat.le_trans hB (Nat.le_of_lt hs)) qa.size)).setCell hBg _
 ·refine(((SameK.below h1).trans (SameK.below qa)).trans (SameK.grown hgr fun z t hz ht=> ?_)).trans (SameK.setCell (p:=⟨gl,4,none⟩) hl2 (by decide) _);have:=z1E ho hz;rw [this]at ht;cases ht
  decide
 ·have h3:(w1.alloc o).heap.size≤w2.heap.size:=hgr.size;have h4:=qa.size;simp;omega
theorem zD6(gl hg:Nat)(a:Int)(n size:Nat)(lv sv:Value)(last synced:Nat)(live:List Sg)(x:Fd)(rv:Value)(frm B:Nat)(w:World)(hl:Lb w gl hg a n size lv sv last synced)(hown:w.ownsRow B 223 3 lv live.length (z3H live))(hB:B≤w.heap.size)(hBg:B≤gl)
 (hr:Rr w rv x.recs) (hlr:x.recs.length≤1000000) (hxb:x.base<U64) (hlive:live.length≤100) (hf:frm<U64):
 Calls Tryz.prog 121 #[.pointer (some ⟨gl,0,none⟩),.agg #[.int .i64 (x.at':Int),.int .u64 (x.base:Int),.int .u64 (x.recs.length:Int),rv],.int .u64 (frm:Int)] w (TkPost gl hg a n size sv synced live x frm B w):=by
 obtain⟨Ar,cr,rfl,hlc,hcm,hA⟩:=hr.at;have HR:=zz hr;have HO:=zz hown;have HL:=zz hl;have hx3:x.sg.count=x.recs.length:=Nat.mod_eq_of_lt (by unfold U64;omega);have HX3:=zz hx3;obtain⟨Al,kl,cl,rfl⟩:=z0p hown;clear hr hl hA hx3;have q1:Below B w (w.alloc (.cells #[.int .i64 (x.at':Int),.int .u64 (x.base:Int),.int .u64 (x.recs.length:Int),.slice Ar x.recs.length cr] 225)):=(Below.refl _ _).alloc hB _;have hb:=Blk.new w 225 #[.int .i64 (x.at':Int),.int .u64 (x.base:Int),.int .u64 (x.recs.length:Int),.slice Ar x.recs.length cr];have qa:=(Below.refl w.heap.size w).alloc (Nat.le_refl _) (.cells #[.int .i64 (x.at':Int),.int .u64 (x.base:Int),.int .u64 (x.recs.length:Int),.slice Ar x.recs.length cr] 225);have hl1:Blk _ gl _ _:=HL.out.later qa;have HO1:=zz (z19 HO.out qa);have HR1:=zz (KSl.later HR.out qa);have hz1:w.heap.size<(w.alloc (.cells #[.int .i64 (x.at':Int),.int .u64 (x.base:Int),.int .u64 (x.recs.length:Int),.slice Ar x.recs.length cr] 225)).heap.size:=by simp
 clear hown;go_enter Tryz.func121,Tryz.ntmps121
 go_wp2_with fail
 generalize hw1:w.alloc _=w1 at*;clear hw1;have l4:w1.cell? ⟨gl,4,none⟩=some (.slice Al kl cl):=hl1.cell 4;have b0:w1.cell? ⟨w.heap.size,0,none⟩=some (.int .i64 (x.at':Int)):=hb.cell 0;have b1:w1.cell? ⟨w.heap.size,1,none⟩=some (.int .u64 (x.base:Int)):=hb.cell 1;have b2:w1.cell? ⟨w.heap.size,2,none⟩=some (.int .u64 (x.recs.length:Int)):=hb.cell 2;have a4:(w1.alloc (.cells #[.int .i64 (x.at':Int),.int .u64 (x.base:Int),.int .u64 (x.recs.length:Int)] 223)).cell? ⟨gl,4,none⟩=some (.slice Al kl cl):=(hl1.alloc _).cell 4;have HSG:Hid (sgC x.sg= [.int .i64 (x.at':Int),.int .u64 (x.base:Int),.int .u64 (x.recs.length:Int)]):=by rw [Hid,sgC,HX3.out];rfl
 have hs1:=Sl.newsg w1 x.sg rfl;rw [HSG.out]at hs1;have HS1:=zz hs1;have HB1:=zz hb;have HL1:=zz hl1;have hone:=zz (by have:=zAv x.sg;rw [HSG.out]at this;exact this);clear hs1 hb hl1;have HQA:=zz qa;clear qa;go_cut [] (fun wx=>∃A2 k2 c2,Hid (TkC gl hg a n size sv last synced live x.sg #[.int .i64 (x.at':Int),.int .u64 (x.base:Int),.int .u64 (x.recs.length:Int),.slice Ar x.recs.length cr] B w A2 k2 c2 wx))
 case first=>
  go_region_law (refine z2a (w1.alloc (.cells #[.int .i64 (x.at':Int),.int .u64 (x.base:Int),.int .u64 (x.recs.length:Int)] 223)) (by first|exact⟨0,rfl⟩|exact⟨1,rfl⟩|exact⟨2,rfl⟩|exact⟨3,rfl⟩) rfl (.tmp 14) (.tmp 17) zFX rfl (World.ownsRow.alloc HO1.out _) HS1.out rfl rfl hone.out (by simp only [maxLen];omega) (by omega) (by simp;omega) ?_;intro A2 k2 c2 w2 hown2 hg2;have hl2:=(HL1.out.alloc _).kept (World.ownsRow.alloc HO1.out _) hg2 (by decide);have g0:=hl2.free 4;have g2:=hl2.cell 4;simp [lgC]at g2)
  all_goals
   have TC:=tk_one (hB:=hB) (hBg:=hBg) HL1.out HO1.out HB1.out HQA.out hz1 HSG.out hown2 hg2;go_wp2_with fail
   go_meet
   first
    |exact⟨A2,k2,c2,TC.drew⟩
    |exact⟨A2,k2,c2,TC⟩
    |exact⟨A2,k2,c2,TC.drew.drew⟩
 obtain⟨A2,k2,c2,TC⟩:=hcut;have HRC:=zz (KSl.same HR.out TC.out.same (by decide));have l6:wc.cell? ⟨gl,6,none⟩=some (.int .u64 (last:Int)):=TC.out.lb.cell 6;have f6:=TC.out.lb.free 6;have b1:wc.cell? ⟨w.heap.size,1,none⟩=some (.int .u64 (x.base:Int)):=TC.out.box.cell 1;have b2:wc.cell? ⟨w.heap.size,2,none⟩=some (.int .u64 (x.recs.length:Int)):=TC.out.box.cell 2;have b3:wc.cell? ⟨w.heap.size,3,none⟩=some (.slice Ar x.recs.length cr):=TC.out.box.cell 3;have hwa:=z4P x.base x.recs.length;have hwb:IntKind.u64.wrap ((((x.base+x.recs.length)%U64:Nat):Int)-1)=((x.last:Nat):Int):=by rw [zGs,zJ8]
 have hwb2:IntKind.u64.wrap (((x.base:Int)+(x.recs.length:Int))%(U64:Int)-1)=((x.last:Nat):Int):=by
  rw [←hwb]
  push_cast
  rfl
 have hgb:w.heap.size≠gl:=TC.out.box.ne TC.out.lb (by decide);have L3:Hid (Lb (wc.setCell ⟨gl,6,none⟩ (.int .u64 (x.last:Int))) gl hg a n size (.slice A2 k2 c2) sv x.last synced):=TC.out.lb.put 6 _;have O3:=zz (z1m TC.out.own TC.out.lb (by decide) 6 (.int .u64 (x.last:Int)));have Q3:=zz (TC.out.below.setCell (p:=⟨gl,6,none⟩) hBg (.int .u64 (x.last:Int)));have K3:=zz (TC.out.same.trans (SameK.setCell (p:=⟨gl,6,none⟩) TC.out.lb (by decide) (.int .u64 (x.last:Int))));have R3:=zz (KSl.same HRC.out (SameK.setCell (ks:= [some 173]) (p:=⟨gl,6,none⟩) TC.out.lb (by decide) (.int .u64 (x.last:Int))) (by decide));have Z3:Hid (w.heap.size≤(wc.setCell ⟨gl,6,none⟩ (.int .u64 (x.last:Int))).heap.size):=by have:=TC.out.size;simp [Hid];omega
 clear TC HRC HR HO HL HB1 HL1 HO1 HR1 HS1 hone HSG HX3 HQA q1 hz1 l4 b0 a4;go_wp2_with fail
 generalize wc.setCell _ _=w3 at*;clear l6 f6 b1 b2 b3 hwa hwb hwb2 hgb;have OB:Hid (w3.heap.size≤w3.heap.size):=Nat.le_refl _;go_loopw [7,35] (fun ov kv wr=>∃ (i:Nat) (A:Option Addr) (m c:Nat),ov= .slice A m c∧kv= .int .i64 (i:Int)∧i≤x.recs.length∧Hid (wr.ownsRow w3.heap.size 173 2 (.slice A m c) ((x.recs.take i).filter fun r=>decide (frm<r.1)).length (rcs ((x.recs.take i).filter fun r=>decide (frm<r.1))))∧Hid (Below w3.heap.size w3 wr)) (fun _ kv _=>x.recs.length-(intOf kv).toNat)
 case atStart=>exact⟨0,none,0,0,rfl,rfl,Nat.zero_le _,World.ownsRow_nil _ _ _ _,Below.refl _ _⟩
 case round=>
  obtain⟨i,A,m,c,rfl,rfl,hi,OW,BL⟩:=hrel;by_cases hlt:i<x.recs.length
  ·obtain⟨A',c',he,_,_,hat⟩:=Rr.at (KSl.later R3.out BL.out);injection he with e1 _ e3
   subst e1 e3;obtain⟨b,o,rfl,hbl,hkb,hcell⟩:=hat (by omega);obtain⟨r0,r1⟩:=hcell i hlt;have HT:Hid (x.recs.take (i+1)=x.recs.take i++ [x.recs[i]]):=by rw [Hid,List.take_add_one,List.getElem?_eq_getElem hlt];rfl
   have hlen:Hid (((x.recs.take i).filter fun r=>decide (frm<r.1)).length≤1000000):=by
    have h1:=List.length_filter_le (fun r:Rcd=>decide (frm<r.1)) (x.recs.take i);rw [List.length_take]at h1;rw [Hid];omega
   clear hcell hat;generalize x.recs[i]=r at*;obtain⟨q,t⟩:=r;simp only at r0 r1;have QA:=zz (BL.out.trans (((Below.refl wr.heap.size wr).alloc (Nat.le_refl _) (.cells #[.int .u64 (q:Int),.string (st t)] 173)).mono BL.out.size));have OA:=zz (z19 OW.out ((Below.refl wr.heap.size wr).alloc (Nat.le_refl _) (.cells #[.int .u64 (q:Int),.string (st t)] 173)));by_cases hq:frm<q
   ·have hq2:(frm:Int)<(q:Int):=by omega
    have HF:Hid ((x.recs.take (i+1)).filter (fun r=>decide (frm<r.1))=(x.recs.take i).filter (fun r=>decide (frm<r.1))++ [(q,t)]):=by rw [Hid,HT.out,List.filter_append];simp [hq]
    have HQ:=zz hq;generalize hF:(x.recs.take i).filter (fun r=>decide (frm<r.1))=F at*;clear hF hq;have hM1:Hid (F.length+1≤maxLen):=by have:=hlen.out;simp only [Hid,maxLen];omega
    have hM2:Hid ((F.length+1)*24≤140737488355328):=by have:=hlen.out;rw [Hid];omega
    have hM3:Hid (∀o o':Obj,w3.heap.size≤((wr.alloc o).alloc o').heap.size):=fun o o'=>by have:=BL.out.size;simp;omega
    go_wp2_with (at_builtin;refine z05 _ rfl (.tmp 43) (.tmp 45) zAd rfl (World.ownsRow.alloc OA.out _) (Sl.newrec (S:=fun _=>True) (g:=wr.heap.size+1) _ (q,t) (by simp) trivial) rfl rfl (zAr _) hM1.out hM2.out (hM3.out _ _) ?_;intro A8 k8 c8 w8 hown8 hg8 hat8)
    have B8:=zz (z02 (QA.out.alloc (Nat.le_trans QA.out.size (Nat.le_refl _)) _) (World.ownsRow.alloc OA.out _) hg8 (hM3.out _ _));have O8:Hid (w8.ownsRow w3.heap.size 173 2 (.slice A8 k8 c8) ((x.recs.take (i+1)).filter (fun r=>decide (frm<r.1))).length (rcs ((x.recs.take (i+1)).filter (fun r=>decide (frm<r.1))))):=by
     rw [Hid,HF.out,List.length_append,z5P];exact hown8
    go_roundw
    case rel=>exact⟨i+1,A8,k8,c8,rfl,by go_num,by omega,O8,B8⟩
    case measure=>simp [intOf];omega
   ·have hq2:(q:Int)≤(frm:Int):=by omega
    have HF:Hid ((x.recs.take (i+1)).filter (fun r=>decide (frm<r.1))=(x.recs.take i).filter (fun r=>decide (frm<r.1))):=by rw [Hid,HT.out,List.filter_append];simp [hq]
    clear hq;have OA2:Hid ((wr.alloc (.cells #[.int .u64 (q:Int),.string (st t)] 173)).ownsRow w3.heap.size 173 2 (.slice A m c) ((x.recs.take (i+1)).filter (fun r=>decide (frm<r.1))).length (rcs ((x.recs.take (i+1)).filter (fun r=>decide (frm<r.1))))):=by
     rw [Hid,HF.out];exact OA.out
    go_wp2_with fail
    go_roundw
    case rel=>exact⟨i+1,A,m,c,rfl,by go_num,by omega,OA2,QA⟩
    case measure=>simp [intOf];omega
  ·obtain rfl:i=x.recs.length:=by omega
   have ho:=OW.out;rw [List.take_length]at ho;go_wp2_with fail
   go_ret
   exact⟨A,m,c,A2,k2,c2,rfl,z2m ho Z3.out,L3.out.later BL.out,z19 O3.out BL.out,Q3.out.trans (BL.out.mono (Nat.le_trans hB Z3.out)),K3.out.trans (SameK.below BL.out)⟩
end
end Go.Proofs.YtdkobefpnjbgnaaGreatDoor
