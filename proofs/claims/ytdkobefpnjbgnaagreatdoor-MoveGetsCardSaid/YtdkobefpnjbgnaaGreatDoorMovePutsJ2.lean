/- Part 2. -/
import Derived.Test.YtdkobefpnjbgnaaGreatDoorMovePutsJ1
import Derived.Orders
import Derived.Deep.Quiet
import Derived.Deep.RegionWith
import Derived.Deep.RegionHeld3
import Derived.Lib.AppendZeros
namespace Go.Proofs.YtdkobefpnjbgnaaGreatDoor
set_option linter.unusedVariables false
set_option maxHeartbeats 16000000
set_option maxRecDepth 100000
section
open Go Go.RowKit
set_option linter.unusedSimpArgs false
abbrev VP:=Value→World→Prop
def Is(c:Value):VP:=fun v _=>v=c
def Stays(V:VP):Prop:=∀v w w',Below w.heap.size w w'→V v w→V v w'
theorem Stays.is(c:Value):Stays (Is c):=fun _ _ _ _ h=>h
section
variable {P:Program} {ops:Array Oper}
def z0G(P:Program)(w:World)(V:VP):Result Next→Prop
 | .ok (.value u) w'=>Below w.heap.size w w'∧V u w'
 | .ok .skip w'=>Below w.heap.size w w'∧V undef w'
 | .ok (.enter f args) w'=>Below w.heap.size w w'∧Calls P f args w' (fun e w''=>∃v,e= .returned v∧Below w'.heap.size w' w''∧V v w'')
 |_=>False
def z07(P:Program)(o:Oper)(a:Act)(w:World)(V:VP):Prop:=z0G P w V ((execOp a.eval o).run P w)
theorem z14{a b c:World}(h:Below a.heap.size a b)(k:Below b.heap.size b c):Below a.heap.size a c:=h.trans (k.mono h.size)
theorem zBH{o:Oper}{a:Act}{w:World}{V:VP}{K:Act→World→Prop}{Q:Exit→Act→World→Prop}(h:z07 P o a w V)
 (hK:∀v w',Below w.heap.size w w'→V v w'→K (a.put o.dst v) w'):o.wp P a w K Q:=by
 unfold z07 at h;unfold Oper.wp;generalize (execOp a.eval o).run P w=r at*;cases r with
 |ok n w'=>
  cases n<;>simp only [z0G]at h<;>simp only [Oper.upon]
  case value u=>exact hK _ _ h.1 h.2
  case skip=>exact hK _ _ h.1 h.2
  case enter f args=>
   exact h.2.mono fun e w'' ⟨v,he,hb,hv⟩=>by subst he;exact hK _ _ (z14 h.1 hb) hv
 |halt x w'=>simp only [z0G]at h
theorem z6V{o:Oper}{a:Act}{w:World}{V:VP}(h:z07 P o a w V):∃v w',Below w.heap.size w w'∧V v w':=by
 unfold z07 at h;generalize (execOp a.eval o).run P w=r at*;cases r with
 |ok n w'=>
  cases n<;>simp only [z0G]at h
  case value u=>exact⟨u,w',h⟩
  case skip=>exact⟨_,w',h⟩
  case enter f args=>
   obtain⟨e,w'',fr,⟨v,_,hb,hv⟩,_⟩:=h.2 [];exact⟨v,w'',z14 h.1 hb,hv⟩
 |halt x w'=>simp only [z0G]at h
def z2V(P:Program)(ops:Array Oper)(C:World→Prop)(Q:Act→World→Prop):List Oper→List VP→List (Value×VP)→Act→Prop
 |o::rest,V::Vs,env,a=>
  (if Region.wanted o (yielded ops a.tmps)then ∀w,C w→(∀e∈o.after,Region.binds .any e=true→∀ (x:Value) (W:VP),env[e.on]? =some (x,W)→W x w)→z07 P o a w V else ∀w,C w→V undef w)∧
  ∀x,(∃w,C w∧V x w)→z2V P ops C Q rest Vs (env++ [(x,V)]) (a.put o.dst x)
 | [],[],env,a=>∀w,C w→(∀ (j:Nat) (x:Value) (W:VP),env[j]? =some (x,W)→W x w)→Q a w
 |_,_,_,_=>False
def z1v(ops:Array Oper)(j:Nat):Option Tmp:=(ops[j]?).bind (·.dst)
def z0r(ops:Array Oper)(i j:Nat):Bool:=((ops[i]?).map fun(o:Oper)=>o.after.any fun e=>e.on==j&&Region.binds .any e).getD false
def z2Y(ops:Array Oper):Bool:=
 (List.range ops.size).all fun i=>
   ((List.range ops.size).all fun j=>(!z0r ops i j||decide (j<i))&&(decide (i=j)||(z1v ops i).isNone||z1v ops i != z1v ops j)&&
     (match ops[i]?,z1v ops j with
      |some o,some s=> !(o.looksAt ops).contains s||z0r ops i j||z0r ops j i||decide (i=j)
      |_,_=>true))
     &&((ops[i]?).map fun(o:Oper)=>match o.op with| .select _ _=>false|_=>o.after.all fun e=> !Region.binds .any e||decide (e.on<i)).getD true
theorem z2c(h:z2Y ops=true):(∀ (i:Nat) (o:Oper),ops[i]? =some o→∀e∈o.after,Region.binds .any e=true→e.on<i)∧
 (∀ (i j:Nat) (s:Tmp),i<ops.size→j<ops.size→z1v ops i=some s→z1v ops j=some s→i=j)∧
 (∀ (i j:Nat) (o:Oper) (s:Tmp),ops[i]? =some o→j<ops.size→z1v ops j=some s→s∈o.looksAt ops→z0r ops i j=true∨z0r ops j i=true∨i=j)∧
 (∀ (i:Nat) (o:Oper) cs b,ops[i]? =some o→o.op≠ .select cs b):=by
 unfold z2Y at h;rw [List.all_eq_true]at h;have hall:∀i,i<ops.size→_:=fun i hi=>(Bool.and_eq_true _ _).mp (h i (List.mem_range.2 hi))
 have hlt:∀ {i o},ops[i]? =some o→i<ops.size:=fun ho=>(Array.getElem?_eq_some_iff.1 ho).1
 refine⟨fun i o ho e he hb=> ?_,fun i j s hi hj h1 h2=> ?_,fun i j o s ho hj hd hs=> ?_,fun i o cs b ho hop=> ?_⟩
 ·have h2:=(hall i (hlt ho)).2;rw [ho]at h2;simp only [Option.map_some,Option.getD_some]at h2
  split at h2
  ·cases h2
  ·rw [Array.all_eq_true_iff_forall_mem]at h2;have:=h2 e he;simpa [hb]using this
 ·have h3:=(hall i hi).1;rw [List.all_eq_true]at h3;have h4:=h3 j (List.mem_range.2 hj);simp only [Bool.and_eq_true]at h4;have h5:=h4.1.2;rw [h1,h2]at h5;simpa using h5
 ·have h3:=(hall i (hlt ho)).1;rw [List.all_eq_true]at h3;have h4:=h3 j (List.mem_range.2 hj);simp only [Bool.and_eq_true]at h4;have h5:=h4.2;rw [ho,hd]at h5;simp only [Bool.or_eq_true,Bool.not_eq_true',decide_eq_true_eq]at h5;rcases h5 with((h5|h5)|h5)|h5
  ·simp only [List.contains_eq_mem,decide_eq_false_iff_not]at h5;exact absurd hs h5
  ·exact .inl h5
  ·exact .inr (.inl h5)
  ·exact .inr (.inr h5)
 ·have h2:=(hall i (hlt ho)).2;rw [ho]at h2;simp only [Option.map_some,Option.getD_some,hop]at h2;cases h2
theorem z0n{i j:Nat}{o:Oper}(ho:ops[i]? =some o):z0r ops i j=true↔∃e∈o.after,e.on=j∧Region.binds .any e=true:=by
 unfold z0r;rw [ho];simp only [Option.map_some,Option.getD_some,Array.any_eq_true,Bool.and_eq_true,beq_iff_eq];constructor
 ·rintro⟨k,hk,h⟩;exact⟨_,Array.getElem_mem hk,h⟩
 ·rintro⟨e,he,h⟩;obtain⟨k,hk,rfl⟩:=Array.mem_iff_getElem.1 he;exact⟨k,hk,h⟩
structure Laid(ops:Array Oper)(a0:Act)(f:Nat→Option Value)(a:Act):Prop where
 defers:a.defers=a0.defers
 size:a.tmps.size=a0.tmps.size
 put:∀j s x,j<ops.size→z1v ops j=some s→f j=some x→a.tmps[s]? =(a0.tmps[s]?).map fun _=>x
 off:∀s,(∀j,j<ops.size→z1v ops j=some s→f j=none)→a.tmps[s]? =a0.tmps[s]?
theorem Laid.start(a0:Act):Laid ops a0 (fun _=>none) a0:=⟨rfl,rfl,(fun _ _ _ _ _ h=>by cases h),fun _ _=>rfl⟩
theorem Laid.next{a0 a:Act}{f:Nat→Option Value}(hg:z2Y ops=true)(h:Laid ops a0 f a){k:Nat}{o:Oper}(ho:ops[k]? =some o)(hf:f k=none)(x:Value):
 Laid ops a0 (fun j=>if j=k then some x else f j) (a.put o.dst x):=by
 obtain⟨_,hdist,_,_⟩:=z2c hg;have hk:k<ops.size:=(Array.getElem?_eq_some_iff.1 ho).1;have hdk:z1v ops k=o.dst:=by simp [z1v,ho]
 cases hd:o.dst with
 |none=>
  refine⟨h.defers,h.size,fun j s y hj hs hy=> ?_,fun s hs=> ?_⟩
  ·have hne:j≠k:=by rintro rfl;rw [hdk,hd]at hs;cases hs
   simp only [hne,if_false]at hy;exact h.put j s y hj hs hy
  ·refine h.off s fun j hj hjs=> ?_
   have hne:j≠k:=by rintro rfl;rw [hdk,hd]at hjs;cases hjs
   have:=hs j hj hjs;simpa only [hne,if_false]using this
 |some d=>
  refine⟨h.defers,by simp [Act.put,h.size],fun j s y hj hs hy=> ?_,fun s hs=> ?_⟩
  ·by_cases hjk:j=k
   ·subst hjk;rw [hdk,hd]at hs;obtain rfl:d=s:=by simpa using hs
    simp only [if_true]at hy;obtain rfl:x=y:=by simpa using hy
    show(a.tmps.setIfInBounds d x)[d]? =_;have e:=h.off d (fun j' hj' hs'=>by
     have:=hdist j' j d hj' hj hs' (by rw [hdk,hd]);subst this;exact hf)
    rcases Nat.lt_or_ge d a.tmps.size with hlt|hge
    ·rw [Array.getElem?_setIfInBounds_self_of_lt hlt,←e,Array.getElem?_eq_getElem hlt];rfl
    ·rw [←e,Array.getElem?_eq_none (by simpa using hge),Array.getElem?_eq_none hge];rfl
   ·simp only [hjk,if_false]at hy;have hne:d≠s:=by
     rintro rfl;exact hjk (hdist j k d hj hk hs (by rw [hdk,hd]))
    show(a.tmps.setIfInBounds d x)[s]? =_;rw [Array.getElem?_setIfInBounds_ne hne];exact h.put j s y hj hs hy
  ·have hne:d≠s:=by
    rintro rfl;have:=hs k hk (by rw [hdk,hd]);simp at this
   show(a.tmps.setIfInBounds d x)[s]? =_;rw [Array.getElem?_setIfInBounds_ne hne];refine h.off s fun j hj hjs=> ?_
   have hjk:j≠k:=by
    rintro rfl;rw [hdk,hd]at hjs;exact hne (by simpa using hjs)
   have:=hs j hj hjs;simpa only [hjk,if_false]using this
theorem z5Z{o:Oper}(hsel:∀cs b,o.op≠ .select cs b){a a':Act}(h:∀t∈o.looksAt ops,a.tmps[t]? =a'.tmps[t]?):
 execOp a.eval o=execOp a'.eval o∧Region.wanted o (yielded ops a.tmps)=Region.wanted o (yielded ops a'.tmps):=by
 constructor
 ·refine execOp_congr o hsel fun x hx=> ?_
  cases x with
  |tmp t=>
   have:=h t (List.mem_append_left _ (List.mem_filterMap.2 ⟨.tmp t,by simpa using hx,rfl⟩));simp only [Act.eval,Array.getD_eq_getD_getElem?,this]
  |_=>rfl
 ·unfold Region.wanted;cases hg:o.guard with
  |none=>rfl
  |some gw=>
   obtain⟨g,want⟩:=gw;have hy:yielded ops a.tmps g=yielded ops a'.tmps g:=by
    unfold yielded;cases ht:(ops[g]?).bind (·.dst)with
    |none=>rfl
    |some t=>
     have:=h t (by simp [Oper.looksAt,hg,ht]);simp [this]
   simp only [hy]
theorem Laid.congr{a0 a:Act}{f g:Nat→Option Value}(h:Laid ops a0 f a)(hfg:∀j,j<ops.size→f j=g j):Laid ops a0 g a:=
 ⟨h.defers,h.size,fun j s x hj hs hx=>h.put j s x hj hs (by rw [hfg j hj];exact hx),fun s hs=>h.off s fun j hj hjs=>by rw [hfg j hj];exact hs j hj hjs⟩
theorem Laid.same{a0 a a':Act}{f:Nat→Option Value}(h:Laid ops a0 f a)(h':Laid ops a0 f a'):a=a':=by
 have ht:a.tmps=a'.tmps:=by
  apply Array.ext_getElem?;intro s;by_cases hs:∃j x,j<ops.size∧z1v ops j=some s∧f j=some x
  ·obtain⟨j,x,hj,hd,hf⟩:=hs;rw [h.put j s x hj hd hf,h'.put j s x hj hd hf]
  ·have hoff:∀j,j<ops.size→z1v ops j=some s→f j=none:=fun j hj hd=>by
    cases hf:f j with
    |none=>rfl
    |some x=>exact absurd ⟨j,x,hj,hd,hf⟩ hs
   rw [h.off s hoff,h'.off s hoff]
 have hd:a.defers=a'.defers:=h.defers.trans h'.defers.symm;cases a
 cases a'
 simp only at ht hd;subst ht hd;rfl
def z5Y(ops:Array Oper)(a0:Act)(y:Nat→Value):Nat→Act
 |0=>a0
 |k+1=>(z5Y ops a0 y k).put (z1v ops k) (y k)
theorem z2H(hg:z2Y ops=true)(a0:Act)(y:Nat→Value):∀k,k≤ops.size→Laid ops a0 (fun j=>if j<k then some (y j)else none) (z5Y ops a0 y k)
 |0,_=>(Laid.start a0).congr fun j _=>by simp
 |k+1,hk=>by
  have ho:ops[k]? =some ops[k]:=Array.getElem?_eq_getElem (by omega);have h:=(z2H hg a0 y k (by omega)).next hg ho (by simp) (y k);have e:z1v ops k=ops[k].dst:=by simp [z1v,ho]
  rw [z5Y,e];refine h.congr fun j _=> ?_
  by_cases hj:j=k
  ·subst hj;simp
  ·by_cases hj2:j<k
   ·simp [hj,hj2,Nat.lt_succ_of_lt hj2]
   ·have:¬j<k+1:=by omega
    simp [hj,hj2,this]
def vAt(Vs:List VP)(j:Nat):VP:=Vs.getD j fun _ _=>True
def z57(Vs:List VP)(y:Nat→Value)(k:Nat):List (Value×VP):=(List.range k).map fun j=>(y j,vAt Vs j)
theorem z2f{Vs:List VP}{y:Nat→Value}{k j:Nat}{x:Value}{W:VP}(h:(z57 Vs y k)[j]? =some (x,W)):j<k∧x=y j∧W=vAt Vs j:=by
 unfold z57 at h;rw [List.getElem?_map]at h;rcases Nat.lt_or_ge j k with hj|hj
 ·rw [List.getElem?_range hj]at h;simp only [Option.map_some,Option.some.injEq,Prod.mk.injEq]at h;exact⟨hj,h.1.symm,h.2.symm⟩
 ·rw [List.getElem?_eq_none (by simpa using hj)]at h;cases h
variable {C:World→Prop} {Q:Act→World→Prop} {Vs:List VP} {a0:Act}
theorem z54(hlen:Vs.length=ops.size)(h0:z2V P ops C Q ops.toList Vs [] a0)(y:Nat→Value):∀k,k≤ops.size→(∀j,j<k→∃w,C w∧vAt Vs j (y j) w)→
 z2V P ops C Q (ops.toList.drop k) (Vs.drop k) (z57 Vs y k) (z5Y ops a0 y k)
 |0,_,_=>by simpa [z57,z5Y]using h0
 |k+1,hk,hy=>by
  have ih:=z54 hlen h0 y k (by omega) fun j hj=>hy j (by omega)
  have hk1:k<ops.toList.length:=by rw [Array.length_toList];omega
  have hk2:k<Vs.length:=by omega
  rw [List.drop_eq_getElem_cons (l:=ops.toList) hk1,List.drop_eq_getElem_cons (l:=Vs) hk2]at ih;have h2:=ih.2 (y k) (by
   obtain⟨w,hw,hv⟩:=hy k (by omega);refine⟨w,hw,?_⟩;have e:vAt Vs k=Vs[k]'(by omega):=by simp [vAt,List.getD,List.getElem?_eq_getElem (show k<Vs.length by omega)]
   rw [e]at hv;exact hv)
  have e1:z57 Vs y (k+1)=z57 Vs y k++ [(y k,Vs[k]'(by omega))]:=by
   simp [z57,List.range_succ,vAt,List.getD,List.getElem?_eq_getElem (show k<Vs.length by omega)]
  have e2:z5Y ops a0 y (k+1)=(z5Y ops a0 y k).put (ops.toList[k]'(by rw [Array.length_toList];omega)).dst (y k):=by
   rw [z5Y]
   congr 1
   simp [z1v,Array.getElem?_eq_getElem (show k<ops.size by omega)]
  rw [e1,e2];exact h2
theorem zAT{l:Array Bool}{j:Nat}(h:l.getD j true=false):l.getD j false=false:=by
 rcases Nat.lt_or_ge j l.size with hj|hj
 ·simpa [Array.getD,hj]using h
 ·simp [Array.getD,hj,Nat.not_lt.2 hj]
theorem z51(hg:z2Y ops=true)(hS:∀V∈Vs,Stays V)(hC:∀w w',C w→Below w.heap.size w w'→C w')(hlen:Vs.length=ops.size)
 (h0:z2V P ops C Q ops.toList Vs [] a0) {w:World} (hw:C w) {L:Nat→Bool} {x:Nat→Value} (hx:∀j,j<ops.size→L j=true→vAt Vs j (x j) w):
 ∀k,k≤ops.size→∃ (y:Nat→Value) (w':World),Below w.heap.size w w'∧(∀j,L j=true→y j=x j)∧∀j,j<k→vAt Vs j (y j) w'
 |0,_=>⟨x,w,Below.refl _ _,fun _ _=>rfl,fun j hj=>by omega⟩
 |k+1,hk=>by
  obtain⟨y,w',hb,hyx,hy⟩:=z51 hg hS hC hlen h0 hw hx k (by omega);have hst:∀j,j<ops.size→Stays (vAt Vs j):=fun j hj=>by
   have e:vAt Vs j=Vs[j]'(by omega):=by simp [vAt,List.getD,List.getElem?_eq_getElem (show j<Vs.length by omega)]
   rw [e];exact hS _ (List.getElem_mem _)
  have hcw':=hC w w' hw hb;by_cases hL:L k=true
  ·refine⟨y,w',hb,hyx,fun j hj=> ?_⟩;by_cases hjk:j=k
   ·subst hjk;rw [hyx j hL];exact hst j (by omega) _ _ _ hb (hx j (by omega) hL)
   ·exact hy j (by omega)
  ·have hat:=z54 hlen h0 y k (by omega) fun j hj=>⟨w',hcw',hy j hj⟩
   have hk1:k<ops.toList.length:=by rw [Array.length_toList];omega
   have hk2:k<Vs.length:=by omega
   rw [List.drop_eq_getElem_cons (l:=ops.toList) hk1,List.drop_eq_getElem_cons (l:=Vs) hk2]at hat;have e:vAt Vs k=Vs[k]'(by omega):=by simp [vAt,List.getD,List.getElem?_eq_getElem (show k<Vs.length by omega)]
   have hex:∃v w'',Below w'.heap.size w' w''∧vAt Vs k v w'':=by
    have h1:=hat.1
    split at h1
    ·obtain⟨v,w'',hbb,hv⟩:=z6V (h1 w' hcw' fun e he hbd x W hxW=>by
      obtain⟨hlt,rfl,rfl⟩:=z2f hxW;exact hy _ hlt)
     exact⟨v,w'',hbb,by rw [e];exact hv⟩
    ·exact⟨undef,w',Below.refl _ _,by rw [e];exact h1 w' hcw'⟩
   obtain⟨v,w'',hbb,hv⟩:=hex;refine⟨fun j=>if j=k then v else y j,w'',z14 hb hbb,fun j hj=> ?_,fun j hj=> ?_⟩
   ·have hne:j≠k:=by rintro rfl;exact hL hj
    simp only [hne,if_false];exact hyx j hj
   ·by_cases hjk:j=k
    ·subst hjk;simpa using hv
    ·simp only [hjk,if_false];exact hst j (by omega) _ _ _ hbb (hy j (by omega))
theorem z24{α:Type}{p q:α→Bool}:∀ (l:List α),(∀x∈l,q x=true→p x=true)→∀i∈l,p i=true→q i=false→(l.filter q).length<(l.filter p).length
 | [],_,i,hi,_,_=>by cases hi
 |a::l,hpq,i,hi,hp,hq=>by
  have hle:∀ (l:List α),(∀x∈l,q x=true→p x=true)→(l.filter q).length≤(l.filter p).length:=by
   intro l
   induction l with
   |nil=>intro _;simp
   |cons b l ih=>
    intro h;have:=ih fun x hx=>h x (List.mem_cons_of_mem _ hx)
    by_cases hqb:q b=true
    ·simp [List.filter_cons,hqb,h b (List.mem_cons_self ..) hqb];omega
    ·by_cases hpb:p b=true<;>simp [List.filter_cons,hqb,hpb]<;>omega
  have h2:=hle l fun x hx=>hpq x (List.mem_cons_of_mem _ hx)
  rcases List.mem_cons.1 hi with rfl|hi'
  ·simp [List.filter_cons,hp,hq];omega
  ·have h3:=z24 l (fun x hx=>hpq x (List.mem_cons_of_mem _ hx)) i hi' hp hq;by_cases hqb:q a=true
   ·simp [List.filter_cons,hqb,hpq a (List.mem_cons_self ..) hqb];omega
   ·by_cases hpb:p a=true<;>simp [List.filter_cons,hqb,hpb]<;>omega
def unl(n:Nat)(listed:Array Bool):Nat:=((List.range n).filter fun j=> !listed.getD j true).length
theorem zCe(hg:z2Y ops=true)(hS:∀V∈Vs,Stays V)(hC:∀w w',C w→Below w.heap.size w w'→C w')(hlen:Vs.length=ops.size)
 (h0:z2V P ops C Q ops.toList Vs [] a0) {Q':Exit→Act→World→Prop} (hQ:∀a w,Q a w→Q' .normal a w):
 ∀ (fuel:Nat) (listed:Array Bool) (a:Act) (w:World) (x:Nat→Value),listed.size=ops.size→C w→Laid ops a0 (fun j=>if listed.getD j false then some (x j)else none) a→
   (∀j,j<ops.size→listed.getD j false=true→vAt Vs j (x j) w)→(∀ (i:Nat) (o:Oper),ops[i]? =some o→listed.getD i false=true→∀e∈o.after,Region.binds .any e=true→listed.getD e.on false=true)→
   unl ops.size listed≤fuel→wpAny P .any ops Q' fuel listed a w:=by
 obtain⟨hs1,hs2,hs3,hs4⟩:=z2c hg;have hlt:∀ {i:Nat} {o:Oper},ops[i]? =some o→i<ops.size:=fun ho=>(Array.getElem?_eq_some_iff.1 ho).1
 have hend:∀ (listed:Array Bool) (a:Act) (w:World) (x:Nat→Value),listed.size=ops.size→C w→Laid ops a0 (fun j=>if listed.getD j false then some (x j)else none) a→
  (∀j,j<ops.size→listed.getD j false=true→vAt Vs j (x j) w)→Region.ready .any ops listed= []→Q' .normal a w:=by
  intro listed a w x hsz hw hL hx hr;have hall:∀n,∀j,j<n→j<ops.size→listed.getD j false=true:=by
   intro n
   induction n with
   |zero=>intro j hj;omega
   |succ n ih=>
    intro j hj hjs;rcases Nat.lt_or_ge j n with hjn|hjn
    ·exact ih j hjn hjs
    ·obtain rfl:j=n:=by omega
     cases hlj:listed.getD j false with
     |true=>rfl
     |false=>
      exfalso;have:j∈Region.ready .any ops listed:=mem_ready.2 ⟨by
       have hj':j<listed.size:=by omega
       simpa [Array.getD,hj']using hlj,ops[j],Array.getElem?_eq_getElem hjs,fun e he hb=>ih e.on (hs1 j _ (Array.getElem?_eq_getElem hjs) e he hb) (by have:=hs1 j _ (Array.getElem?_eq_getElem hjs) e he hb;omega)⟩
      rw [hr]at this;cases this
  have hat:=z54 hlen h0 x ops.size (Nat.le_refl _) fun j hj=>⟨w,hw,hx j hj (hall _ j hj hj)⟩
  rw [List.drop_of_length_le (by simp),List.drop_of_length_le (by omega)]at hat;have hq:=hat w hw fun j x' W hxW=>by
   obtain⟨hj,rfl,rfl⟩:=z2f hxW;exact hx j hj (hall _ j hj hj)
  have he:a=z5Y ops a0 x ops.size:=Laid.same hL ((z2H hg a0 x ops.size (Nat.le_refl _)).congr fun j hj=>by simp only [hj,if_true,hall _ j hj hj]);rw [he];exact hQ _ _ hq
 intro fuel
 induction fuel with
 |zero=>
  intro listed a w x hsz hw hL hx hcl hf;have hr:Region.ready .any ops listed= []:=by
   rw [List.eq_nil_iff_forall_not_mem];intro i hi;obtain⟨h1,o,ho,_⟩:=mem_ready.1 hi;have:i∈(List.range ops.size).filter fun j=> !listed.getD j true:=List.mem_filter.2 ⟨List.mem_range.2 (hlt ho),by rw [h1];rfl⟩
   have hz:((List.range ops.size).filter fun j=> !listed.getD j true)= []:=List.eq_nil_of_length_eq_zero (by unfold unl at hf;omega);rw [hz]at this;cases this
  exact⟨hr,hend listed a w x hsz hw hL hx hr⟩
 |succ fuel ih=>
  intro listed a w x hsz hw hL hx hcl hf;refine⟨fun hr=>hend listed a w x hsz hw hL hx hr,fun i hi=> ?_⟩;obtain⟨hi1,o,ho,hdeps⟩:=mem_ready.1 hi;have hin:=hlt ho;have hi2:=zAT hi1;have eV:vAt Vs i=Vs[i]'(by omega):=by simp [vAt,List.getD,List.getElem?_eq_getElem (show i<Vs.length by omega)]
  obtain⟨y,w',hb,hyx,hy⟩:=z51 hg hS hC hlen h0 hw (L:=fun j=>listed.getD j false) hx i (by omega);have hat:=z54 hlen h0 y i (by omega) fun j hj=>⟨w',hC w w' hw hb,hy j hj⟩
  have hk1:i<ops.toList.length:=by rw [Array.length_toList];omega
  have hk2:i<Vs.length:=by omega
  rw [List.drop_eq_getElem_cons (l:=ops.toList) hk1,List.drop_eq_getElem_cons (l:=Vs) hk2]at hat;have eo:ops.toList[i]'(by simpa using hin)=o:=by
   have:=Array.getElem?_eq_getElem hin;rw [ho]at this;simpa using (Option.some.inj this).symm
  rw [eo,←eV]at hat;have hlex:=z2H hg a0 y i (by omega);have hag:∀t∈o.looksAt ops,a.tmps[t]? =(z5Y ops a0 y i).tmps[t]? :=by
   intro t ht;by_cases hj:∃j,j<ops.size∧z1v ops j=some t
   ·obtain⟨j,hjn,hjd⟩:=hj;have only:∀j',j'<ops.size→z1v ops j'=some t→j'=j:=fun j' h1 h2=>hs2 j' j t h1 hjn h2 hjd
    have hother:(listed.getD j false=false)→i≤j→a.tmps[t]? =(z5Y ops a0 y i).tmps[t]? :=fun h1 h2=>by
     rw [hL.off t fun j' hj' hd'=>by rw [only j' hj' hd',h1];rfl,hlex.off t fun j' hj' hd'=>by
      rw [only j' hj' hd'];have:¬j<i:=by omega
      simp [this]]
    rcases hs3 i j o t ho hjn hjd ht with h|h|h
    ·obtain⟨e,he,rfl,hbd⟩:=(z0n ho).1 h;have hl:=hdeps e he hbd;have hji:=hs1 i o ho e he hbd;rw [hL.put e.on t (x e.on) hjn hjd (by rw [hl];rfl),hlex.put e.on t (y e.on) hjn hjd (by simp [hji]),hyx e.on hl]
    ·obtain⟨e,he,rfl,hbd⟩:=(z0n (Array.getElem?_eq_getElem hjn)).1 h;have hlt2:=hs1 j _ (Array.getElem?_eq_getElem hjn) e he hbd;refine hother ?_ (by omega);cases hlj:listed.getD j false with
     |false=>rfl
     |true=>
      have:=hcl j _ (Array.getElem?_eq_getElem hjn) hlj e he hbd;rw [hi2]at this;cases this
    ·subst h;exact hother hi2 (Nat.le_refl _)
   ·rw [hL.off t fun j hjn hjd=>absurd ⟨j,hjn,hjd⟩ hj,hlex.off t fun j hjn hjd=>absurd ⟨j,hjn,hjd⟩ hj]
  obtain⟨hex,hwant⟩:=z5Z (ops:=ops) (hs4 i o · · ho) hag;have hnext:∀v w2,C w2→Below w.heap.size w w2→vAt Vs i v w2→wpAny P .any ops Q' fuel (listed.setIfInBounds i true) (a.put o.dst v) w2:=by
   intro v w2 hw2 hb2 hv;have hset:∀j,(listed.setIfInBounds i true).getD j false=if j=i then true else listed.getD j false:=fun j=>by
    by_cases hji:j=i
    ·subst hji;have:j<listed.size:=by omega
     simp [Array.getD,this]
    ·rw [getD_set_ne false (fun e=>hji e.symm)];simp [hji]
   refine ih _ _ _ (fun j=>if j=i then v else x j) (by simpa using hsz) hw2 ?_ ?_ ?_ ?_
   ·refine(hL.next hg ho (by rw [hi2];rfl) v).congr fun j hj=> ?_
    rw [hset];by_cases hji:j=i<;>simp [hji]
   ·intro j hj hlj;rw [hset]at hlj;by_cases hji:j=i
    ·subst hji;simpa using hv
    ·simp only [hji,if_false]at hlj ⊢;have e:vAt Vs j=Vs[j]'(by omega):=by simp [vAt,List.getD,List.getElem?_eq_getElem (show j<Vs.length by omega)]
     have:=hx j hj hlj;rw [e]at this ⊢;exact hS _ (List.getElem_mem _) _ _ _ hb2 this
   ·intro k ok hok hlk e he hbd;rw [hset]at hlk ⊢;by_cases hki:k=i
    ·subst hki;obtain rfl:ok=o:=by rw [ho]at hok;exact(Option.some.inj hok).symm
     have:=hdeps e he hbd;by_cases h':e.on=k<;>simp [h',this]
    ·simp only [hki,if_false]at hlk;have:=hcl k ok hok hlk e he hbd;by_cases h':e.on=i<;>simp [h',this]
   ·have:unl ops.size (listed.setIfInBounds i true)<unl ops.size listed:=by
     refine z24 (List.range ops.size) (fun j _ hq=> ?_) i (List.mem_range.2 hin) (by rw [hi1];rfl) ?_
     ·by_cases hji:j=i
      ·subst hji;rw [hi1];rfl
      ·rwa [getD_set_ne true (fun e=>hji e.symm)]at hq
     ·have:i<listed.size:=by omega
      simp [Array.getD,this]
    omega
  unfold wpOp;simp only [ho];rw [hwant];have h1:=hat.1
  split
  ·rename_i hwt;rw [if_pos hwt]at h1;refine .inl (zBH (V:=vAt Vs i) ?_ fun v w2 hb2 hv=>hnext v w2 (hC _ _ hw hb2) hb2 hv);unfold z07;rw [hex];exact h1 w hw fun e he hbd x' W hxW=>by
    obtain⟨hlt2,rfl,rfl⟩:=z2f hxW;have hl:=hdeps e he hbd;rw [hyx _ hl];exact hx _ (by omega) hl
  ·rename_i hwt;rw [if_neg hwt]at h1;exact hnext undef w hw (Below.refl _ _) (h1 w hw)
theorem z7J{id:Nat}{Q':Exit→Act→World→Prop}{w0:World}(l:List Oper)(hm:P.follows .mixedOrders=true)(hg:z2Y l.toArray=true)(Vs:List VP)(hS:∀V∈Vs,Stays V)(hlen:Vs.length=l.length)
 (h0:z2V P l.toArray (fun w=>Below w0.heap.size w0 w) (fun a w=>Q' .normal a w) l Vs [] a0):(Code.region id l.toArray true).wp P Q' a0 w0:=by
 refine wp_region_any hm (zCe (C:=fun w=>Below w0.heap.size w0 w) (Q:=fun a w=>Q' .normal a w) hg hS (fun w w' h k=>z14 h k) (by simpa using hlen) (by simpa using h0) (fun a w h=>h) _ _ _ _ (fun _=>undef) (by simp) ?_ ?_ ?_ ?_ ?_)
 ·exact⟨rfl,rfl,rfl,Nat.le_refl _,fun _ _=>rfl⟩
 ·refine(Laid.start a0).congr fun j hj=> ?_
  have:(Array.replicate l.toArray.size false).getD j false=false:=by unfold Array.getD;split<;>simp
  rw [this];rfl
 ·intro j hj h;have:(Array.replicate l.toArray.size false).getD j false=false:=by unfold Array.getD;split<;>simp
  rw [this]at h;cases h
 ·intro i o ho h;have:(Array.replicate l.toArray.size false).getD i false=false:=by unfold Array.getD;split<;>simp
  rw [this]at h;cases h
 ·unfold unl;exact Nat.le_trans (List.length_filter_le _ _) (by simp)
def zB4:List VP→Prop
 | []=>True
 |V::Vs=>Stays V∧zB4 Vs
theorem zG2:∀ {Vs:List VP},zB4 Vs→∀V∈Vs,Stays V
 |V::Vs,h,W,hW=>by
  rcases List.mem_cons.1 hW with rfl|hW
  ·exact h.1
  ·exact zG2 h.2 W hW
theorem z01{id:Nat}{Q':Exit→Act→World→Prop}{w0:World}{l:List Oper}{a0:Act}(hm:P.follows .mixedOrders=true)(hg:z2Y l.toArray=true)
 (h:∃Vs,z2V P l.toArray (fun w=>Below w0.heap.size w0 w) (fun a w=>Q' .normal a w) l Vs [] a0∧zB4 Vs∧Vs.length=l.length):(Code.region id l.toArray true).wp P Q' a0 w0:=by
 obtain⟨Vs,h0,hS,hlen⟩:=h;exact z7J l hm hg Vs (zG2 hS) hlen h0
variable {C:World→Prop} {Q:Act→World→Prop} {a:Act} {o:Oper} {rest:List Oper} {Vs:List VP} {env:List (Value×VP)}
theorem z09{c:Value}(hw:Region.wanted o (yielded ops a.tmps)=true)
 (h1:∀w,C w→(∀e∈o.after,Region.binds .any e=true→∀ (x:Value) (W:VP),env[e.on]? =some (x,W)→W x w)→z07 P o a w (Is c))
 (h2:∀K:Act→Prop,(∀a',z2V P ops C Q rest Vs (env++ [(c,Is c)]) a'→K a')→K (a.put o.dst c)):z2V P ops C Q (o::rest) (Is c::Vs) env a:=by
 refine⟨by rw [if_pos hw];exact h1,fun x ⟨w,_,hx⟩=> ?_⟩;obtain rfl:x=c:=hx;exact h2 _ fun _ h=>h
theorem z2B{V:VP}(hw:Region.wanted o (yielded ops a.tmps)=true)
 (h1:∀w,C w→(∀e∈o.after,Region.binds .any e=true→∀ (x:Value) (W:VP),env[e.on]? =some (x,W)→W x w)→z07 P o a w V)
 (h2:∀x,(∃w,C w∧V x w)→∀K:Act→Prop,(∀a',z2V P ops C Q rest Vs (env++ [(x,V)]) a'→K a')→K (a.put o.dst x)):z2V P ops C Q (o::rest) (V::Vs) env a:=
 ⟨by rw [if_pos hw];exact h1,fun x hx=>h2 x hx _ fun _ h=>h⟩
theorem z04(hw:Region.wanted o (yielded ops a.tmps)=false)(h2:∀K:Act→Prop,(∀a',z2V P ops C Q rest Vs (env++ [(undef,Is undef)]) a'→K a')→K (a.put o.dst undef)):z2V P ops C Q (o::rest) (Is undef::Vs) env a:=by
 refine⟨by rw [if_neg (by rw [hw];simp)];exact fun _ _=>rfl,fun x ⟨w,_,hx⟩=> ?_⟩;obtain rfl:x=undef:=hx;exact h2 _ fun _ h=>h
theorem z08(h:∀w,C w→(∀ (j:Nat) (x:Value) (W:VP),env[j]? =some (x,W)→W x w)→Q a w):z2V P ops C Q [] [] env a:=h
theorem z00(w:World)(v:Value):z0G P w (Is v) (.ok (.value v) w):=⟨Below.refl _ _,rfl⟩
theorem z0C{f:FuncId}{args:Array Value}{w:World}{v:Value}(h:Calls P f args w fun e w'=>e= .returned v∧Below w.heap.size w w'):z0G P w (Is v) (.ok (.enter f args) w):=
 ⟨Below.refl _ _,h.mono fun e w' ⟨he,hb⟩=>⟨v,he,hb,rfl⟩⟩
theorem z2d{f:FuncId}{args:Array Value}{w:World}{v:Value}(h:Calls P f args w fun e w'=>e= .returned v∧w=w'):z0G P w (Is v) (.ok (.enter f args) w):=
 z0C (h.mono fun _ _ ⟨he,hw⟩=>⟨he,hw▸Below.refl _ _⟩)
end
end
section
open Go Go.RowKit
def VBs(l:List UInt8):VP:=fun v w=>Bs (fun _=>True) w v l
theorem Bs.later{S:Nat→Prop}{w w':World}{v:Value}{l:List UInt8}(h:Bs S w v l)(hb:Below w.heap.size w w'):Bs S w' v l:=by
 obtain⟨A,c,rfl,h3,h4,h5,h6⟩:=h.at;refine Bs.mk_ h3 h4 h5 fun hn=> ?_
 obtain⟨b,o,hA,hS,hc⟩:=h6 hn;exact⟨b,o,hA,hS,fun j hj=>cell_later hb (hc j hj)⟩
theorem Stays.bs(l:List UInt8):Stays (VBs l):=fun _ _ _ hb h=>Bs.later h hb
theorem z9O(s:List UInt8)(w:World)(hs:s.length≤65536):
 Calls Tryz.prog 204 #[.string (st s)] w fun e w'=>e= .returned (.int .i64 ((z0Q s).length:Int))∧w=w':=by
 have hwr:IntKind.u64.wrap (s.length:Int)=(s.length:Int):=z0l (by omega) (by unfold U64;omega);have h64:s.length<U64:=by unfold U64;omega
 have h10:=z06 h64;have HT:=zz (z0v s hs);go_enter Tryz.func204,Tryz.ntmps204
 go_wp2_with fail
 refine(z8f s.length w h64).mono ?_;rintro e w1 ⟨rfl,rfl⟩;have hadd:IntKind.i64.wrap (((z0A s.length).length:Int)+(s.length:Int))=((z0A s.length).length:Int)+(s.length:Int):=IntWalk.i64_in _ (by omega);generalize (z0A s.length).length=a at*;go_wp2_with fail
 go_ret
 exact⟨by rw [HT.out];simp,rfl⟩
def Mid(cs:List Cel):Prop:=cs.length≤1000000∧∀c∈cs,c.1.length≤65536∧c.2.length≤65536
theorem z5Q(S:Nat→Prop)(v0:Value)(cs:List Cel)(w:World)(hm:Mid cs)(hr:Cs S w v0 cs):
 Calls Tryz.prog 196 #[v0] w fun e w'=>e= .returned (.int .i64 (z0D cs:Int))∧Below w.heap.size w w':=by
 have hlt:=hr.lt;obtain⟨A,c,rfl,hlc,hcm,hA0,hA⟩:=hlt.at;have HA:=zz hA;have HX:=zz hm.2;have hml:=hm.1;clear hA hr hlt;go_enter Tryz.func196,Tryz.ntmps196
 go_wp2_with fail
 go_loopw [3,8] (fun nv iv wr=>∃i:Nat,iv= .int .i64 (i:Int)∧nv= .int .i64 (z0D (cs.take i):Int)∧i≤cs.length∧Below w.heap.size w wr) (fun _ iv _=>cs.length-(intOf iv).toNat)
 case atStart=>exact⟨0,rfl,rfl,by omega,Below.refl _ _⟩
 case round=>
  obtain⟨i,rfl,rfl,hi,hbl⟩:=hrel;have hsz:=hbl.size;by_cases hil:i<cs.length
  ·obtain⟨b,o,rfl,hbs,hc⟩:=HA.out (by omega);have c0:wr.cell? ⟨b,o+i*2,none⟩=some (.string (st cs[i].1)):=(hbl.cell (p:=⟨b,o+i*2,none⟩) hbs).trans (hc i hil).1;have c1:wr.cell? ⟨b,o+i*2+1,none⟩=some (.string (st cs[i].2)):=(hbl.cell (p:=⟨b,o+i*2+1,none⟩) hbs).trans (hc i hil).2;have hx:=HX.out _ (List.getElem_mem hil);have HS:=zz (z2L hil);have hb1:=zF6 hx;have hN:z0D (cs.take i)≤131092*1000000:=by
    have:=z4Q (cs.take i) (fun c hc=>HX.out c (List.mem_of_mem_take hc));rw [List.length_take]at this;have h2:min i cs.length≤1000000:=by omega
    exact Nat.le_trans this (Nat.mul_le_mul_left _ h2)
   generalize z0D (cs.take i)=N at*;obtain⟨x,hx0⟩:∃x,cs[i]=x:=⟨_,rfl⟩;rw [hx0]at c0 c1 hx HS hb1;clear hx0 hc;obtain⟨k,v⟩:=x;simp only at c0 c1 hx;have HE:Hid ((z2b (k,v)).length=(z0Q k).length+(z0Q v).length):=by unfold z2b;rw [Hid,List.length_append]
   have l1:=z2t hx.1;have l2:=z2t hx.2;have s1:=fun(w:World)=>z9O k w hx.1
   have s2:=fun(w:World)=>z9O v w hx.2
   have hn:=Blk.new wr 121 #[.string (st k),.string (st v)];have e0:(wr.alloc (.cells #[.string (st k),.string (st v)] 121)).cell? ⟨wr.heap.size,0,none⟩=some (.string (st k)):=hn.cell 0;have e1:(wr.alloc (.cells #[.string (st k),.string (st v)] 121)).cell? ⟨wr.heap.size,1,none⟩=some (.string (st v)):=hn.cell 1;have q1:=hbl.alloc hsz (.cells #[.string (st k),.string (st v)] 121);have hw1:IntKind.i64.wrap (((z0Q k).length:Int)+((z0Q v).length:Int))=((z0Q k).length:Int)+((z0Q v).length:Int):=IntWalk.i64_in _ (by omega);have hw2:IntKind.i64.wrap ((N:Int)+(((z0Q k).length:Int)+((z0Q v).length:Int)))=(N:Int)+(((z0Q k).length:Int)+((z0Q v).length:Int)):=IntWalk.i64_in _ (by omega);generalize (z0Q k).length=a at*;generalize (z0Q v).length=b' at*;go_wp2_with fail
   refine z01 (by kernel_rfl) (by kernel_rfl) ?_;apply Exists.intro;apply And.intro
   ·repeat(first
     |(apply z04 rfl
       intro K hK;go_simp;refine hK _ ?_;clear hK K)
     |(apply z09 rfl
       ·intro wg hwg _;have c0':=cell_later hwg e0;have c1':=cell_later hwg e1;unfold z07;go_simp
        first
         |exact z00 _ _
         |(apply z2d;go_at_call_of 204 (Value.string (st k));exact s1 _)
         |(apply z2d;go_at_call_of 204 (Value.string (st v));exact s2 _)
       intro K hK;go_simp;refine hK _ ?_;clear hK K))
    refine z08 (fun wg hwg _=> ?_);go_wp2_with fail
    go_roundw
    case rel=>exact⟨i+1,by go_num,by rw [HS.out,HE.out];go_num,by omega,q1.trans (hwg.mono q1.size)⟩
    case measure=>simp [intOf];omega
   ·apply And.intro
    ·repeat(first|exact trivial|(refine⟨Stays.is _,?_⟩)|(refine⟨Stays.bs _,?_⟩)|(refine⟨Stays.pg _ _ _,?_⟩))
    ·rfl
  ·obtain rfl:i=cs.length:=by omega
   rw [List.take_length];go_wp2_with fail
   go_ret
   exact⟨rfl,hbl⟩
theorem z6e(k v:List UInt8)(w:World)(hk:k.length≤65536)(hv:v.length≤65536):
 Calls Tryz.prog 185 #[.agg #[.string (st k),.string (st v)]] w fun e w'=>e= .returned (.bool (decide (480<k.length+v.length)))∧Below w.heap.size w w':=by
 have hn:=Blk.new w 121 #[.string (st k),.string (st v)];have q1:Below w.heap.size w (w.alloc (.cells #[.string (st k),.string (st v)] 121)):=(Below.refl _ _).alloc (Nat.le_refl _) _;have hw1:IntKind.i64.wrap ((k.length:Int)+(v.length:Int))=(k.length:Int)+(v.length:Int):=IntWalk.i64_in _ (by omega);go_enter Tryz.func185,Tryz.ntmps185
 go_wp2_with fail
 go_ret
 refine⟨?_,q1⟩;have:decide ((480:Int)<(k.length:Int)+(v.length:Int))=decide (480<k.length+v.length):=by rw [decide_eq_decide];omega
 simp [←this]
theorem zGJ(S:Nat→Prop)(leaf:Bool)(next:Int)(nn a:Nat)(v0:Value)(cs:List Cel)(w:World)(hm:Mid cs)(hr:Cs S w v0 cs)(hcase:(next<0∧nn=0)∨next=(nn:Int))(h64:nn<9223372036854775808)(ha:a≤10)
 (s1:∀w,Calls Tryz.prog 195 #[.int .u64 (nn:Int)] w fun e w'=>e= .returned (.int .i64 (a:Int))∧w=w'):
 Calls Tryz.prog 182 #[.agg #[.bool leaf,.int .i64 next,v0]] w fun e w'=>e= .returned (.int .i64 ((1+a+(z0A cs.length).length+z0D cs+4:Nat):Int))∧Below w.heap.size w w':=by
 have HR:=zz hr.lt;obtain⟨A,c,rfl,hlc,hcm,hA0,_⟩:=hr.at;have hb:=Blk.new w 186 #[.bool leaf,.int .i64 next,.slice A cs.length c];have e1:(w.alloc (.cells #[.bool leaf,.int .i64 next,.slice A cs.length c] 186)).cell? ⟨w.heap.size,1,none⟩=some (.int .i64 next):=hb.cell 1;have e2:(w.alloc (.cells #[.bool leaf,.int .i64 next,.slice A cs.length c] 186)).cell? ⟨w.heap.size,2,none⟩=some (.slice A cs.length c):=hb.cell 2;have q1:Below w.heap.size w (w.alloc (.cells #[.bool leaf,.int .i64 next,.slice A cs.length c] 186)):=(Below.refl _ _).alloc (Nat.le_refl _) _;have hc64:cs.length<U64:=by have:=hm.1;unfold U64;omega
 have s2:=fun(w:World)=>z8f cs.length w hc64
 have s3:Hid (∀wg,Below (w.alloc (.cells #[.bool leaf,.int .i64 next,.slice A cs.length c] 186)).heap.size (w.alloc (.cells #[.bool leaf,.int .i64 next,.slice A cs.length c] 186)) wg→Calls Tryz.prog 196 #[.slice A cs.length c] wg fun e w'=>e= .returned (.int .i64 (z0D cs:Int))∧Below wg.heap.size wg w'):=
  fun wg hwg=>z5Q _ _ cs wg hm (HR.out.up (q1.trans (hwg.mono q1.size)))
 have l2:=z06 hc64;have l3:z0D cs≤131092*1000000:=Nat.le_trans (z4Q cs hm.2) (Nat.mul_le_mul_left _ hm.1);have hml:=hm.1;have hw1:IntKind.u64.wrap (nn:Int)=(nn:Int):=z0l (by omega) (by unfold U64;omega);have hw2:IntKind.u64.wrap (cs.length:Int)=(cs.length:Int):=z0l (by omega) (by unfold U64;omega);generalize (z0A cs.length).length=b at*;generalize z0D cs=N at*;have hw0:IntKind.u64.wrap 0=0:=by decide
 have hif:(if(nn:Int)<0 then(0:Int)else(nn:Int))=(nn:Int):=if_neg (by omega);rcases hcase with⟨h0,rfl⟩|rfl
 all_goals
  go_enter Tryz.func182,Tryz.ntmps182
  go_wp2_with fail
  refine z01 (by kernel_rfl) (by kernel_rfl) ?_;apply Exists.intro;apply And.intro
  ·repeat(first
    |(apply z04 rfl
      intro K hK;go_simp;refine hK _ ?_;clear hK K)
    |(apply z09 rfl
      ·intro wg hwg _;have c1':=cell_later hwg e1;have c2':=cell_later hwg e2;unfold z07;go_simp
       first
        |exact z00 _ _
        |(apply z2d;go_at_call_of 195 (Value.int .u64 0);exact s1 _)
        |(apply z2d;go_at_call_of 195 (Value.int .u64 (nn:Int));exact s1 _)
        |(apply z2d;go_at_call_of 195 (Value.int .u64 (cs.length:Int));exact s2 _)
        |(apply z0C;go_at_call 196;exact s3.out wg hwg)
      intro K hK;go_simp;refine hK _ ?_;clear hK K))
   refine z08 (fun wg hwg _=> ?_);go_wp2_with fail
   go_ret
   exact⟨by simp [IntKind.wrap,IntKind.bits,IntKind.signed];omega,q1.trans (hwg.mono q1.size)⟩
  ·apply And.intro
   ·repeat(first|exact trivial|(refine⟨Stays.is _,?_⟩)|(refine⟨Stays.bs _,?_⟩)|(refine⟨Stays.pg _ _ _,?_⟩))
   ·rfl
theorem zAF(S:Nat→Prop)(leaf:Bool)(next:Int)(v0:Value)(cs:List Cel)(w:World)(hn: -9223372036854775808≤next∧next≤9223372036854775807)(hm:Mid cs)(hr:Cs S w v0 cs):
 Calls Tryz.prog 182 #[.agg #[.bool leaf,.int .i64 next,v0]] w fun e w'=>e= .returned (.int .i64 (z4W next cs:Int))∧Below w.heap.size w w':=
 zGJ S leaf next next.toNat _ v0 cs w hm hr (by omega) (by omega) (z06 (by unfold U64;omega)) fun w=>z8f next.toNat w (by unfold U64;omega)
theorem z6W(cs:List Cel):z2U cs 0=none:=by unfold z2U;rw [if_pos rfl]
theorem zAh{cs:List Cel}{i:Nat}(h:i<cs.length):z2U cs (i+1)=some cs[i].1:=by
 unfold z2U;rw [if_neg (by omega),Nat.add_sub_cancel,List.getElem?_eq_getElem h];rfl
theorem z7g(S:Nat→Prop)(leaf:Bool)(next:Int)(v0:Value)(cs:List Cel)(w:World)(hn: -9223372036854775808≤next∧next≤9223372036854775807)(hm:Mid cs)(hr:Cs S w v0 cs):
 Calls Tryz.prog 172 #[.agg #[.bool leaf,.int .i64 next,v0]] w fun e w'=>e= .returned (.int .i64 (z10 next cs:Int))∧Below w.heap.size w w':=by
 have HR:=zz hr.lt;have hlt:=hr.lt;obtain⟨A,c,rfl,hlc,hcm,hA0,hA⟩:=hlt.at;have HA:=zz hA;have hb:=Blk.new w 186 #[.bool leaf,.int .i64 next,.slice A cs.length c];have e1:(w.alloc (.cells #[.bool leaf,.int .i64 next,.slice A cs.length c] 186)).cell? ⟨w.heap.size,1,none⟩=some (.int .i64 next):=hb.cell 1;have e2:(w.alloc (.cells #[.bool leaf,.int .i64 next,.slice A cs.length c] 186)).cell? ⟨w.heap.size,2,none⟩=some (.slice A cs.length c):=hb.cell 2;have q1:Below w.heap.size w (w.alloc (.cells #[.bool leaf,.int .i64 next,.slice A cs.length c] 186)):=(Below.refl _ _).alloc (Nat.le_refl _) _;clear hA hr hlt;by_cases hnx:next<0∨256<next
 ·have HC:Hid (z10 next cs=101):=by unfold z10;rw [Hid,if_pos hnx]
  rcases Decidable.em (next<0)with h0|h0
  case' inl=>have hx:=h0
  case' inr=>have hx:256<next:=hnx.resolve_left h0
  all_goals
   clear hnx;go_enter Tryz.func172,Tryz.ntmps172
   go_wp2_with fail
   go_ret
   rw [HC.out];exact⟨rfl,q1⟩
 ·have h0:¬next<0:=fun h=>hnx (.inl h)
  have h1:¬256<next:=fun h=>hnx (.inr h)
  have HC:Hid (z10 next cs=if chk none cs≠0 then chk none cs else if 2048<z4W next cs then 100 else 0):=by unfold z10;rw [Hid,if_neg hnx]
  have HX:=zz hm.2;have hml:=hm.1;have HM:=zz hm;clear hnx hm;go_enter Tryz.func172,Tryz.ntmps172
  go_wp2_with fail
  generalize hW:w.alloc (.cells #[.bool leaf,.int .i64 next,.slice A cs.length c] 186)=W at*;clear hW;have HB:=zz hb;have hBW:=hb.lt;go_loopw [16] (fun iv wr=>∃i:Nat,iv= .int .i64 (i:Int)∧i≤cs.length∧Hid (chk none cs=chk (z2U cs i) (cs.drop i))∧Below W.heap.size W wr) (fun iv _=>cs.length-(intOf iv).toNat)
  case atStart=>exact⟨0,rfl,by omega,by rw [z6W];rfl,Below.refl _ _⟩
  case round=>
   obtain⟨i,rfl,hi,hck,hbl⟩:=hrel;have hsz:=hbl.size;have qr:=q1.trans (hbl.mono q1.size);by_cases hil:i<cs.length
   ·obtain⟨b,o,rfl,hbs,hc⟩:=HA.out (by omega);have c0:wr.cell? ⟨b,o+i*2,none⟩=some (.string (st cs[i].1)):=(qr.cell (p:=⟨b,o+i*2,none⟩) hbs).trans (hc i hil).1;have c1:wr.cell? ⟨b,o+i*2+1,none⟩=some (.string (st cs[i].2)):=(qr.cell (p:=⟨b,o+i*2+1,none⟩) hbs).trans (hc i hil).2;have hx:=HX.out _ (List.getElem_mem hil);have HD:=zz (hck.out.trans (zHR hil));have hbx:=HB.out.later hbl;obtain⟨x,hx0⟩:∃x,cs[i]=x:=⟨_,rfl⟩;rw [hx0]at c0 c1 hx HD;have HX0:=zz hx0;clear hx0;obtain⟨k,v⟩:=x;simp only at c0 c1 hx HD;have hn4:=Blk.new wr 121 #[.string (st k),.string (st v)];have hbx4:=hbx.alloc (.cells #[.string (st k),.string (st v)] 121);have q4:=hbl.alloc hsz (.cells #[.string (st k),.string (st v)] 121);have e4:(wr.alloc (.cells #[.string (st k),.string (st v)] 121)).cell? ⟨wr.heap.size,0,none⟩=some (.string (st k)):=hn4.cell 0;have hc':∀j (hj:j<cs.length),(wr.alloc (.cells #[.string (st k),.string (st v)] 121)).cell? ⟨b,o+j*2,none⟩=some (.string (st cs[j].1)):=fun j hj=>((qr.alloc (Nat.le_trans q1.size hsz) _).cell (p:=⟨b,o+j*2,none⟩) hbs).trans (hc j hj).1
    have HCC:=zz hc';clear hc hc';go_wp2_with fail
    refine(z6e k v _ hx.1 hx.2).mono ?_;rintro e w5 ⟨rfl,hbl5⟩;have hbx5:=hbx4.later hbl5;have q5:=q4.trans (hbl5.mono q4.size);by_cases hg:480<k.length+v.length
    ·have HE:Hid (z10 next cs=100):=by
      have h:=HD.out;rw [if_pos hg]at h;rw [Hid,HC.out,if_pos (by rw [h];decide),h]
     have t0:decide (480<k.length+v.length)=true:=decide_eq_true hg;clear hg HD HC;go_wp2_with fail
     go_ret
     rw [HE.out];exact⟨rfl,q1.trans (q5.mono q1.size)⟩
    ·have t0:decide (480<k.length+v.length)=false:=decide_eq_false hg;have HD2:Hid (chk none cs=if zAI (z2U cs i) k=true then 101 else chk (z2U cs (i+1)) (cs.drop (i+1))):=by
      have h:=HD.out;rw [if_neg hg]at h;exact h
     have e5:=cell_later hbl5 e4;have g2:w5.cell? ⟨w.heap.size,2,none⟩=some (.slice (some ⟨b,o,none⟩) cs.length c):=hbx5.cell 2;clear hg HD;rcases i with _|j
     ·have HD3:Hid (chk none cs=chk (z2U cs 1) (cs.drop 1)):=by
       have h:=HD2.out;rw [z6W]at h;rw [if_neg (by simp [zAI])]at h;exact h
      go_wp2_with fail
      refine z01 (by kernel_rfl) (by kernel_rfl) ?_;apply Exists.intro;apply And.intro
      ·repeat(first
        |(apply z04 rfl
          intro K hK;go_simp;refine hK _ ?_;clear hK K)
        |(apply z09 rfl
          ·intro wg hwg _
           skip
           unfold z07;go_simp
           first
            |exact z00 _ _
          intro K hK;go_simp;refine hK _ ?_;clear hK K))
       refine z08 (fun wg hwg _=> ?_);go_wp2_with fail
       go_roundw
       case rel=>exact⟨1,by go_num,by omega,HD3,q5.trans (hwg.mono q5.size)⟩
       case measure=>simp [intOf];omega
      ·apply And.intro
       ·repeat(first|exact trivial|(refine⟨Stays.is _,?_⟩)|(refine⟨Stays.bs _,?_⟩)|(refine⟨Stays.pg _ _ _,?_⟩))
       ·rfl
     ·have hjl:j<cs.length:=by omega
      have c5:=cell_later hbl5 (HCC.out j hjl);have HP:=zz (zAh hjl);obtain⟨p,hp⟩:∃p,cs[j].1=p:=⟨_,rfl⟩;rw [hp]at c5 HP;have hib:(0:Int)≤(j:Int):=by omega
      have hwj:IntKind.i64.wrap (j:Int)=(j:Int):=IntWalk.i64_in _ (by omega);cases hbs2:Op.bytesLess p k with
      |true=>
       have HD3:Hid (chk none cs=chk (z2U cs (j+1+1)) (cs.drop (j+1+1))):=by
        have h:=HD2.out;rw [HP.out,if_neg (by simp [zAI,hbs2])]at h;exact h
       clear hp;go_wp2_with fail
       refine z01 (by kernel_rfl) (by kernel_rfl) ?_;apply Exists.intro;apply And.intro
       ·repeat(first
         |(apply z04 rfl
           intro K hK;go_simp;refine hK _ ?_;clear hK K)
         |(apply z09 rfl
           ·intro wg hwg _;have c5':=cell_later hwg c5;have e5':=cell_later hwg e5;have g2':=cell_later hwg g2;unfold z07;go_simp
            first
             |exact z00 _ _
           intro K hK;go_simp;refine hK _ ?_;clear hK K))
        refine z08 (fun wg hwg _=> ?_);go_wp2_with fail
        go_roundw
        case rel=>exact⟨j+1+1,by go_num,by omega,HD3,q5.trans (hwg.mono q5.size)⟩
        case measure=>simp [intOf];omega
       ·apply And.intro
        ·repeat(first|exact trivial|(refine⟨Stays.is _,?_⟩)|(refine⟨Stays.bs _,?_⟩)|(refine⟨Stays.pg _ _ _,?_⟩))
        ·rfl
      |false=>
       have HE:Hid (z10 next cs=101):=by
        have h:=HD2.out;rw [HP.out,if_pos (by simp [zAI,hbs2])]at h;rw [Hid,HC.out,if_pos (by rw [h];decide),h]
       clear hp;go_wp2_with fail
       refine z01 (by kernel_rfl) (by kernel_rfl) ?_;apply Exists.intro;apply And.intro
       ·repeat(first
         |(apply z04 rfl
           intro K hK;go_simp;refine hK _ ?_;clear hK K)
         |(apply z09 rfl
           ·intro wg hwg _;have c5':=cell_later hwg c5;have e5':=cell_later hwg e5;have g2':=cell_later hwg g2;unfold z07;go_simp
            first
             |exact z00 _ _
           intro K hK;go_simp;refine hK _ ?_;clear hK K))
        refine z08 (fun wg hwg _=> ?_);go_wp2_with fail
        go_ret
        rw [HE.out];exact⟨rfl,q1.trans ((q5.trans (hwg.mono q5.size)).mono q1.size)⟩
       ·apply And.intro
        ·repeat(first|exact trivial|(refine⟨Stays.is _,?_⟩)|(refine⟨Stays.bs _,?_⟩)|(refine⟨Stays.pg _ _ _,?_⟩))
        ·rfl
   ·obtain rfl:i=cs.length:=by omega
    have hbx:=HB.out.later hbl;have HE:Hid (z10 next cs=if 2048<z4W next cs then 100 else 0):=by
     have h:=hck.out;rw [zJY]at h;rw [Hid,HC.out,if_neg (by rw [h];decide)]
    have g0:wr.cell? ⟨w.heap.size,0,none⟩=some (.bool leaf):=hbx.cell 0;have g1:wr.cell? ⟨w.heap.size,1,none⟩=some (.int .i64 next):=hbx.cell 1;have g2:wr.cell? ⟨w.heap.size,2,none⟩=some (.slice A cs.length c):=hbx.cell 2;have HRr:=zz (HR.out.up qr);clear hck HC;go_wp2_with fail
    refine(zAF _ leaf next _ cs wr hn HM.out HRr.out).mono ?_;rintro e w6 ⟨rfl,hbl6⟩;generalize z4W next cs=N at*;by_cases hN:2048<N
    ·have HE2:Hid (z10 next cs=100):=by rw [Hid,HE.out,if_pos hN]
     clear HE;go_wp2_with fail
     go_ret
     rw [HE2.out];exact⟨rfl,qr.trans (hbl6.mono qr.size)⟩
    ·have HE2:Hid (z10 next cs=0):=by rw [Hid,HE.out,if_neg hN]
     clear HE;go_wp2_with fail
     go_ret
     rw [HE2.out];exact⟨rfl,qr.trans (hbl6.mono qr.size)⟩
theorem Co.nil(w:World)(B:Nat):Co w B (.slice none 0 0) []:=World.ownsRow_nil w B _ 2
theorem Co.later{w w':World}{B:Nat}{v:Value}{cs:List Cel}(h:Co w B v cs)(hb:Below w.heap.size w w'):Co w' B v cs:=by
 obtain⟨h1,h2⟩:=h;refine⟨h1,?_⟩;rcases h2 with h2|⟨g,cap,cur,hv,hg,hh,r⟩
 ·exact .inl h2
 ·exact .inr ⟨g,cap,cur,hv,hg,(hb.block g (lt_of_block hh)).trans hh,r⟩
theorem z2i(S:Nat→Prop)(v0:Value)(cs:List Cel)(w:World)(hl:cs.length≤1000000)(hr:Cs S w v0 cs):
 Calls Tryz.prog 181 #[v0] w fun e w'=>∃A c,e= .returned (.slice A cs.length c)∧Co w' w.heap.size (.slice A cs.length c) cs∧Below w.heap.size w w':=by
 have HR:=zz hr.lt;obtain⟨A,c,rfl,hlc,hcm,hA0,_⟩:=hr.at;clear hr;rcases A with _|ad
 ·obtain rfl:c=0:=hA0 rfl;have hl0:cs.length=0:=by omega
  obtain rfl:cs= []:=List.eq_nil_of_length_eq_zero hl0;have hnil:=Lib.run_eql_slice_nil (P:=Tryz.prog);go_enter Tryz.func181,Tryz.ntmps181
  go_wp2_with fail
  go_ret
  exact⟨none,0,rfl,Co.nil _ _,Below.refl _ _⟩
 ·have hma:(w.alloc (.cells #[] 121)).ownsRow w.heap.size 121 2 (.slice (some ⟨w.heap.size,0,none⟩) 0 0) 0 []:=World.ownsRow_made w #[] 0 (Nat.le_refl _) (by simp [maxLen]) (by simp);have HA:=zz (HR.out.up ((Below.refl _ _).alloc (Nat.le_refl _) (.cells #[] 121)));have hnil:=Lib.run_eql_slice_nil (P:=Tryz.prog);go_enter Tryz.func181,Tryz.ntmps181
  go_wp2_with (at_builtin;refine z05 _ rfl (.tmp 5) (.tmp 6) elemCel rfl hma HA.out rfl rfl (z4K _) (by simp only [maxLen];omega) (by omega) (by simp) ?_;intro A1 k1 c1 w1 hown1 hg1 hat1)
  go_ret
  rw [Nat.zero_add,List.nil_append]at hown1;obtain rfl:=z0V hown1;exact⟨A1,c1,rfl,hown1,z02 ((Below.refl _ _).alloc (Nat.le_refl _) _) hma hg1 (by simp)⟩
theorem Blk.new1(w:World)(o:Obj)(t:TypeId)(cs:Array Value):Blk ((w.alloc o).alloc (.cells cs t)) (w.heap.size+1) t cs:=by
 have:=Blk.new (w.alloc o) t cs;simpa using this
theorem Blk.put3{w:World}{g:Nat}{t:TypeId}{a b c:Value}(h:Blk w g t #[a,b,c])(x y z:Value):
 Blk (((w.setCell ⟨g,0,none⟩ x).setCell ⟨g,1,none⟩ y).setCell ⟨g,2,none⟩ z) g t #[x,y,z]:=((h.put 0 x).put 1 y).put 2 z
theorem z0b{B:Nat}{w0 w:World}{g:Nat}(h:Below B w0 w)(hg:B≤g)(x y z:Value):Below B w0 (((w.setCell ⟨g,0,none⟩ x).setCell ⟨g,1,none⟩ y).setCell ⟨g,2,none⟩ z):=
 ((h.setCell hg _).setCell hg _).setCell hg _
theorem Cs.tight{S:Nat→Prop}{w:World}{cs:List Cel}{A:Option Addr}{c:Nat}(h:Cs S w (.slice A cs.length c) cs)(hA:A=none→cs.length=0):Cs S w (.slice A cs.length cs.length) cs:=by
 obtain⟨h1,A',c',hv,h3,h4,h5,h6⟩:=h;injection hv with hA' _ hc
 subst hA' hc;exact⟨h1,_,cs.length,rfl,Nat.le_refl _,Nat.le_trans h3 h4,hA,h6⟩
theorem z4y(S:Nat→Prop)(leaf:Bool)(next:Int)(vo v0:Value)(cs:List Cel)(w:World)(hr:Cs S w v0 cs):
 Calls Tryz.prog 179 #[.agg #[.bool leaf,.int .i64 next,vo],v0] w fun e w'=>∃A c,e= .returned (.agg #[.bool leaf,.int .i64 next,.slice A cs.length c])∧Cs (fun b=>S b∧b<w.heap.size) w' (.slice A cs.length c) cs∧Below w.heap.size w w':=by
 have HR:=zz (Sl.lt hr (by omega));obtain⟨A,c,rfl,hlc,hcm,hA0,_⟩:=hr.at;have hA1:A=none→cs.length=0:=fun h=>by have:=hA0 h;omega
 have HT:=zz (Cs.tight HR.out hA1);clear hr;rcases A with _|ad
 ·obtain rfl:cs= []:=List.eq_nil_of_length_eq_zero (hA1 rfl);go_enter Tryz.func179,Tryz.ntmps179
  go_wp2_with fail
  exact bodyPost_ret (z26 rfl _ _ (w.heap.size+1) rfl (Blk.new1 _ _ _ _) z1r) rfl ⟨none,0,rfl,Sl.nil,((Below.refl _ _).alloc (Nat.le_refl _) _).alloc (by simp) _⟩
 ·go_enter Tryz.func179,Tryz.ntmps179
  go_wp2_with fail
  have q2:Below w.heap.size w ((w.alloc (.cells #[.bool leaf,.int .i64 next,.slice (some ad) cs.length cs.length] 186)).alloc (.cells #[.bool leaf,.int .i64 next,.slice (some ad) cs.length cs.length] 186)):=((Below.refl _ _).alloc (Nat.le_refl _) _).alloc (by simp) _;exact bodyPost_ret (z26 rfl _ _ (w.heap.size+1) rfl (Blk.new1 _ _ _ _) z1r) rfl ⟨some ad,cs.length,rfl,Sl.below HT.out q2 (fun _ h=>h.2),q2⟩
structure HalfAt(cs:List Cel)(k:Nat):Prop where
 lo:1≤k
 hi:k+1≤cs.length
 less:∀j,1≤j→j<k→2*z0D (cs.take j)<z0D cs
 stop:k+1=cs.length∨z0D cs≤2*z0D (cs.take k)
theorem HalfAt.only{cs:List Cel}{k j:Nat}(h:HalfAt cs k)(h':HalfAt cs j):k=j:=by
 rcases Nat.lt_trichotomy k j with hl|rfl|hl
 ·have h1:=h'.less k h.lo hl;have h2:=h.stop;have h3:=h'.hi;omega
 ·rfl
 ·have h1:=h.less j h'.lo hl;have h2:=h'.stop;have h3:=h.hi;omega
def PgIs(B:Nat)(w:World)(v:Value)(leaf:Bool)(next:Int)(cs:List Cel):Prop:=
 ∃A c,v= .agg #[.bool leaf,.int .i64 next,.slice A cs.length c]∧Cs (fun b=>B≤b∧b<w.heap.size) w (.slice A cs.length c) cs
theorem zIG(S:Nat→Prop)(leaf:Bool)(next:Int)(v0:Value)(cs:List Cel)(w:World)(hr:Cs S w v0 cs)(hs:cs.length<2):
 Calls Tryz.prog 187 #[.agg #[.bool leaf,.int .i64 next,v0]] w fun e w'=>e= .returned (.tuple #[.agg #[.bool false,.int .i64 0,.slice none 0 0],.agg #[.bool false,.int .i64 0,.slice none 0 0],.int .i64 103])∧Below w.heap.size w w':=by
 obtain⟨A,c,rfl,hlc,hcm,hA0,_⟩:=hr.at;clear hr;go_enter Tryz.func187,Tryz.ntmps187
 go_wp2_with fail
 have b1:Blk (((w.alloc (.cells #[.bool leaf,.int .i64 next,.slice A cs.length c] 186)).alloc (.cells #[.bool false,.int .i64 0,.slice none 0 0] 186)).alloc (.cells #[.bool false,.int .i64 0,.slice none 0 0] 186)) (w.heap.size+1) 186 #[.bool false,.int .i64 0,.slice none 0 0]:=(Blk.new1 _ _ _ _).alloc _;have b2:Blk (((w.alloc (.cells #[.bool leaf,.int .i64 next,.slice A cs.length c] 186)).alloc (.cells #[.bool false,.int .i64 0,.slice none 0 0] 186)).alloc (.cells #[.bool false,.int .i64 0,.slice none 0 0] 186)) (w.heap.size+1+1) 186 #[.bool false,.int .i64 0,.slice none 0 0]:=by
  have:=Blk.new1 (w.alloc (.cells #[.bool leaf,.int .i64 next,.slice A cs.length c] 186)) (.cells #[.bool false,.int .i64 0,.slice none 0 0] 186) 186 #[.bool false,.int .i64 0,.slice none 0 0];simpa using this
 exact bodyPost_ret (z2E rfl _ _ (w.heap.size+1) (w.heap.size+1+1) rfl rfl b1 b2 z1r z1r) rfl ⟨rfl,(((Below.refl _ _).alloc (Nat.le_refl _) _).alloc (by simp) _).alloc (by simp;omega) _⟩
theorem Blk.put33{w:World}{g1 g2:Nat}{t t':TypeId}{a b c a' b' c':Value}(h:Blk w g1 t #[a,b,c])(h':Blk w g2 t' #[a',b',c'])(hne:g1≠g2)(x y z u v r:Value):
 Blk ((((((w.setCell ⟨g1,0,none⟩ x).setCell ⟨g1,1,none⟩ y).setCell ⟨g1,2,none⟩ z).setCell ⟨g2,0,none⟩ u).setCell ⟨g2,1,none⟩ v).setCell ⟨g2,2,none⟩ r) g1 t #[x,y,z]∧
 Blk ((((((w.setCell ⟨g1,0,none⟩ x).setCell ⟨g1,1,none⟩ y).setCell ⟨g1,2,none⟩ z).setCell ⟨g2,0,none⟩ u).setCell ⟨g2,1,none⟩ v).setCell ⟨g2,2,none⟩ r) g2 t' #[u,v,r]:=
 ⟨(((h.put3 x y z).far (p:=⟨g2,0,none⟩) hne u).far (p:=⟨g2,1,none⟩) hne v).far (p:=⟨g2,2,none⟩) hne r,
  Blk.put3 (((h'.far (p:=⟨g1,0,none⟩) hne.symm x).far (p:=⟨g1,1,none⟩) hne.symm y).far (p:=⟨g1,2,none⟩) hne.symm z) u v r⟩
theorem Cs.put33{S:Nat→Prop}{w:World}{sl:Value}{cs:List Cel}{g1 g2 L B:Nat}(h:Cs S w sl cs)(hS:∀b,S b→L≤b∧b<w.heap.size)(h1:g1<L)(h2:g2<L)(hB:B≤L)(x y z u v r:Value):
 Cs (fun b=>B≤b∧b<((((((w.setCell ⟨g1,0,none⟩ x).setCell ⟨g1,1,none⟩ y).setCell ⟨g1,2,none⟩ z).setCell ⟨g2,0,none⟩ u).setCell ⟨g2,1,none⟩ v).setCell ⟨g2,2,none⟩ r).heap.size)
  ((((((w.setCell ⟨g1,0,none⟩ x).setCell ⟨g1,1,none⟩ y).setCell ⟨g1,2,none⟩ z).setCell ⟨g2,0,none⟩ u).setCell ⟨g2,1,none⟩ v).setCell ⟨g2,2,none⟩ r) sl cs:=by
 have n1:¬S g1:=fun e=>by have:=(hS _ e).1;omega
 have n2:¬S g2:=fun e=>by have:=(hS _ e).1;omega
 refine Sl.more ((((((Sl.setCell h (p:=⟨g1,0,none⟩) n1 x).setCell (p:=⟨g1,1,none⟩) n1 y).setCell (p:=⟨g1,2,none⟩) n1 z).setCell (p:=⟨g2,0,none⟩) n2 u).setCell (p:=⟨g2,1,none⟩) n2 v).setCell (p:=⟨g2,2,none⟩) n2 r) fun b hb=> ?_
 have:=hS b hb;exact⟨by omega,by simpa using this.2⟩
theorem zCg(S:Nat→Prop)(leaf:Bool)(next:Int)(v0:Value)(cs:List Cel)(w:World)(hm:Mid cs)(hr:Cs S w v0 cs)(hs:2≤cs.length):
 Calls Tryz.prog 187 #[.agg #[.bool leaf,.int .i64 next,v0]] w fun e w'=>∃k va vb,e= .returned (.tuple #[va,vb,.int .i64 0])∧HalfAt cs k∧PgIs w.heap.size w' va leaf next (cs.take k)∧PgIs w.heap.size w' vb leaf next (cs.drop k)∧Below w.heap.size w w':=by
 have HR:=zz hr.lt;have hlt:=hr.lt;obtain⟨A,c,rfl,hlc,hcm,hA0,hA⟩:=hlt.at;obtain⟨b,o,rfl,hbs,_⟩:=hA (by omega);have HM:=zz hm;have hml:=hm.1;have hN:z0D cs≤131092*1000000:=Nat.le_trans (z4Q cs hm.2) (Nat.mul_le_mul_left _ hm.1);have hb0:Blk (((w.alloc (.cells #[.bool leaf,.int .i64 next,.slice (some ⟨b,o,none⟩) cs.length c] 186)).alloc (.cells #[.bool false,.int .i64 0,.slice none 0 0] 186)).alloc (.cells #[.bool false,.int .i64 0,.slice none 0 0] 186)) w.heap.size 186 #[.bool leaf,.int .i64 next,.slice (some ⟨b,o,none⟩) cs.length c]:=((Blk.new _ _ _).alloc _).alloc _;have hb1:Blk (((w.alloc (.cells #[.bool leaf,.int .i64 next,.slice (some ⟨b,o,none⟩) cs.length c] 186)).alloc (.cells #[.bool false,.int .i64 0,.slice none 0 0] 186)).alloc (.cells #[.bool false,.int .i64 0,.slice none 0 0] 186)) (w.heap.size+1) 186 #[.bool false,.int .i64 0,.slice none 0 0]:=(Blk.new1 _ _ _ _).alloc _;have hb2:Blk (((w.alloc (.cells #[.bool leaf,.int .i64 next,.slice (some ⟨b,o,none⟩) cs.length c] 186)).alloc (.cells #[.bool false,.int .i64 0,.slice none 0 0] 186)).alloc (.cells #[.bool false,.int .i64 0,.slice none 0 0] 186)) (w.heap.size+1+1) 186 #[.bool false,.int .i64 0,.slice none 0 0]:=by
  have:=Blk.new1 (w.alloc (.cells #[.bool leaf,.int .i64 next,.slice (some ⟨b,o,none⟩) cs.length c] 186)) (.cells #[.bool false,.int .i64 0,.slice none 0 0] 186) 186 #[.bool false,.int .i64 0,.slice none 0 0];simpa using this
 have q0:Below w.heap.size w (((w.alloc (.cells #[.bool leaf,.int .i64 next,.slice (some ⟨b,o,none⟩) cs.length c] 186)).alloc (.cells #[.bool false,.int .i64 0,.slice none 0 0] 186)).alloc (.cells #[.bool false,.int .i64 0,.slice none 0 0] 186)):=(((Below.refl _ _).alloc (Nat.le_refl _) _).alloc (by simp) _).alloc (by simp;omega) _;clear hA hr hlt hm;go_enter Tryz.func187,Tryz.ntmps187
 go_wp2_with fail
 generalize hW:(((w.alloc (.cells #[.bool leaf,.int .i64 next,.slice (some ⟨b,o,none⟩) cs.length c] 186)).alloc (.cells #[.bool false,.int .i64 0,.slice none 0 0] 186)).alloc (.cells #[.bool false,.int .i64 0,.slice none 0 0] 186))=W at*;clear hW;have HRW:=zz (HR.out.up q0);refine(z5Q _ _ cs W HM.out HRW.out).mono ?_;rintro e w1 ⟨rfl,hbl1⟩;have HB0:=zz hb0;have HB1:=zz hb1;have HB2:=zz hb2;have hWs:=hb2.lt;clear hb0 hb1 hb2;obtain⟨N,hNe⟩:∃N,z0D cs=N:=⟨_,rfl⟩;have HN:=zz hNe;rw [hNe]at hN ⊢;clear hNe;go_wp2_with fail
 go_loopw [6] (fun kv wr=>∃k:Nat,kv= .int .i64 (k:Int)∧1≤k∧k+1≤cs.length∧Hid (∀j,1≤j→j<k→2*z0D (cs.take j)<z0D cs)∧Below W.heap.size W wr) (fun kv _=>cs.length-(intOf kv).toNat)
 case atStart=>exact⟨1,rfl,by omega,by omega,fun j h1 h2=>by omega,hbl1⟩
 case round=>
  obtain⟨k,rfl,hk1,hk2,hless,hbl⟩:=hrel;have hsz:=hbl.size;have hb0:=HB0.out.later hbl;have d2:wr.cell? ⟨w.heap.size,2,none⟩=some (.slice (some ⟨b,o,none⟩) cs.length c):=hb0.cell 2;have HRr:=zz (HRW.out.up hbl);have HPR:=zz (Cs.pre HRr.out (show k≤cs.length by omega));have hsub:IntKind.i64.wrap ((cs.length:Int)-1)=(cs.length:Int)-1:=IntWalk.i64_in _ (by omega);have HMk:Hid (Mid (cs.take k)):=⟨by rw [List.length_take];omega,fun c hc=>HM.out.2 c (List.mem_of_mem_take hc)⟩;have hNk:z0D (cs.take k)≤N:=by rw [←HN.out];exact zCD
  by_cases hkl:k+2≤cs.length
  ·have hck:k≤c:=by omega
   go_wp2_with fail
   refine(z5Q _ _ (cs.take k) wr HMk.out HPR.out).mono ?_;rintro e w5 ⟨rfl,hbl5⟩;obtain⟨M,hMe⟩:∃M,z0D (cs.take k)=M:=⟨_,rfl⟩;have HME:=zz hMe;rw [hMe]at hNk ⊢;clear hMe;have hmul:IntKind.i64.wrap (2*(M:Int))=2*(M:Int):=IntWalk.i64_in _ (by omega);by_cases hlt:2*M<N
   ·go_wp2_with fail
    go_roundw
    case rel=>
     refine⟨k+1,by go_num,by omega,by omega,fun j h1 h2=> ?_,hbl.trans (hbl5.mono hsz)⟩;rcases Nat.lt_or_ge j k with h3|h3
     ·exact hless.out j h1 h3
     ·obtain rfl:j=k:=by omega
      rw [HME.out,HN.out];exact hlt
    case measure=>simp [intOf];omega
   ·have HH:Hid (HalfAt cs k):=⟨hk1,hk2,hless.out,.inr (by rw [HME.out,HN.out];omega)⟩;go_wp2_with fail
    obtain⟨wf,hwf⟩:∃wf:World,wf=w5:=⟨_,rfl⟩;subst hwf;have hF:=hbl.trans (hbl5.mono hsz);clear hbl5 d2 hb0 HRr HPR HMk;have hb0f:=HB0.out.later hF;have d0f:wf.cell? ⟨w.heap.size,0,none⟩=some (.bool leaf):=hb0f.cell 0;have d1f:wf.cell? ⟨w.heap.size,1,none⟩=some (.int .i64 next):=hb0f.cell 1;have d2f:wf.cell? ⟨w.heap.size,2,none⟩=some (.slice (some ⟨b,o,none⟩) cs.length c):=hb0f.cell 2;have HRf:=zz (HRW.out.up hF);have hp:=Cs.pre HRf.out (show k≤cs.length by omega);have hcut:=Cs.cut HRf.out (show k≤cs.length by omega);rw [if_neg (by omega)]at hcut;obtain⟨la,hla⟩:∃la,cs.take k=la:=⟨_,rfl⟩;obtain⟨lb,hlb⟩:∃lb,cs.drop k=lb:=⟨_,rfl⟩;have hll:la.length≤1000000:=by rw [←hla,List.length_take];omega
    have hll2:lb.length≤1000000:=by rw [←hlb,List.length_drop];omega
    rw [hla]at hp;rw [hlb]at hcut;have HLA:=zz hla;have HLB:=zz hlb;have HPf:=zz hp;have HCf:=zz hcut;have HB1f:=zz (HB1.out.later hF);have HB2f:=zz (HB2.out.later hF);have hkc:k≤c:=by omega
    have hszf:=hF.size;have hsp:IntKind.i64.wrap (k:Int)=(k:Int):=IntWalk.i64_in _ (by omega);have hne:¬c=k:=by omega
    have n1:¬w.heap.size=w.heap.size+1:=by omega
    have n2:¬w.heap.size+1=w.heap.size:=by omega
    have n3:¬w.heap.size=w.heap.size+1+1:=by omega
    have n4:¬w.heap.size+1+1=w.heap.size:=by omega
    have n5:¬w.heap.size+1=w.heap.size+1+1:=by omega
    have n6:¬w.heap.size+1+1=w.heap.size+1:=by omega
    have hk0:(0:Int)≤(k:Int):=by omega
    have hki:(k:Int)≤(cs.length:Int):=by omega
    have hkci:(k:Int)≤(c:Int):=by omega
    have hci:(cs.length:Int)≤(c:Int):=by omega
    clear hla hlb hp hcut;go_region_held3 (fun w'=>w'.cell? ⟨w.heap.size,0,none⟩=some (.bool leaf)∧w'.cell? ⟨w.heap.size,1,none⟩=some (.int .i64 next)∧w'.cell? ⟨w.heap.size,2,none⟩=some (.slice (some ⟨b,o,none⟩) cs.length c))
     (first
       |go_keep
       |(go_split_ands
         refine⟨?_,?_,?_⟩<;>(apply cell_later hbz;assumption)))
     ((first
       |(go_at_call_of 181 (Value.slice (some ⟨b,o,none⟩) k c);refine(z2i (fun b=>b<wf.heap.size) _ la _ (by omega) (by exact HPf.out)).mono ?_;rintro e w6 ⟨A6,c6,rfl,hco6,hbz⟩;have hq6:Below wf.heap.size wf w6:=⟨hbz.os,hbz.tape,hbz.output,hbz.size,hbz.block⟩;have hL6:∀b,(wf.heap.size≤b∧b<w6.heap.size)→wf.heap.size≤b∧b<w6.heap.size:=fun b h=>h)
       |(go_at_call_of 181 (Value.slice (some ⟨b,o+k*2,none⟩) (cs.length-k) (c-k));refine(z2i (fun b=>b<wf.heap.size) _ lb _ (by omega) (by exact HCf.out.later hq7)).mono ?_;rintro e w8 ⟨A8,c8,rfl,hco8,hbz⟩;have hz8:Below w7.heap.size w7 w8:=⟨hbz.os,hbz.tape,hbz.output,hbz.size,hbz.block⟩;have hq8:Below wf.heap.size wf w8:=hq7.trans (hz8.mono hq7.size))
       |(go_at_call 179;refine(z4y (fun b=>w7.heap.size≤b∧b<w8.heap.size) leaf next _ _ lb _ (by exact hco8.cs)).mono ?_;rintro e w9 ⟨A9,c9,rfl,hcs9,hbz⟩;have hz9:Below w8.heap.size w8 w9:=⟨hbz.os,hbz.tape,hbz.output,hbz.size,hbz.block⟩;have hq9:Below wf.heap.size wf w9:=hq8.trans (hz9.mono hq8.size);have k1:=HB1f.out.later hq9;have k2:=HB2f.out.later hq9;have k10:w9.cell? ⟨w.heap.size+1,0,none⟩=some (.bool false):=k1.cell 0;have k11:w9.cell? ⟨w.heap.size+1,1,none⟩=some (.int .i64 0):=k1.cell 1;have k12:w9.cell? ⟨w.heap.size+1,2,none⟩=some (.slice none 0 0):=k1.cell 2;have k20:w9.cell? ⟨w.heap.size+1+1,0,none⟩=some (.bool false):=k2.cell 0;have k21:w9.cell? ⟨w.heap.size+1+1,1,none⟩=some (.int .i64 0):=k2.cell 1;have k22:w9.cell? ⟨w.heap.size+1+1,2,none⟩=some (.slice none 0 0):=k2.cell 2;have j10:=k1.free 0;have j11:=k1.free 1;have j12:=k1.free 2;have j20:=k2.free 0;have j21:=k2.free 1;have j22:=k2.free 2)
       |(go_at_call 179;refine(z4y (fun b=>wf.heap.size≤b∧b<w6.heap.size) leaf next _ _ la _ (by exact hco6.cs)).mono ?_;rintro e w7 ⟨A7,c7,rfl,hcs7,hbz⟩;have hz7:Below w6.heap.size w6 w7:=⟨hbz.os,hbz.tape,hbz.output,hbz.size,hbz.block⟩;have hq7:Below wf.heap.size wf w7:=hq6.trans (hz7.mono hq6.size))))
    go_wp2_with fail
    have hp33:=Blk.put33 k1 k2 n5 (.bool leaf) (.int .i64 next) (.slice A7 la.length c7) (.bool leaf) (.int .i64 next) (.slice A9 lb.length c9);have hWf:w.heap.size+1+1<wf.heap.size:=Nat.lt_of_lt_of_le hWs hszf;have ca:=Cs.put33 (g1:=w.heap.size+1) (g2:=w.heap.size+1+1) (L:=wf.heap.size) (B:=w.heap.size) (Sl.below hcs7 ((hz8.trans (hz9.mono hz8.size))) (fun b h=>Nat.lt_of_lt_of_le h.2 hz7.size)) (fun b h=>⟨h.1.1,Nat.lt_of_lt_of_le h.2 (Nat.le_trans hz7.size (Nat.le_trans hz8.size hz9.size))⟩) (by omega) hWf (by omega) (.bool leaf) (.int .i64 next) (.slice A7 la.length c7) (.bool leaf) (.int .i64 next) (.slice A9 lb.length c9);have cb:=Cs.put33 (g1:=w.heap.size+1) (g2:=w.heap.size+1+1) (L:=wf.heap.size) (B:=w.heap.size) hcs9 (fun b h=>⟨Nat.le_trans (Nat.le_trans hq6.size hz7.size) h.1.1,Nat.lt_of_lt_of_le h.2 hz9.size⟩) (by omega) hWf (by omega) (.bool leaf) (.int .i64 next) (.slice A7 la.length c7) (.bool leaf) (.int .i64 next) (.slice A9 lb.length c9);have qf:=z0b (z0b (g:=w.heap.size+1) (q0.trans ((hF.trans (hq9.mono hszf)).mono q0.size)) (by omega) (.bool leaf) (.int .i64 next) (.slice A7 la.length c7)) (g:=w.heap.size+1+1) (by omega) (.bool leaf) (.int .i64 next) (.slice A9 lb.length c9);exact bodyPost_ret (z2E rfl _ _ (w.heap.size+1) (w.heap.size+1+1) rfl rfl hp33.1 hp33.2 z1r z1r) rfl ⟨k,_,_,rfl,HH.out,by rw [HLA.out];exact⟨A7,c7,rfl,ca⟩,by rw [HLB.out];exact⟨A9,c9,rfl,cb⟩,qf⟩
  ·have HH:Hid (HalfAt cs k):=⟨hk1,hk2,hless.out,.inl (by omega)⟩;go_wp2_with fail
   obtain⟨wf,hwf⟩:∃wf:World,wf=wr:=⟨_,rfl⟩;subst hwf;have hF:=hbl;clear d2 hb0 HRr HPR HMk;have hb0f:=HB0.out.later hF;have d0f:wf.cell? ⟨w.heap.size,0,none⟩=some (.bool leaf):=hb0f.cell 0;have d1f:wf.cell? ⟨w.heap.size,1,none⟩=some (.int .i64 next):=hb0f.cell 1;have d2f:wf.cell? ⟨w.heap.size,2,none⟩=some (.slice (some ⟨b,o,none⟩) cs.length c):=hb0f.cell 2;have HRf:=zz (HRW.out.up hF);have hp:=Cs.pre HRf.out (show k≤cs.length by omega);have hcut:=Cs.cut HRf.out (show k≤cs.length by omega);rw [if_neg (by omega)]at hcut;obtain⟨la,hla⟩:∃la,cs.take k=la:=⟨_,rfl⟩;obtain⟨lb,hlb⟩:∃lb,cs.drop k=lb:=⟨_,rfl⟩;have hll:la.length≤1000000:=by rw [←hla,List.length_take];omega
   have hll2:lb.length≤1000000:=by rw [←hlb,List.length_drop];omega
   rw [hla]at hp;rw [hlb]at hcut;have HLA:=zz hla;have HLB:=zz hlb;have HPf:=zz hp;have HCf:=zz hcut;have HB1f:=zz (HB1.out.later hF);have HB2f:=zz (HB2.out.later hF);have hkc:k≤c:=by omega
   have hszf:=hF.size;have hsp:IntKind.i64.wrap (k:Int)=(k:Int):=IntWalk.i64_in _ (by omega);have hne:¬c=k:=by omega
   have n1:¬w.heap.size=w.heap.size+1:=by omega
   have n2:¬w.heap.size+1=w.heap.size:=by omega
   have n3:¬w.heap.size=w.heap.size+1+1:=by omega
   have n4:¬w.heap.size+1+1=w.heap.size:=by omega
   have n5:¬w.heap.size+1=w.heap.size+1+1:=by omega
   have n6:¬w.heap.size+1+1=w.heap.size+1:=by omega
   have hk0:(0:Int)≤(k:Int):=by omega
   have hki:(k:Int)≤(cs.length:Int):=by omega
   have hkci:(k:Int)≤(c:Int):=by omega
   have hci:(cs.length:Int)≤(c:Int):=by omega
   clear hla hlb hp hcut;go_region_held3 (fun w'=>w'.cell? ⟨w.heap.size,0,none⟩=some (.bool leaf)∧w'.cell? ⟨w.heap.size,1,none⟩=some (.int .i64 next)∧w'.cell? ⟨w.heap.size,2,none⟩=some (.slice (some ⟨b,o,none⟩) cs.length c))
    (first
      |go_keep
      |(go_split_ands
        refine⟨?_,?_,?_⟩<;>(apply cell_later hbz;assumption)))
    ((first
      |(go_at_call_of 181 (Value.slice (some ⟨b,o,none⟩) k c);refine(z2i (fun b=>b<wf.heap.size) _ la _ (by omega) (by exact HPf.out)).mono ?_;rintro e w6 ⟨A6,c6,rfl,hco6,hbz⟩;have hq6:Below wf.heap.size wf w6:=⟨hbz.os,hbz.tape,hbz.output,hbz.size,hbz.block⟩;have hL6:∀b,(wf.heap.size≤b∧b<w6.heap.size)→wf.heap.size≤b∧b<w6.heap.size:=fun b h=>h)
      |(go_at_call_of 181 (Value.slice (some ⟨b,o+k*2,none⟩) (cs.length-k) (c-k));refine(z2i (fun b=>b<wf.heap.size) _ lb _ (by omega) (by exact HCf.out.later hq7)).mono ?_;rintro e w8 ⟨A8,c8,rfl,hco8,hbz⟩;have hz8:Below w7.heap.size w7 w8:=⟨hbz.os,hbz.tape,hbz.output,hbz.size,hbz.block⟩;have hq8:Below wf.heap.size wf w8:=hq7.trans (hz8.mono hq7.size))
      |(go_at_call 179;refine(z4y (fun b=>w7.heap.size≤b∧b<w8.heap.size) leaf next _ _ lb _ (by exact hco8.cs)).mono ?_;rintro e w9 ⟨A9,c9,rfl,hcs9,hbz⟩;have hz9:Below w8.heap.size w8 w9:=⟨hbz.os,hbz.tape,hbz.output,hbz.size,hbz.block⟩;have hq9:Below wf.heap.size wf w9:=hq8.trans (hz9.mono hq8.size);have k1:=HB1f.out.later hq9;have k2:=HB2f.out.later hq9;have k10:w9.cell? ⟨w.heap.size+1,0,none⟩=some (.bool false):=k1.cell 0;have k11:w9.cell? ⟨w.heap.size+1,1,none⟩=some (.int .i64 0):=k1.cell 1;have k12:w9.cell? ⟨w.heap.size+1,2,none⟩=some (.slice none 0 0):=k1.cell 2;have k20:w9.cell? ⟨w.heap.size+1+1,0,none⟩=some (.bool false):=k2.cell 0;have k21:w9.cell? ⟨w.heap.size+1+1,1,none⟩=some (.int .i64 0):=k2.cell 1;have k22:w9.cell? ⟨w.heap.size+1+1,2,none⟩=some (.slice none 0 0):=k2.cell 2;have j10:=k1.free 0;have j11:=k1.free 1;have j12:=k1.free 2;have j20:=k2.free 0;have j21:=k2.free 1;have j22:=k2.free 2)
      |(go_at_call 179;refine(z4y (fun b=>wf.heap.size≤b∧b<w6.heap.size) leaf next _ _ la _ (by exact hco6.cs)).mono ?_;rintro e w7 ⟨A7,c7,rfl,hcs7,hbz⟩;have hz7:Below w6.heap.size w6 w7:=⟨hbz.os,hbz.tape,hbz.output,hbz.size,hbz.block⟩;have hq7:Below wf.heap.size wf w7:=hq6.trans (hz7.mono hq6.size))))
   go_wp2_with fail
   have hp33:=Blk.put33 k1 k2 n5 (.bool leaf) (.int .i64 next) (.slice A7 la.length c7) (.bool leaf) (.int .i64 next) (.slice A9 lb.length c9);have hWf:w.heap.size+1+1<wf.heap.size:=Nat.lt_of_lt_of_le hWs hszf;have ca:=Cs.put33 (g1:=w.heap.size+1) (g2:=w.heap.size+1+1) (L:=wf.heap.size) (B:=w.heap.size) (Sl.below hcs7 ((hz8.trans (hz9.mono hz8.size))) (fun b h=>Nat.lt_of_lt_of_le h.2 hz7.size)) (fun b h=>⟨h.1.1,Nat.lt_of_lt_of_le h.2 (Nat.le_trans hz7.size (Nat.le_trans hz8.size hz9.size))⟩) (by omega) hWf (by omega) (.bool leaf) (.int .i64 next) (.slice A7 la.length c7) (.bool leaf) (.int .i64 next) (.slice A9 lb.length c9);have cb:=Cs.put33 (g1:=w.heap.size+1) (g2:=w.heap.size+1+1) (L:=wf.heap.size) (B:=w.heap.size) hcs9 (fun b h=>⟨Nat.le_trans (Nat.le_trans hq6.size hz7.size) h.1.1,Nat.lt_of_lt_of_le h.2 hz9.size⟩) (by omega) hWf (by omega) (.bool leaf) (.int .i64 next) (.slice A7 la.length c7) (.bool leaf) (.int .i64 next) (.slice A9 lb.length c9);have qf:=z0b (z0b (g:=w.heap.size+1) (q0.trans ((hF.trans (hq9.mono hszf)).mono q0.size)) (by omega) (.bool leaf) (.int .i64 next) (.slice A7 la.length c7)) (g:=w.heap.size+1+1) (by omega) (.bool leaf) (.int .i64 next) (.slice A9 lb.length c9);exact bodyPost_ret (z2E rfl _ _ (w.heap.size+1) (w.heap.size+1+1) rfl rfl hp33.1 hp33.2 z1r z1r) rfl ⟨k,_,_,rfl,HH.out,by rw [HLA.out];exact⟨A7,c7,rfl,ca⟩,by rw [HLB.out];exact⟨A9,c9,rfl,cb⟩,qf⟩
theorem Cs.put3{S:Nat→Prop}{w:World}{sl:Value}{cs:List Cel}{g1 L B:Nat}(h:Cs S w sl cs)(hS:∀b,S b→L≤b∧b<w.heap.size)(h1:g1<L)(hB:B≤L)(x y z:Value):
 Cs (fun b=>B≤b∧b<(((w.setCell ⟨g1,0,none⟩ x).setCell ⟨g1,1,none⟩ y).setCell ⟨g1,2,none⟩ z).heap.size)
  (((w.setCell ⟨g1,0,none⟩ x).setCell ⟨g1,1,none⟩ y).setCell ⟨g1,2,none⟩ z) sl cs:=by
 have n1:¬S g1:=fun e=>by have:=(hS _ e).1;omega
 refine Sl.more (((Sl.setCell h (p:=⟨g1,0,none⟩) n1 x).setCell (p:=⟨g1,1,none⟩) n1 y).setCell (p:=⟨g1,2,none⟩) n1 z) fun b hb=> ?_
 have:=hS b hb;exact⟨by omega,by simpa using this.2⟩
theorem zAw(f:FuncId)(cb:Array Value)(n K:Nat)(w:World)(hn:n≤1000000)(hK:K≤n)(eg:∀args w,(callFunc f args).run Tryz.prog w= .ok (.enter f args) w)
 (hf:∀i m,i<n→Calls Tryz.prog f (#[.int .i64 (i:Int)]++cb) (w.drewN m) fun e w'=>e= .returned (.bool (decide (K≤i)))∧∃m',w'=w.drewN m'):
 Calls Tryz.prog 133 #[.int .i64 (n:Int),.func (Fn.func f) #[] cb] w fun e w'=>e= .returned (.int .i64 (K:Int))∧∃m,w'=w.drewN m:=by
 have HF:=zz hf;clear hf;go_enter Tryz.func133,Tryz.ntmps133
 go_wp2_with fail
 go_loopw [5,6] (fun lv hv wr=>∃lo hi m:Nat,lv= .int .i64 (lo:Int)∧hv= .int .i64 (hi:Int)∧lo≤K∧K≤hi∧hi≤n∧wr=w.drewN m) (fun lv hv _=>(intOf hv).toNat-(intOf lv).toNat)
 case atStart=>exact⟨0,n,0,rfl,rfl,by omega,hK,by omega,rfl⟩
 case round=>
  obtain⟨lo,hi,m,rfl,rfl,h1,h2,h3,rfl⟩:=hrel;by_cases hlt:lo<hi
  ·have hc:=HF.out ((lo+hi) / 2) m (by omega);have hd:(((lo+hi) / 2:Nat):Int)=((lo:Int)+(hi:Int)) / 2:=by omega
   rw [hd]at hc;have HC:=zz hc;have hw1:IntKind.i64.wrap ((lo:Int)+(hi:Int))=(lo:Int)+(hi:Int):=IntWalk.i64_in _ (by omega);have hw2:IntKind.u64.wrap ((lo:Int)+(hi:Int))=(lo:Int)+(hi:Int):=z0l (by omega) (by unfold U64;omega);have hw3:IntKind.i64.wrap (((lo:Int)+(hi:Int)) / 2)=((lo:Int)+(hi:Int)) / 2:=IntWalk.i64_in _ (by omega);clear hc hd;go_wp2_with fail
   refine HC.out.mono ?_;rintro e w1 ⟨rfl,m',rfl⟩;by_cases hKh:K≤(lo+hi) / 2
   ·rw [decide_eq_true hKh];go_wp2_with fail
    go_roundw
    case rel=>exact⟨lo,(lo+hi) / 2,_,rfl,by go_num,by omega,hKh,by omega,rfl⟩
    case measure=>simp [intOf];omega
   ·rw [decide_eq_false hKh];have hw4:IntKind.i64.wrap (((lo:Int)+(hi:Int)) / 2+1)=((lo:Int)+(hi:Int)) / 2+1:=IntWalk.i64_in _ (by omega);go_wp2_with fail
    go_roundw
    case rel=>exact⟨(lo+hi) / 2+1,hi,_,by go_num,rfl,by omega,by omega,by omega,rfl⟩
    case measure=>simp [intOf];omega
  ·obtain rfl:lo=hi:=by omega
   obtain rfl:lo=K:=by omega
   go_wp2_with fail
   go_ret
   exact⟨rfl,m,rfl⟩
end
section
open Go
theorem z3w:∀a b c:List UInt8,z15 a b<0→z15 b c<0→z15 a c<0
 | [],[],c,h,_=>by simp [z15]at h
 | [],b::bs,[],_,h=>by simp [z15]at h
 | [],b::bs,c::cs,_,_=>by simp [z15]
 |a::as',[],c,h,_=>by simp [z15]at h
 |a::as',b::bs,[],_,h=>by simp [z15]at h
 |a::as',b::bs,c::cs,h1,h2=>by
  have ih:=z3w as' bs cs;unfold z15 at h1 h2 ⊢
  split at h1
  ·split at h2
   ·rw [if_pos (by omega)];decide
   ·split at h2
    ·omega
    ·have e:b.toNat=c.toNat:=by omega
     rw [if_pos (by omega)];decide
  ·split at h1
   ·omega
   ·split at h2
    ·rw [if_pos (by omega)];decide
    ·split at h2
     ·omega
     ·rw [if_neg (by omega),if_neg (by omega)];exact ih h1 h2
def RisesP(cs:List Cel):Prop:=∀i,(h:i+1<cs.length)→Op.bytesLess (cs[i]'(by omega)).1 cs[i+1].1=true
theorem zCU{cs:List Cel}(h:RisesP cs):∀ (d i:Nat),(hd:i+d+1<cs.length)→z15 (cs[i]'(by omega)).1 (cs[i+d+1]'hd).1<0
 |0,i,hd=>by
  have:=h i (by omega);rw [z0d,decide_eq_true_eq]at this;exact this
 |d+1,i,hd=>by
  have h1:=zCU h d i (by omega);have h2:=h (i+d+1) (by omega);rw [z0d,decide_eq_true_eq]at h2;exact z3w _ _ _ h1 h2
theorem z9B{cs:List Cel}(h:RisesP cs){i j:Nat}(hij:i<j)(hj:j<cs.length):z15 (cs[i]'(by omega)).1 cs[j].1<0:=by
 obtain⟨d,rfl⟩:∃d,j=i+d+1:=⟨j-i-1,by omega⟩;exact zCU h d i hj
def z0B(cs:List Cel)(k:List UInt8):Nat:=(cs.takeWhile fun c=>Op.bytesLess c.1 k).length
theorem z1o(cs:List Cel)(k:List UInt8):z0B cs k≤cs.length:=by
 unfold z0B;have:=List.takeWhile_append_dropWhile (p:=fun c:Cel=>Op.bytesLess c.1 k) (l:=cs);have h:=congrArg List.length this;rw [List.length_append]at h;omega
theorem z8B:∀ {cs:List Cel} {k:List UInt8} {i:Nat},(h:i<z0B cs k)→Op.bytesLess (cs[i]'(by have:=z1o cs k;omega)).1 k=true
 | [],k,i,h=>by simp [z0B]at h
 |c::cs,k,i,h=>by
  unfold z0B at h;rw [List.takeWhile_cons]at h
  split at h
  ·rename_i hc;rcases i with _|i
   ·exact hc
   ·have:=z8B (cs:=cs) (k:=k) (i:=i) (by unfold z0B;simpa using h);simpa using this
  ·simp at h
theorem zC5:∀ {cs:List Cel} {k:List UInt8},(h:z0B cs k<cs.length)→Op.bytesLess cs[z0B cs k].1 k=false
 | [],k,h=>by simp at h
 |c::cs,k,h=>by
  by_cases hc:Op.bytesLess c.1 k=true
  ·have e:z0B (c::cs) k=z0B cs k+1:=by unfold z0B;rw [List.takeWhile_cons,if_pos hc];rfl
   have h':z0B cs k<cs.length:=by rw [e]at h;simpa using h
   have:=zC5 h';simp only [e,List.getElem_cons_succ];exact this
  ·have e:z0B (c::cs) k=0:=by unfold z0B;rw [List.takeWhile_cons,if_neg hc];rfl
   simp only [e,List.getElem_cons_zero];simpa using hc
theorem z9V{cs:List Cel}(hr:RisesP cs)(k:List UInt8){i:Nat}(hi:i<cs.length):(!Op.bytesLess cs[i].1 k)=decide (z0B cs k≤i):=by
 rcases Nat.lt_or_ge i (z0B cs k)with h|h
 ·rw [z8B h];simp;omega
 ·have hK:z0B cs k<cs.length:=by omega
  have h0:=zC5 hK;have hb:Op.bytesLess cs[i].1 k=false:=by
   rcases Nat.lt_or_ge (z0B cs k) i with hl|hl
   ·rw [z0d,decide_eq_false_iff_not]at h0 ⊢;have h1:=z9B hr hl hi;intro h2;exact h0 (z3w _ _ _ h1 h2)
   ·obtain rfl:i=z0B cs k:=by omega
    exact h0
  rw [hb];simp [h]
def isK(cs:List Cel)(k:List UInt8):Bool:=match cs[z0B cs k]? with
 |some c=>c.1==k
 |none=>false
end
section
open Go Go.RowKit
theorem zCp(bp bk:Nat)(S:Nat→Prop)(leaf:Bool)(next:Int)(v0:Value)(cs:List Cel)(key:List UInt8)(i:Nat)(w:World)(hp:Blk w bp 186 #[.bool leaf,.int .i64 next,v0])(hk:Blk w bk 9 #[.string (st key)])(hr:Cs S w v0 cs)(hi:i<cs.length)(hl:cs.length≤1000000):
 Calls Tryz.prog 134 (#[.int .i64 (i:Int)]++ #[.pointer (some ⟨bp,0,none⟩),.pointer (some ⟨bk,0,none⟩)]) w fun e w'=>e= .returned (.bool (!Op.bytesLess cs[i].1 key))∧∃m,w'=w.drewN m:=by
 obtain⟨A,c,rfl,hlc,hcm,_,hA⟩:=hr.at;obtain⟨b,o,rfl,_,hc⟩:=hA (by omega);have c0:=(hc i hi).1;have p2:w.cell? ⟨bp,2,none⟩=some (.slice (some ⟨b,o,none⟩) cs.length c):=hp.cell 2;have k0:w.cell? ⟨bk,0,none⟩=some (.string (st key)):=hk.cell 0;generalize cs[i]=x at*;clear hA hc hp hk hr;show Calls _ _ #[.int .i64 (i:Int),.pointer (some ⟨bp,0,none⟩),.pointer (some ⟨bk,0,none⟩)] _ _;go_enter Tryz.func134,Tryz.ntmps134
 go_wp2_with fail
 go_quiet (fail)
 go_wp2_with fail
 go_ret
 exact⟨rfl,_,rfl⟩
theorem z6q(S:Nat→Prop)(leaf:Bool)(next:Int)(v0:Value)(cs:List Cel)(key:List UInt8)(w:World)(hl:cs.length≤1000000)(hr:Cs S w v0 cs)(hri:RisesP cs):
 Calls Tryz.prog 100 #[.agg #[.bool leaf,.int .i64 next,v0],.string (st key)] w fun e w'=>e= .returned (.tuple #[.int .i64 (z0B cs key:Int),.bool (isK cs key)])∧Below w.heap.size w w':=by
 have HR:=zz hr.lt;have hlt:=hr.lt;obtain⟨A,c,rfl,hlc,hcm,hA0,hA⟩:=hlt.at;have HA:=zz hA;have b1:Blk ((w.alloc (.cells #[.bool leaf,.int .i64 next,.slice A cs.length c] 186)).alloc (.cells #[.string (st key)] 9)) w.heap.size 186 #[.bool leaf,.int .i64 next,.slice A cs.length c]:=(Blk.new _ _ _).alloc _;have b2:Blk ((w.alloc (.cells #[.bool leaf,.int .i64 next,.slice A cs.length c] 186)).alloc (.cells #[.string (st key)] 9)) (w.heap.size+1) 9 #[.string (st key)]:=Blk.new1 _ _ _ _;have q0:Below w.heap.size w ((w.alloc (.cells #[.bool leaf,.int .i64 next,.slice A cs.length c] 186)).alloc (.cells #[.string (st key)] 9)):=((Below.refl _ _).alloc (Nat.le_refl _) _).alloc (by simp) _;have hmf:=z0K Tryz.prog;have hK:=z1o cs key;have HI:=zz (fun i (h:i<cs.length)=>z9V hri key h);clear hA hr hlt hri;go_enter Tryz.func100,Tryz.ntmps100
 go_wp2_with fail
 generalize hW:((w.alloc (.cells #[.bool leaf,.int .i64 next,.slice A cs.length c] 186)).alloc (.cells #[.string (st key)] 9))=W at*;clear hW;have HRW:=zz (HR.out.up q0);refine(zAw 134 #[.pointer (some ⟨w.heap.size,0,none⟩),.pointer (some ⟨w.heap.size+1,0,none⟩)] cs.length (z0B cs key) W hl hK (fun args w=>by rfl) (fun i m hi=> ?_)).mono ?_
 ·have h:=zCp w.heap.size (w.heap.size+1) (fun b=>b<W.heap.size) leaf next _ cs key i (W.drewN m) b1 b2 HRW.out hi hl;rw [HI.out i hi]at h;refine h.mono ?_;rintro e w' ⟨rfl,m',rfl⟩;exact⟨rfl,_,World.drewN_drewN _ _ _⟩
 rintro e w1 ⟨rfl,m,rfl⟩;have d2:W.cell? ⟨w.heap.size,2,none⟩=some (.slice A cs.length c):=b1.cell 2;have d3:W.cell? ⟨w.heap.size+1,0,none⟩=some (.string (st key)):=b2.cell 0;have HIS:Hid (isK cs key=match cs[z0B cs key]? with|some c=>c.1==key|none=>false):=rfl;generalize hKe:z0B cs key=K at*;have HKE:=zz hKe;clear hKe;rcases Nat.lt_or_ge K cs.length with hlt|hge
 ·obtain⟨b,o,rfl,hbs,hc⟩:=HA.out (by omega);have c0:W.cell? ⟨b,o+K*2,none⟩=some (.string (st cs[K].1)):=(q0.cell (p:=⟨b,o+K*2,none⟩) hbs).trans (hc K hlt).1;have HE:Hid (isK cs key=(cs[K].1==key)):=by rw [Hid,HIS.out,List.getElem?_eq_getElem hlt]
  generalize cs[K].1=kk at*;clear hc b1 b2;go_wp2_with fail
  go_quiet (fail)
  go_wp2_with fail
  go_ret2
  rw [HE.out,HKE.out];exact⟨by simp,below_drewN (below_drewN q0 _) _⟩
 ·obtain rfl:K=cs.length:=by omega
  have HE:Hid (isK cs key=false):=by rw [Hid,HIS.out,List.getElem?_eq_none (Nat.le_refl _)]
  clear b1 b2;go_wp2_with fail
  go_quiet (fail)
  go_wp2_with fail
  go_ret2
  rw [HE.out,HKE.out];exact⟨by simp,below_drewN (below_drewN q0 _) _⟩
def z5F(l:List UInt8)(w:World)(e:Ending)(w':World):Prop:=
 (∀x n,z0S l= .ok (x,n)→∃A k c,e= .returned (.tuple #[.int .u64 (x:Int),.slice A k c,.int .i64 0])∧Ob 5 w' w.heap.size (.slice A k c) (l.drop n)∧Below w.heap.size w w')∧
 (∀er,z0S l= .error er→e= .returned (.tuple #[.int .u64 0,.slice none 0 0,.int .i64 (er:Int)])∧Below w.heap.size w w')
theorem zIh{l:List UInt8}{i a:Nat}(h:i<l.length){r:Except Nat (Nat×Nat)}(hg:z7C i a (l.drop i)=r):
 (if(i=9∧1<l[i].toNat)∨(0<i∧l[i].toNat=0)then .error 12 else if l[i].toNat<128 then .ok (a+l[i].toNat*128 ^ i,i+1)else z7C (i+1) (a+(l[i].toNat%128)*128 ^ i) (l.drop (i+1)))=r:=by
 rw [←hg,List.drop_eq_getElem_cons h,z7C]
theorem zHl{l:List UInt8}{i a:Nat}(h:¬i<l.length){r:Except Nat (Nat×Nat)}(hg:z7C i a (l.drop i)=r):r= .error 10:=by
 rw [←hg,List.drop_eq_nil_of_le (by omega),z7C]
theorem z8l{l:List UInt8}{w:World}{er:Nat}(h:z0S l= .error er):z5F l w (.returned (.tuple #[.int .u64 0,.slice none 0 0,.int .i64 (er:Int)])) w:=
 ⟨fun x n hx=>(by rw [h]at hx;cases hx),fun er' h'=>by rw [h]at h';cases h';exact⟨rfl,Below.refl _ _⟩⟩
theorem zHj{l:List UInt8}{w w':World}{x n:Nat}(h:z0S l= .ok (x,n)){A:Option Addr}{k c:Nat}(hown:Ob 5 w' w.heap.size (.slice A k c) (l.drop n))(hb:Below w.heap.size w w'):
 z5F l w (.returned (.tuple #[.int .u64 (x:Int),.slice A k c,.int .i64 0])) w':=
 ⟨fun x' n' hx=>(by rw [h]at hx;cases hx;exact⟨A,k,c,rfl,hown,hb⟩),fun er' h'=>by rw [h]at h';cases h'⟩
theorem z41(S:Nat→Prop)(v0:Value)(l:List UInt8)(w:World)(hl:l.length≤1099511627776)(hr:Bs S w v0 l):
 Calls Tryz.prog 112 #[v0] w (z5F l w):=by
 have HR:=zz hr;obtain⟨A,c,rfl,hlc,hcm,hA0,hA⟩:=hr.at;have HA:=zz hA;clear hA hr;go_enter Tryz.func112,Tryz.ntmps112
 go_wp2_with fail
 go_loop [5,10] (fun av iv=>∃ (i a:Nat),iv= .int .i64 (i:Int)∧av= .int .u64 (a:Int)∧i≤l.length∧i≤9∧Hid (a<128 ^ i)∧Hid (z7C i a (l.drop i)=z0S l)) (fun _ iv=>l.length-(intOf iv).toNat)
 case atStart=>exact⟨0,0,rfl,rfl,by omega,by omega,by simp [Hid],by simp [z0S,Hid]⟩
 case round=>
  obtain⟨i,a,rfl,rfl,hi,hi9,HA2,hg⟩:=hrel;by_cases hil:i<l.length
  ·obtain⟨b,o,rfl,_,hcell⟩:=HA.out (by omega);have hc:=hcell i hil;clear hcell HA;have HG:=zz (zIh hil hg.out);clear hg;obtain⟨x,hx⟩:∃x,x=l[i].toNat:=⟨_,rfl⟩;have hx256:x<256:=hx▸l[i].toNat_lt;rw [←hx]at hc HG;clear hx;by_cases h1:i=9∧1<x
   ·have t1:((i:Int)==9)=true:=by simp;omega
    have t2:(1:Int)<(x:Int):=by omega
    have H1:=zz h1;clear h1;go_wp2_with fail
    go_ret3
    refine z8l ?_;have h:=HG.out;rw [if_pos (.inl H1.out)]at h;exact h.symm
   ·by_cases h2:0<i∧x=0
    ·have t1:((i:Int)==9)=false∨((i:Int)==9)=true:=by cases ((i:Int)==9)<;>simp
     have t2:((x:Int)==0)=true:=by simp;omega
     have t3:¬ (1:Int)<(x:Int):=by omega
     have H2:=zz h2;have t0:(0:Int)<(i:Int):=by omega
     clear h2;rcases t1 with t1|t1
     all_goals
      go_wp2_with fail
      go_ret3
      refine z8l ?_;have h:=HG.out;rw [if_pos (.inr H2.out)]at h;exact h.symm
    ·by_cases h3:x<128
     ·have hok:z0S l= .ok (a+x*128 ^ i,i+1):=by
       have h:=HG.out;rw [if_neg (by omega),if_pos h3]at h;exact h.symm
      have hb:=(z1X hok).1;have hor:=zI9 a x i HA2.out (by omega) (by omega);obtain⟨y,hy⟩:∃y,y=a+x*128 ^ i:=⟨_,rfl⟩;rw [←hy]at hor hok;have HO:=zz hok;clear hok hb hy;have tx:((x:Int)<128):=by omega
      have hdr:l.length-(i+1)≤l.length:=by omega
      have hcut:=zz (Bs.cut HR.out (show i+1≤l.length from hil));by_cases h9:i=9
      case' pos=>
       have t1:((i:Int)==9)=true:=by simp;omega
       have t3:¬ (1:Int)<(x:Int):=by omega
       have t0:(0:Int)<(i:Int):=by omega
       have t2:((x:Int)==0)=false:=by simp;omega
       clear h9 h1 h2
      case' neg=>
       have t1:((i:Int)==9)=false:=by simp;omega
       clear h9;by_cases h0:0<i
       case' pos=>
        have t0:(0:Int)<(i:Int):=by omega
        have t2:((x:Int)==0)=false:=by simp;omega
       case' neg=>
        have t0:¬ (0:Int)<(i:Int):=by omega
      all_goals
       try clear h1 h2
       go_wp2_with (at_builtin;go_loud (refine z03 _ rfl (.tmp 50) (.tmp 54) z0Z rfl (Ob.made _ _ w.heap.size (by simp) (by simp)) (Sl.alloc1 hcut.out _) rfl rfl (by simp;omega) (by simp) ?_);intro A1 k1 c1 w1 hown1 hg1 hat1)
       all_goals
        go_ret3
        exact zHj HO.out (by simpa using hown1) (z02 ((Below.refl _ _).alloc (Nat.le_refl _) _) (Ob.made _ _ w.heap.size (by simp) (by simp)) hg1 (by simp))
     ·have hlow:x%128<128:=by omega
      have hne:¬i=9:=by omega
      have hst:z7C (i+1) (a+x%128*128 ^ i) (l.drop (i+1))=z0S l:=by
       have h:=HG.out;rw [if_neg (by omega),if_neg h3]at h;exact h
      have hp:a+x%128*128 ^ i<128 ^ (i+1):=by
       have h1:x%128*128 ^ i≤127*128 ^ i:=Nat.mul_le_mul_right _ (by omega);have:=HA2.out;rw [Nat.pow_succ];omega
      have h8:(128:Nat) ^ (i+1)≤128 ^ 9:=Nat.pow_le_pow_right (by omega) (by omega);have hand:=and127 x hx256;have hor:=zI9 a (x%128) i HA2.out (by unfold U64;omega) (by unfold U64;omega);obtain⟨q,hq⟩:∃q,q=x%128:=⟨_,rfl⟩;rw [←hq]at hor hand hst hp hlow;obtain⟨y,hy⟩:∃y,y=a+q*128 ^ i:=⟨_,rfl⟩;rw [←hy]at hor hst hp;have t1:((i:Int)==9)=false:=by simp;omega
      have tx:¬ ((x:Int)<128):=by omega
      have t2:((x:Int)==0)=false:=by simp;omega
      have HS:=zz hst;have HP:=zz hp;clear hst hp hy hq h8 h1 h2 HG HA2;by_cases h0:0<i
      all_goals
       go_wp2_with fail
       go_round
       case rel=>exact⟨i+1,y,by go_num,rfl,by omega,by omega,HP,HS⟩
       case measure=>simp [intOf];omega
  ·have h:=zHl hil hg.out;have HO:=zz h;clear h hg;go_wp2_with fail
   go_ret3
   exact z8l HO.out
theorem zEp(A:Option Addr)(k c n:Nat)(w:World)(hn:1≤n)(hn8:n≤8)(hk:k<n):
 Calls Tryz.prog 135 #[.slice A k c,.int .i64 n] w fun e w'=>e= .returned (.tuple #[.int .u64 0,.slice none 0 0,.int .i64 10])∧w=w':=by
 have h1:¬ (n:Int)<1:=by omega
 have h2:¬8<(n:Int):=by omega
 go_enter Tryz.func135,Tryz.ntmps135
 go_wp2
 go_ret3
 exact⟨rfl,rfl⟩
theorem zFq(S:Nat→Prop)(v0:Value)(l:List UInt8)(n:Nat)(w:World)(hn:1≤n)(hn8:n≤8)(hk:n≤l.length)(hl:l.length≤1099511627776)(hr:Bs S w v0 l):
 Calls Tryz.prog 135 #[v0,.int .i64 n] w fun e w'=>∃A k c,e= .returned (.tuple #[.int .u64 (deB (l.take n):Int),.slice A k c,.int .i64 0])∧Ob 5 w' w.heap.size (.slice A k c) (l.drop n)∧Below w.heap.size w w':=by
 have h1:¬ (n:Int)<1:=by omega
 have h2:¬8<(n:Int):=by omega
 have HR:=zz hr;obtain⟨A,c,rfl,hlc,hcm,hA0,hA⟩:=hr.at;obtain⟨b,o,rfl,_,hcell⟩:=hA (by omega);have HA:=zz hcell;clear hA hr hcell;go_enter Tryz.func135,Tryz.ntmps135
 go_wp2_with fail
 go_loop [7,22] (fun av iv=>∃ (i a:Nat),iv= .int .i64 (i:Int)∧av= .int .u64 (a:Int)∧i≤n∧Hid (a=deB (l.take i))) (fun _ iv=>n-(intOf iv).toNat)
 case atStart=>exact⟨0,0,rfl,rfl,by omega,by simp [Hid,deB]⟩
 case round=>
  obtain⟨i,a,rfl,rfl,hi,hg⟩:=hrel;by_cases hin:i<n
  ·have hc:=HA.out i (by omega);clear HA;obtain⟨x,hx⟩:∃x,x=l[i].toNat:=⟨_,rfl⟩;have hx256:x<256:=hx▸l[i].toNat_lt;have hs:=z8o (show i<l.length by omega);rw [←hx]at hc hs;have hor:=zJ9 a x i (by rw [hg.out];exact z4G l i) (by omega) hx256;obtain⟨y,hy⟩:∃y,y=a*256+x:=⟨_,rfl⟩;rw [←hy]at hor;have HY:=zz (show y=deB (l.take (i+1)) by rw [hs,←hg.out];exact hy);clear hs hy hx;go_wp2_with fail
   go_round
   case rel=>exact⟨i+1,y,by go_num,rfl,by omega,HY⟩
   case measure=>simp [intOf];omega
  ·obtain rfl:i=n:=by omega
   have hcut:=zz (Bs.cut HR.out hk);go_wp2_with (at_builtin;go_loud (refine z03 _ rfl (.tmp 35) (.tmp 38) z0Z rfl (Ob.made _ _ w.heap.size (by simp) (by simp)) (Sl.alloc1 hcut.out _) rfl rfl (by simp;omega) (by simp) ?_);intro A1 k1 c1 w1 hown1 hg1 hat1)
   all_goals
    go_ret3
    have ha:=hg.out;rw [←ha];exact⟨A1,k1,c1,rfl,by simpa using hown1,z02 ((Below.refl _ _).alloc (Nat.le_refl _) _) (Ob.made _ _ w.heap.size (by simp) (by simp)) hg1 (by simp)⟩
def UbS(w:World)(B b:Nat):Prop:=B≤b∧∃cs fz,w.heap[b]? =some (.cells cs 5 fz)
def Ub(w:World)(B:Nat)(v:Value)(l:List UInt8):Prop:=Bs (UbS w B) w v l
theorem Ub.of_own{w:World}{B:Nat}{v:Value}{l:List UInt8}(h:Ob 5 w B v l):Ub w B v l:=by
 have hs:=h.bs;rcases h.2 with⟨rfl,hn⟩|⟨g,cap,cur,rfl,hB,hh,_⟩
 ·obtain⟨h1,A,c,h2,h3,h4,h5,h6⟩:=hs;exact⟨h1,A,c,h2,h3,h4,h5,fun hl=>by omega⟩
 ·obtain⟨h1,A,c,h2,h3,h4,h5,h6⟩:=hs;refine⟨h1,A,c,h2,h3,h4,h5,fun hl=> ?_⟩;obtain⟨b,o,hA,_,hc⟩:=h6 hl;injection h2 with hA2
  rw [hA]at hA2;injection hA2 with hA2
  injection hA2 with hb
  subst hb;exact⟨g,o,hA,⟨hB,_,_,hh⟩,hc⟩
theorem Ub.bs{w:World}{B:Nat}{v:Value}{l:List UInt8}(h:Ub w B v l):Bs (fun _=>True) w v l:=Sl.more h fun _ _=>trivial
theorem Ub.len{w:World}{B:Nat}{A:Option Addr}{k c:Nat}{l:List UInt8}(h:Ub w B (.slice A k c) l):k=l.length:=by
 obtain⟨_,A',c',hv,_⟩:=h;injection hv
theorem Ub.keep{w w':World}{B:Nat}{v:Value}{l:List UInt8}(h:Ub w B v l)(hk:∀b,UbS w B b→w'.heap[b]? =w.heap[b]?):Ub w' B v l:=by
 obtain⟨h1,A,c,h2,h3,h4,h5,h6⟩:=h;refine⟨h1,A,c,h2,h3,h4,h5,fun hl=> ?_⟩;obtain⟨b,o,hA,hs,hc⟩:=h6 hl;have hb:=hk b hs;obtain⟨hB,cs,fz,hh⟩:=hs;refine⟨b,o,hA,⟨hB,cs,fz,hb.trans hh⟩,fun j u hu=> ?_⟩;rw [World.cell?_of_block (a:=⟨b,o+j,none⟩) hb];exact hc j u hu
theorem Ub.later{w w':World}{B:Nat}{v:Value}{l:List UInt8}(h:Ub w B v l)(hb:Below w.heap.size w w'):Ub w' B v l:=
 h.keep fun b ⟨_,cs,fz,hh⟩=>hb.block b (lt_of_block hh)
theorem Ub.lower{w:World}{B B':Nat}{v:Value}{l:List UInt8}(h:Ub w B v l)(hB:B'≤B):Ub w B' v l:=Sl.more h fun b ⟨h1,h2⟩=>⟨Nat.le_trans hB h1,h2⟩
theorem Ub.beside{w w':World}{B:Nat}{v:Value}{l:List UInt8}(h:Ub w B v l){g:Nat}{t:TypeId}{cs:Array Value}(hb:Blk w g t cs)(hne:5≠t)(hg:w.grownBy w' (some g)):Ub w' B v l:=
 h.keep fun b ⟨_,cs',fz,hh⟩=>hg.block b (lt_of_block hh) (fun e=>by
  injection e with e
  subst e;unfold Blk at hb;rw [hh]at hb;injection hb with hb
  injection hb with _ hb
  exact hne hb)
end
end Go.Proofs.YtdkobefpnjbgnaaGreatDoor
