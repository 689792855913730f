/- Part 2. -/
import Derived.Test.YthnlcbamjehpdaaGreatDoorViewCollectsJ1
import Derived.Orders
import Derived.Deep.Quiet
import Derived.Deep.RegionWith
import Derived.Deep.RegionHeld3
import Derived.Lib.AppendZeros
namespace Go.Proofs.YthnlcbamjehpdaaGreatDoor
set_option linter.unusedVariables false
set_option maxHeartbeats 16000000
set_option maxRecDepth 100000
section
open Go Go.RowKit Tryz
set_option linter.unusedSimpArgs false
abbrev VP:=Value->World->Prop
def Is(c:Value):VP:=fun v _=>v=c
def Stays(V:VP):Prop:=∀v w w',Below w.heap.size w w'->V v w->V v w'
theorem Stays.is(c:Value):Stays (Is c):=fun _ _ _ _ h=>h
section
variable {P:Program} {ops:Array Oper}
def z0H(P:Program)(w:World)(V:VP):Result Next->Prop
 | .ok (.value u) w'=>Below w.heap.size w w'/\V u w'
 | .ok .skip w'=>Below w.heap.size w w'/\V undef w'
 | .ok (.enter f args) w'=>Below w.heap.size w w'/\Calls P f args w' (fun e w''=>∃v,e= .returned v/\Below w'.heap.size w' w''/\V v w'')
 |_=>False
def z03(P:Program)(o:Oper)(a:Act)(w:World)(V:VP):Prop:=z0H P w V ((execOp a.eval o).run P w)
theorem z1M{a b c:World}(h:Below a.heap.size a b)(k:Below b.heap.size b c):Below a.heap.size a c:=h.trans (k.mono h.size)
theorem zC1{o:Oper}{a:Act}{w:World}{V:VP}{K:Act->World->Prop}{Q:Exit->Act->World->Prop}(h:z03 P o a w V)
 (hK:∀v w',Below w.heap.size w w'->V v w'->K (a.put o.dst v) w'):o.wp P a w K Q:=by
 unfold z03 at h;unfold Oper.wp;generalize (execOp a.eval o).run P w=r at*;cases r with
 |ok n w'=>
  cases n<;>simp only [z0H]at h<;>simp only [Oper.upon]
  case value u=>exact hK _ _ h.1 h.2
  case skip=>exact hK _ _ h.1 h.2
  case enter f args=>
   exact h.2.mono fun e w'' ⟨v,he,hb,hv⟩=>by subst he;exact hK _ _ (z1M h.1 hb) hv
 |halt x w'=>simp only [z0H]at h
theorem z6r{o:Oper}{a:Act}{w:World}{V:VP}(h:z03 P o a w V):∃v w',Below w.heap.size w w'/\V v w':=by
 unfold z03 at h;generalize (execOp a.eval o).run P w=r at*;cases r with
 |ok n w'=>
  cases n<;>simp only [z0H]at h
  case value u=>exact⟨u,w',h⟩
  case skip=>exact⟨_,w',h⟩
  case enter f args=>
   obtain⟨e,w'',fr,⟨v,_,hb,hv⟩,_⟩:=h.2 [];exact⟨v,w'',z1M h.1 hb,hv⟩
 |halt x w'=>simp only [z0H]at h
def z38(P:Program)(ops:Array Oper)(C:World->Prop)(Q:Act->World->Prop):List Oper->List VP->List (Value×VP)->Act->Prop
 |o::rest,V::Vs,env,a=>
  (if Region.wanted o (yielded ops a.tmps)then ∀w,C w->(∀e∈o.after,Region.binds .any e=true->∀ (x:Value) (W:VP),env[e.on]? =some (x,W)->W x w)->z03 P o a w V else ∀w,C w->V undef w)/\
  ∀x,(∃w,C w/\V x w)->z38 P ops C Q rest Vs (env++ [(x,V)]) (a.put o.dst x)
 | [],[],env,a=>∀w,C w->(∀ (j:Nat) (x:Value) (W:VP),env[j]? =some (x,W)->W x w)->Q a w
 |_,_,_,_=>False
def z2J(ops:Array Oper)(j:Nat):Option Tmp:=(ops[j]?).bind (·.dst)
def z0t(ops:Array Oper)(i j:Nat):Bool:=((ops[i]?).map fun(o:Oper)=>o.after.any fun e=>e.on==j&&Region.binds .any e).getD false
def z3C(ops:Array Oper):Bool:=
 (List.range ops.size).all fun i=>
   ((List.range ops.size).all fun j=>(!z0t ops i j||decide (j<i))&&(decide (i=j)||(z2J ops i).isNone||z2J ops i != z2J ops j)&&
     (match ops[i]?,z2J ops j with
      |some o,some s=> !(o.looksAt ops).contains s||z0t ops i j||z0t ops j i||decide (i=j)
      |_,_=>true))
     &&((ops[i]?).map fun(o:Oper)=>match o.op with| .select _ _=>false|_=>o.after.all fun e=> !Region.binds .any e||decide (e.on<i)).getD true
theorem z3J(h:z3C ops=true):(∀ (i:Nat) (o:Oper),ops[i]? =some o->∀e∈o.after,Region.binds .any e=true->e.on<i)/\
 (∀ (i j:Nat) (s:Tmp),i<ops.size->j<ops.size->z2J ops i=some s->z2J ops j=some s->i=j)/\
 (∀ (i j:Nat) (o:Oper) (s:Tmp),ops[i]? =some o->j<ops.size->z2J ops j=some s->s∈o.looksAt ops->z0t ops i j=true∨z0t ops j i=true∨i=j)/\
 (∀ (i:Nat) (o:Oper) cs b,ops[i]? =some o->o.op≠ .select cs b):=by
 unfold z3C at h;rw [QI]at h;have hall:∀i,i<ops.size->_:=fun i hi=>(Y9 _ _).mp (h i (yt.2 hi))
 have hlt:∀ {i o},ops[i]? =some o->i<ops.size:=fun ho=>(YM.1 ho).1
 refine⟨fun i o ho e he hb=> ?_,fun i j s hi hj h1 h2=> ?_,fun i j o s ho hj hd hs=> ?_,fun i o cs b ho hop=> ?_⟩
 .have h2:=(hall i (hlt ho)).2;rw [ho]at h2;simp only [Z0,Yl]at h2
  split at h2
  .cases h2
  .rw [Array.all_eq_true_iff_forall_mem]at h2;have:=h2 e he;simpa [hb]using this
 .have h3:=(hall i hi).1;rw [QI]at h3;have h4:=h3 j (yt.2 hj);simp only [Y9]at h4;have h5:=h4.1.2;rw [h1,h2]at h5;simpa using h5
 .have h3:=(hall i (hlt ho)).1;rw [QI]at h3;have h4:=h3 j (yt.2 hj);simp only [Y9]at h4;have h5:=h4.2;rw [ho,hd]at h5;simp only [Z2,Zi,yd]at h5;rcases h5 with((h5|h5)|h5)|h5
  .simp only [List.contains_eq_mem,yj]at h5;exact absurd hs h5
  .exact .inl h5
  .exact .inr (.inl h5)
  .exact .inr (.inr h5)
 .have h2:=(hall i (hlt ho)).2;rw [ho]at h2;simp only [Z0,Yl,hop]at h2;cases h2
theorem z0z{i j:Nat}{o:Oper}(ho:ops[i]? =some o):z0t ops i j=true↔∃e∈o.after,e.on=j/\Region.binds .any e=true:=by
 unfold z0t;rw [ho];simp only [Z0,Yl,Array.any_eq_true,Y9,Z9];constructor
 .rintro⟨k,hk,h⟩;exact⟨_,Array.getElem_mem hk,h⟩
 .rintro⟨e,he,h⟩;obtain⟨k,hk,rfl⟩:=Array.mem_iff_getElem.1 he;exact⟨k,hk,h⟩
structure Laid(ops:Array Oper)(a0:Act)(f:Nat->Option Value)(a:Act):Prop where
 defers:a.defers=a0.defers
 size:a.tmps.size=a0.tmps.size
 put:∀j s x,j<ops.size->z2J ops j=some s->f j=some x->a.tmps[s]? =(a0.tmps[s]?).map fun _=>x
 off:∀s,(∀j,j<ops.size->z2J ops j=some s->f j=none)->a.tmps[s]? =a0.tmps[s]?
theorem Laid.start(a0:Act):Laid ops a0 (fun _=>none) a0:=⟨rfl,rfl,(fun _ _ _ _ _ h=>by cases h),fun _ _=>rfl⟩
theorem Laid.next{a0 a:Act}{f:Nat->Option Value}(hg:z3C ops=true)(h:Laid ops a0 f a){k:Nat}{o:Oper}(ho:ops[k]? =some o)(hf:f k=none)(x:Value):
 Laid ops a0 (fun j=>if j=k then some x else f j) (a.put o.dst x):=by
 obtain⟨_,hdist,_,_⟩:=z3J hg;have hk:k<ops.size:=(YM.1 ho).1;have hdk:z2J ops k=o.dst:=by simp [z2J,ho]
 cases hd:o.dst with
 |none=>
  refine⟨h.defers,h.size,fun j s y hj hs hy=> ?_,fun s hs=> ?_⟩
  .have hne:j≠k:=by rintro rfl;rw [hdk,hd]at hs;cases hs
   simp only [hne,yv]at hy;exact h.put j s y hj hs hy
  .refine h.off s fun j hj hjs=> ?_
   have hne:j≠k:=by rintro rfl;rw [hdk,hd]at hjs;cases hjs
   have:=hs j hj hjs;simpa only [hne,yv]using this
 |some d=>
  refine⟨h.defers,by simp [Act.put,h.size],fun j s y hj hs hy=> ?_,fun s hs=> ?_⟩
  .by_cases hjk:j=k
   .subst hjk;rw [hdk,hd]at hs;obtain rfl:d=s:=by simpa using hs
    simp only [YN]at hy;obtain rfl:x=y:=by simpa using hy
    show(a.tmps.setIfInBounds d x)[d]? =_;have e:=h.off d (fun j' hj' hs'=>by
     have:=hdist j' j d hj' hj hs' (by rw [hdk,hd]);subst this;exact hf)
    rcases Y5 d a.tmps.size with hlt|hge
    .rw [Array.getElem?_setIfInBounds_self_of_lt hlt,<-e,yG hlt];rfl
    .rw [<-e,YK (by simpa using hge),YK hge];rfl
   .simp only [hjk,yv]at hy;have hne:d≠s:=by
     rintro rfl;exact hjk (hdist j k d hj hk hs (by rw [hdk,hd]))
    show(a.tmps.setIfInBounds d x)[s]? =_;rw [QF hne];exact h.put j s y hj hs hy
  .have hne:d≠s:=by
    rintro rfl;have:=hs k hk (by rw [hdk,hd]);simp at this
   show(a.tmps.setIfInBounds d x)[s]? =_;rw [QF hne];refine h.off s fun j hj hjs=> ?_
   have hjk:j≠k:=by
    rintro rfl;rw [hdk,hd]at hjs;exact hne (by simpa using hjs)
   have:=hs j hj hjs;simpa only [hjk,yv]using this
theorem z5Z{o:Oper}(hsel:∀cs b,o.op≠ .select cs b){a a':Act}(h:∀t∈o.looksAt ops,a.tmps[t]? =a'.tmps[t]?):
 execOp a.eval o=execOp a'.eval o/\Region.wanted o (yielded ops a.tmps)=Region.wanted o (yielded ops a'.tmps):=by
 constructor
 .refine execOp_congr o hsel fun x hx=> ?_
  cases x with
  |tmp t=>
   have:=h t (yS _ (List.mem_filterMap.2 ⟨.tmp t,by simpa using hx,rfl⟩));simp only [Act.eval,Array.getD_eq_getD_getElem?,this]
  |_=>rfl
 .unfold Region.wanted;cases hg:o.guard with
  |none=>rfl
  |some gw=>
   obtain⟨g,want⟩:=gw;have hy:yielded ops a.tmps g=yielded ops a'.tmps g:=by
    unfold yielded;cases ht:(ops[g]?).bind (·.dst)with
    |none=>rfl
    |some t=>
     have:=h t (by simp [Oper.looksAt,hg,ht]);simp [this]
   simp only [hy]
theorem Laid.congr{a0 a:Act}{f g:Nat->Option Value}(h:Laid ops a0 f a)(hfg:∀j,j<ops.size->f j=g j):Laid ops a0 g a:=
 ⟨h.defers,h.size,fun j s x hj hs hx=>h.put j s x hj hs (by rw [hfg j hj];exact hx),fun s hs=>h.off s fun j hj hjs=>by rw [hfg j hj];exact hs j hj hjs⟩
theorem Laid.same{a0 a a':Act}{f:Nat->Option Value}(h:Laid ops a0 f a)(h':Laid ops a0 f a'):a=a':=by
 have ht:a.tmps=a'.tmps:=by
  apply Array.ext_getElem?;intro s;by_cases hs:∃j x,j<ops.size/\z2J ops j=some s/\f j=some x
  .obtain⟨j,x,hj,hd,hf⟩:=hs;rw [h.put j s x hj hd hf,h'.put j s x hj hd hf]
  .have hoff:∀j,j<ops.size->z2J ops j=some s->f j=none:=fun j hj hd=>by
    cases hf:f j with
    |none=>rfl
    |some x=>exact absurd ⟨j,x,hj,hd,hf⟩ hs
   rw [h.off s hoff,h'.off s hoff]
 have hd:a.defers=a'.defers:=h.defers.trans h'.defers.symm;cases a
 cases a'
 simp only at ht hd;subst ht hd;rfl
def z5b(ops:Array Oper)(a0:Act)(y:Nat->Value):Nat->Act
 |0=>a0
 |k+1=>(z5b ops a0 y k).put (z2J ops k) (y k)
theorem z2i(hg:z3C ops=true)(a0:Act)(y:Nat->Value):∀k,k<=ops.size->Laid ops a0 (fun j=>if j<k then some (y j)else none) (z5b ops a0 y k)
 |0,_=>(Laid.start a0).congr fun j _=>by simp
 |k+1,hk=>by
  have ho:ops[k]? =some ops[k]:=yG (by omega);have h:=(z2i hg a0 y k (by omega)).next hg ho (by simp) (y k);have e:z2J ops k=ops[k].dst:=by simp [z2J,ho]
  rw [z5b,e];refine h.congr fun j _=> ?_
  by_cases hj:j=k
  .subst hj;simp
  .by_cases hj2:j<k
   .simp [hj,hj2,Nat.lt_succ_of_lt hj2]
   .have:¬j<k+1:=by omega
    simp [hj,hj2,this]
def vAt(Vs:List VP)(j:Nat):VP:=Vs.getD j fun _ _=>True
def z5C(Vs:List VP)(y:Nat->Value)(k:Nat):List (Value×VP):=(List.range k).map fun j=>(y j,vAt Vs j)
theorem z3H{Vs:List VP}{y:Nat->Value}{k j:Nat}{x:Value}{W:VP}(h:(z5C Vs y k)[j]? =some (x,W)):j<k/\x=y j/\W=vAt Vs j:=by
 unfold z5C at h;rw [Zj]at h;rcases Y5 j k with hj|hj
 .rw [List.getElem?_range hj]at h;simp only [Z0,YH,Ze]at h;exact⟨hj,h.1.symm,h.2.symm⟩
 .rw [ZE (by simpa using hj)]at h;cases h
variable {C:World->Prop} {Q:Act->World->Prop} {Vs:List VP} {a0:Act}
theorem z5S(hlen:Vs.length=ops.size)(h0:z38 P ops C Q ops.toList Vs [] a0)(y:Nat->Value):∀k,k<=ops.size->(∀j,j<k->∃w,C w/\vAt Vs j (y j) w)->
 z38 P ops C Q (ops.toList.drop k) (Vs.drop k) (z5C Vs y k) (z5b ops a0 y k)
 |0,_,_=>by simpa [z5C,z5b]using h0
 |k+1,hk,hy=>by
  have ih:=z5S hlen h0 y k (by omega) fun j hj=>hy j (by omega)
  have hk1:k<ops.toList.length:=by rw [ye];omega
  have hk2:k<Vs.length:=by omega
  rw [yL (l:=ops.toList) hk1,yL (l:=Vs) hk2]at ih;have h2:=ih.2 (y k) (by
   obtain⟨w,hw,hv⟩:=hy k (by omega);refine⟨w,hw,?_⟩;have e:vAt Vs k=Vs[k]'(by omega):=by simp [vAt,List.getD,yK (show k<Vs.length by omega)]
   rw [e]at hv;exact hv)
  have e1:z5C Vs y (k+1)=z5C Vs y k++ [(y k,Vs[k]'(by omega))]:=by
   simp [z5C,Zb,vAt,List.getD,yK (show k<Vs.length by omega)]
  have e2:z5b ops a0 y (k+1)=(z5b ops a0 y k).put (ops.toList[k]'(by rw [ye];omega)).dst (y k):=by
   rw [z5b]
   congr 1
   simp [z2J,yG (show k<ops.size by omega)]
  rw [e1,e2];exact h2
theorem zBJ{l:Array Bool}{j:Nat}(h:l.getD j true=false):l.getD j false=false:=by
 rcases Y5 j l.size with hj|hj
 .simpa [Array.getD,hj]using h
 .simp [Array.getD,hj,Nat.not_lt.2 hj]
theorem z5D(hg:z3C ops=true)(hS:∀V∈Vs,Stays V)(hC:∀w w',C w->Below w.heap.size w w'->C w')(hlen:Vs.length=ops.size)
 (h0:z38 P ops C Q ops.toList Vs [] a0) {w:World} (hw:C w) {L:Nat->Bool} {x:Nat->Value} (hx:∀j,j<ops.size->L j=true->vAt Vs j (x j) w):
 ∀k,k<=ops.size->∃ (y:Nat->Value) (w':World),Below w.heap.size w w'/\(∀j,L j=true->y j=x j)/\∀j,j<k->vAt Vs j (y j) w'
 |0,_=>⟨x,w,y7 _ _,fun _ _=>rfl,fun j hj=>by omega⟩
 |k+1,hk=>by
  obtain⟨y,w',hb,hyx,hy⟩:=z5D hg hS hC hlen h0 hw hx k (by omega);have hst:∀j,j<ops.size->Stays (vAt Vs j):=fun j hj=>by
   have e:vAt Vs j=Vs[j]'(by omega):=by simp [vAt,List.getD,yK (show j<Vs.length by omega)]
   rw [e];exact hS _ (yQ _)
  have hcw':=hC w w' hw hb;by_cases hL:L k=true
  .refine⟨y,w',hb,hyx,fun j hj=> ?_⟩;by_cases hjk:j=k
   .subst hjk;rw [hyx j hL];exact hst j (by omega) _ _ _ hb (hx j (by omega) hL)
   .exact hy j (by omega)
  .have hat:=z5S hlen h0 y k (by omega) fun j hj=>⟨w',hcw',hy j hj⟩
   have hk1:k<ops.toList.length:=by rw [ye];omega
   have hk2:k<Vs.length:=by omega
   rw [yL (l:=ops.toList) hk1,yL (l:=Vs) hk2]at hat;have e:vAt Vs k=Vs[k]'(by omega):=by simp [vAt,List.getD,yK (show k<Vs.length by omega)]
   have hex:∃v w'',Below w'.heap.size w' w''/\vAt Vs k v w'':=by
    have h1:=hat.1
    split at h1
    .obtain⟨v,w'',hbb,hv⟩:=z6r (h1 w' hcw' fun e he hbd x W hxW=>by
      obtain⟨hlt,rfl,rfl⟩:=z3H hxW;exact hy _ hlt)
     exact⟨v,w'',hbb,by rw [e];exact hv⟩
    .exact⟨undef,w',y7 _ _,by rw [e];exact h1 w' hcw'⟩
   obtain⟨v,w'',hbb,hv⟩:=hex;refine⟨fun j=>if j=k then v else y j,w'',z1M hb hbb,fun j hj=> ?_,fun j hj=> ?_⟩
   .have hne:j≠k:=by rintro rfl;exact hL hj
    simp only [hne,yv];exact hyx j hj
   .by_cases hjk:j=k
    .subst hjk;simpa using hv
    .simp only [hjk,yv];exact hst j (by omega) _ _ _ hbb (hy j (by omega))
theorem z2U{α:Type}{p q:α->Bool}:∀ (l:List α),(∀x∈l,q x=true->p x=true)->∀i∈l,p i=true->q i=false->(l.filter q).length<(l.filter p).length
 | [],_,i,hi,_,_=>by cases hi
 |a::l,hpq,i,hi,hp,hq=>by
  have hle:∀ (l:List α),(∀x∈l,q x=true->p x=true)->(l.filter q).length<=(l.filter p).length:=by
   intro l
   induction l with
   |nil=>intro _;simp
   |cons b l ih=>
    intro h;have:=ih fun x hx=>h x (ym _ hx)
    by_cases hqb:q b=true
    .simp [Yf,hqb,h b (YJ ..) hqb];omega
    .by_cases hpb:p b=true<;>simp [Yf,hqb,hpb]<;>omega
  have h2:=hle l fun x hx=>hpq x (ym _ hx)
  rcases y9.1 hi with rfl|hi'
  .simp [Yf,hp,hq];omega
  .have h3:=z2U l (fun x hx=>hpq x (ym _ hx)) i hi' hp hq;by_cases hqb:q a=true
   .simp [Yf,hqb,hpq a (YJ ..) hqb];omega
   .by_cases hpb:p a=true<;>simp [Yf,hqb,hpb]<;>omega
def unl(n:Nat)(listed:Array Bool):Nat:=((List.range n).filter fun j=> !listed.getD j true).length
theorem zEG(hg:z3C ops=true)(hS:∀V∈Vs,Stays V)(hC:∀w w',C w->Below w.heap.size w w'->C w')(hlen:Vs.length=ops.size)
 (h0:z38 P ops C Q ops.toList Vs [] a0) {Q':Exit->Act->World->Prop} (hQ:∀a w,Q a w->Q' .normal a w):
 ∀ (fuel:Nat) (listed:Array Bool) (a:Act) (w:World) (x:Nat->Value),listed.size=ops.size->C w->Laid ops a0 (fun j=>if listed.getD j false then some (x j)else none) a->
   (∀j,j<ops.size->listed.getD j false=true->vAt Vs j (x j) w)->(∀ (i:Nat) (o:Oper),ops[i]? =some o->listed.getD i false=true->∀e∈o.after,Region.binds .any e=true->listed.getD e.on false=true)->
   unl ops.size listed<=fuel->wpAny P .any ops Q' fuel listed a w:=by
 obtain⟨hs1,hs2,hs3,hs4⟩:=z3J hg;have hlt:∀ {i:Nat} {o:Oper},ops[i]? =some o->i<ops.size:=fun ho=>(YM.1 ho).1
 have hend:∀ (listed:Array Bool) (a:Act) (w:World) (x:Nat->Value),listed.size=ops.size->C w->Laid ops a0 (fun j=>if listed.getD j false then some (x j)else none) a->
  (∀j,j<ops.size->listed.getD j false=true->vAt Vs j (x j) w)->Region.ready .any ops listed= []->Q' .normal a w:=by
  intro listed a w x hsz hw hL hx hr;have hall:∀n,∀j,j<n->j<ops.size->listed.getD j false=true:=by
   intro n
   induction n with
   |zero=>intro j hj;omega
   |succ n ih=>
    intro j hj hjs;rcases Y5 j n with hjn|hjn
    .exact ih j hjn hjs
    .obtain rfl:j=n:=by omega
     cases hlj:listed.getD j false with
     |true=>rfl
     |false=>
      exfalso;have:j∈Region.ready .any ops listed:=mem_ready.2 ⟨by
       have hj':j<listed.size:=by omega
       simpa [Array.getD,hj']using hlj,ops[j],yG hjs,fun e he hb=>ih e.on (hs1 j _ (yG hjs) e he hb) (by have:=hs1 j _ (yG hjs) e he hb;omega)⟩
      rw [hr]at this;cases this
  have hat:=z5S hlen h0 x ops.size (y5 _) fun j hj=>⟨w,hw,hx j hj (hall _ j hj hj)⟩
  rw [Yg (by simp),Yg (by omega)]at hat;have hq:=hat w hw fun j x' W hxW=>by
   obtain⟨hj,rfl,rfl⟩:=z3H hxW;exact hx j hj (hall _ j hj hj)
  have he:a=z5b ops a0 x ops.size:=Laid.same hL ((z2i hg a0 x ops.size (y5 _)).congr fun j hj=>by simp only [hj,YN,hall _ j hj hj]);rw [he];exact hQ _ _ hq
 intro fuel
 induction fuel with
 |zero=>
  intro listed a w x hsz hw hL hx hcl hf;have hr:Region.ready .any ops listed= []:=by
   rw [ZP];intro i hi;obtain⟨h1,o,ho,_⟩:=mem_ready.1 hi;have:i∈(List.range ops.size).filter fun j=> !listed.getD j true:=YD.2 ⟨yt.2 (hlt ho),by rw [h1];rfl⟩
   have hz:((List.range ops.size).filter fun j=> !listed.getD j true)= []:=yX (by unfold unl at hf;omega);rw [hz]at this;cases this
  exact⟨hr,hend listed a w x hsz hw hL hx hr⟩
 |succ fuel ih=>
  intro listed a w x hsz hw hL hx hcl hf;refine⟨fun hr=>hend listed a w x hsz hw hL hx hr,fun i hi=> ?_⟩;obtain⟨hi1,o,ho,hdeps⟩:=mem_ready.1 hi;have hin:=hlt ho;have hi2:=zBJ hi1;have eV:vAt Vs i=Vs[i]'(by omega):=by simp [vAt,List.getD,yK (show i<Vs.length by omega)]
  obtain⟨y,w',hb,hyx,hy⟩:=z5D hg hS hC hlen h0 hw (L:=fun j=>listed.getD j false) hx i (by omega);have hat:=z5S hlen h0 y i (by omega) fun j hj=>⟨w',hC w w' hw hb,hy j hj⟩
  have hk1:i<ops.toList.length:=by rw [ye];omega
  have hk2:i<Vs.length:=by omega
  rw [yL (l:=ops.toList) hk1,yL (l:=Vs) hk2]at hat;have eo:ops.toList[i]'(by simpa using hin)=o:=by
   have:=yG hin;rw [ho]at this;simpa using (YF this).symm
  rw [eo,<-eV]at hat;have hlex:=z2i hg a0 y i (by omega);have hag:∀t∈o.looksAt ops,a.tmps[t]? =(z5b ops a0 y i).tmps[t]? :=by
   intro t ht;by_cases hj:∃j,j<ops.size/\z2J ops j=some t
   .obtain⟨j,hjn,hjd⟩:=hj;have only:∀j',j'<ops.size->z2J ops j'=some t->j'=j:=fun j' h1 h2=>hs2 j' j t h1 hjn h2 hjd
    have hother:(listed.getD j false=false)->i<=j->a.tmps[t]? =(z5b ops a0 y i).tmps[t]? :=fun h1 h2=>by
     rw [hL.off t fun j' hj' hd'=>by rw [only j' hj' hd',h1];rfl,hlex.off t fun j' hj' hd'=>by
      rw [only j' hj' hd'];have:¬j<i:=by omega
      simp [this]]
    rcases hs3 i j o t ho hjn hjd ht with h|h|h
    .obtain⟨e,he,rfl,hbd⟩:=(z0z ho).1 h;have hl:=hdeps e he hbd;have hji:=hs1 i o ho e he hbd;rw [hL.put e.on t (x e.on) hjn hjd (by rw [hl];rfl),hlex.put e.on t (y e.on) hjn hjd (by simp [hji]),hyx e.on hl]
    .obtain⟨e,he,rfl,hbd⟩:=(z0z (yG hjn)).1 h;have hlt2:=hs1 j _ (yG hjn) e he hbd;refine hother ?_ (by omega);cases hlj:listed.getD j false with
     |false=>rfl
     |true=>
      have:=hcl j _ (yG hjn) hlj e he hbd;rw [hi2]at this;cases this
    .subst h;exact hother hi2 (y5 _)
   .rw [hL.off t fun j hjn hjd=>absurd ⟨j,hjn,hjd⟩ hj,hlex.off t fun j hjn hjd=>absurd ⟨j,hjn,hjd⟩ hj]
  obtain⟨hex,hwant⟩:=z5Z (ops:=ops) (hs4 i o · · ho) hag;have hnext:∀v w2,C w2->Below w.heap.size w w2->vAt Vs i v w2->wpAny P .any ops Q' fuel (listed.setIfInBounds i true) (a.put o.dst v) w2:=by
   intro v w2 hw2 hb2 hv;have hset:∀j,(listed.setIfInBounds i true).getD j false=if j=i then true else listed.getD j false:=fun j=>by
    by_cases hji:j=i
    .subst hji;have:j<listed.size:=by omega
     simp [Array.getD,this]
    .rw [getD_set_ne false (fun e=>hji e.symm)];simp [hji]
   refine ih _ _ _ (fun j=>if j=i then v else x j) (by simpa using hsz) hw2 ?_ ?_ ?_ ?_
   .refine(hL.next hg ho (by rw [hi2];rfl) v).congr fun j hj=> ?_
    rw [hset];by_cases hji:j=i<;>simp [hji]
   .intro j hj hlj;rw [hset]at hlj;by_cases hji:j=i
    .subst hji;simpa using hv
    .simp only [hji,yv]at hlj ⊢;have e:vAt Vs j=Vs[j]'(by omega):=by simp [vAt,List.getD,yK (show j<Vs.length by omega)]
     have:=hx j hj hlj;rw [e]at this ⊢;exact hS _ (yQ _) _ _ _ hb2 this
   .intro k ok hok hlk e he hbd;rw [hset]at hlk ⊢;by_cases hki:k=i
    .subst hki;obtain rfl:ok=o:=by rw [ho]at hok;exact(YF hok).symm
     have:=hdeps e he hbd;by_cases h':e.on=k<;>simp [h',this]
    .simp only [hki,yv]at hlk;have:=hcl k ok hok hlk e he hbd;by_cases h':e.on=i<;>simp [h',this]
   .have:unl ops.size (listed.setIfInBounds i true)<unl ops.size listed:=by
     refine z2U (List.range ops.size) (fun j _ hq=> ?_) i (yt.2 hin) (by rw [hi1];rfl) ?_
     .by_cases hji:j=i
      .subst hji;rw [hi1];rfl
      .rwa [getD_set_ne true (fun e=>hji e.symm)]at hq
     .have:i<listed.size:=by omega
      simp [Array.getD,this]
    omega
  unfold wpOp;simp only [ho];rw [hwant];have h1:=hat.1
  split
  .rename_i hwt;rw [yB hwt]at h1;refine .inl (zC1 (V:=vAt Vs i) ?_ fun v w2 hb2 hv=>hnext v w2 (hC _ _ hw hb2) hb2 hv);unfold z03;rw [hex];exact h1 w hw fun e he hbd x' W hxW=>by
    obtain⟨hlt2,rfl,rfl⟩:=z3H hxW;have hl:=hdeps e he hbd;rw [hyx _ hl];exact hx _ (by omega) hl
  .rename_i hwt;rw [yA hwt]at h1;exact hnext undef w hw (y7 _ _) (h1 w hw)
theorem z86{id:Nat}{Q':Exit->Act->World->Prop}{w0:World}(l:List Oper)(hm:P.follows .mixedOrders=true)(hg:z3C l.toArray=true)(Vs:List VP)(hS:∀V∈Vs,Stays V)(hlen:Vs.length=l.length)
 (h0:z38 P l.toArray (fun w=>Below w0.heap.size w0 w) (fun a w=>Q' .normal a w) l Vs [] a0):(Code.region id l.toArray true).wp P Q' a0 w0:=by
 refine wp_region_any hm (zEG (C:=fun w=>Below w0.heap.size w0 w) (Q:=fun a w=>Q' .normal a w) hg hS (fun w w' h k=>z1M h k) (by simpa using hlen) (by simpa using h0) (fun a w h=>h) _ _ _ _ (fun _=>undef) (by simp) ?_ ?_ ?_ ?_ ?_)
 .exact⟨rfl,rfl,rfl,y5 _,fun _ _=>rfl⟩
 .refine(Laid.start a0).congr fun j hj=> ?_
  have:(Array.replicate l.toArray.size false).getD j false=false:=by unfold Array.getD;split<;>simp
  rw [this];rfl
 .intro j hj h;have:(Array.replicate l.toArray.size false).getD j false=false:=by unfold Array.getD;split<;>simp
  rw [this]at h;cases h
 .intro i o ho h;have:(Array.replicate l.toArray.size false).getD i false=false:=by unfold Array.getD;split<;>simp
  rw [this]at h;cases h
 .unfold unl;exact yD (YI _ _) (by simp)
def zB2:List VP->Prop
 | []=>True
 |V::Vs=>Stays V/\zB2 Vs
theorem zEP:∀ {Vs:List VP},zB2 Vs->∀V∈Vs,Stays V
 |V::Vs,h,W,hW=>by
  rcases y9.1 hW with rfl|hW
  .exact h.1
  .exact zEP h.2 W hW
theorem z06{id:Nat}{Q':Exit->Act->World->Prop}{w0:World}{l:List Oper}{a0:Act}(hm:P.follows .mixedOrders=true)(hg:z3C l.toArray=true)
 (h:∃Vs,z38 P l.toArray (fun w=>Below w0.heap.size w0 w) (fun a w=>Q' .normal a w) l Vs [] a0/\zB2 Vs/\Vs.length=l.length):(Code.region id l.toArray true).wp P Q' a0 w0:=by
 obtain⟨Vs,h0,hS,hlen⟩:=h;exact z86 l hm hg Vs (zEP hS) hlen h0
variable {C:World->Prop} {Q:Act->World->Prop} {a:Act} {o:Oper} {rest:List Oper} {Vs:List VP} {env:List (Value×VP)}
theorem z0D{c:Value}(hw:Region.wanted o (yielded ops a.tmps)=true)
 (h1:∀w,C w->(∀e∈o.after,Region.binds .any e=true->∀ (x:Value) (W:VP),env[e.on]? =some (x,W)->W x w)->z03 P o a w (Is c))
 (h2:∀K:Act->Prop,(∀a',z38 P ops C Q rest Vs (env++ [(c,Is c)]) a'->K a')->K (a.put o.dst c)):z38 P ops C Q (o::rest) (Is c::Vs) env a:=by
 refine⟨by rw [yB hw];exact h1,fun x ⟨w,_,hx⟩=> ?_⟩;obtain rfl:x=c:=hx;exact h2 _ fun _ h=>h
theorem z1N{V:VP}(hw:Region.wanted o (yielded ops a.tmps)=true)
 (h1:∀w,C w->(∀e∈o.after,Region.binds .any e=true->∀ (x:Value) (W:VP),env[e.on]? =some (x,W)->W x w)->z03 P o a w V)
 (h2:∀x,(∃w,C w/\V x w)->∀K:Act->Prop,(∀a',z38 P ops C Q rest Vs (env++ [(x,V)]) a'->K a')->K (a.put o.dst x)):z38 P ops C Q (o::rest) (V::Vs) env a:=
 ⟨by rw [yB hw];exact h1,fun x hx=>h2 x hx _ fun _ h=>h⟩
theorem z0J(hw:Region.wanted o (yielded ops a.tmps)=false)(h2:∀K:Act->Prop,(∀a',z38 P ops C Q rest Vs (env++ [(undef,Is undef)]) a'->K a')->K (a.put o.dst undef)):z38 P ops C Q (o::rest) (Is undef::Vs) env a:=by
 refine⟨by rw [yA (by rw [hw];simp)];exact fun _ _=>rfl,fun x ⟨w,_,hx⟩=> ?_⟩;obtain rfl:x=undef:=hx;exact h2 _ fun _ h=>h
theorem z0f(h:∀w,C w->(∀ (j:Nat) (x:Value) (W:VP),env[j]? =some (x,W)->W x w)->Q a w):z38 P ops C Q [] [] env a:=h
theorem z00(w:World)(v:Value):z0H P w (Is v) (.ok (.value v) w):=⟨y7 _ _,rfl⟩
theorem z0Z{f:FuncId}{args:Array Value}{w:World}{v:Value}(h:Calls P f args w fun e w'=>e= .returned v/\Below w.heap.size w w'):z0H P w (Is v) (.ok (.enter f args) w):=
 ⟨y7 _ _,h.mono fun e w' ⟨he,hb⟩=>⟨v,he,hb,rfl⟩⟩
theorem z3K{f:FuncId}{args:Array Value}{w:World}{v:Value}(h:Calls P f args w fun e w'=>e= .returned v/\w=w'):z0H P w (Is v) (.ok (.enter f args) w):=
 z0Z (h.mono fun _ _ ⟨he,hw⟩=>⟨he,hw▸y7 _ _⟩)
end
end
section
open Go Go.RowKit Tryz
def VBs(l:List UInt8):VP:=fun v w=>Bs (fun _=>True) w v l
theorem Bs.later{S:Nat->Prop}{w w':World}{v:Value}{l:List UInt8}(h:Bs S w v l)(hb:Below w.heap.size w w'):Bs S w' v l:=by
 obtain⟨A,c,rfl,h3,h4,h5,h6⟩:=h.at;refine Bs.mk_ h3 h4 h5 fun hn=> ?_
 obtain⟨b,o,hA,hS,hc⟩:=h6 hn;exact⟨b,o,hA,hS,fun j hj=>yN hb (hc j hj)⟩
theorem Stays.bs(l:List UInt8):Stays (VBs l):=fun _ _ _ hb h=>Bs.later h hb
theorem zAa(s:List UInt8)(w:World)(hs:s.length<=65536):
 Calls prog 197 #[.string (st s)] w fun e w'=>e= .returned (.int .i64 ((z0y s).length:Int))/\w=w':=by
 have hwr:IntKind.u64.wrap (s.length:Int)=(s.length:Int):=z1a (by omega) (by unfold U64;omega);have h64:s.length<U64:=by unfold U64;omega
 have h10:=z09 h64;have HT:=zz (z1j s hs);go_enter func197,ntmps197
 go_wp2_with fail
 refine(z9d s.length w h64).mono ?_;rintro e w1 ⟨rfl,rfl⟩;have hadd:IntKind.i64.wrap (((z0C s.length).length:Int)+(s.length:Int))=((z0C s.length).length:Int)+(s.length:Int):=YB _ (by omega);generalize (z0C s.length).length=a at*;go_wp2_with fail
 go_ret
 exact⟨by rw [HT.out];simp,rfl⟩
def Mid(cs:List Cel):Prop:=cs.length<=1000000/\∀c∈cs,c.1.length<=65536/\c.2.length<=65536
theorem z5e(S:Nat->Prop)(v0:Value)(cs:List Cel)(w:World)(hm:Mid cs)(hr:Cs S w v0 cs):
 Calls prog 189 #[v0] w fun e w'=>e= .returned (.int .i64 (z07 cs:Int))/\Below w.heap.size w w':=by
 have hlt:=hr.lt;obtain⟨A,c,rfl,hlc,hcm,hA0,hA⟩:=hlt.at;have HA:=zz hA;have HX:=zz hm.2;have hml:=hm.1;clear hA hr hlt;go_enter func189,ntmps189
 go_wp2_with fail
 go_loopw [3,8] (fun nv iv wr=>∃i:Nat,iv= .int .i64 (i:Int)/\nv= .int .i64 (z07 (cs.take i):Int)/\i<=cs.length/\Below w.heap.size w wr) (fun _ iv _=>cs.length-(intOf iv).toNat)
 case atStart=>exact⟨0,rfl,rfl,by omega,y7 _ _⟩
 case round=>
  obtain⟨i,rfl,rfl,hi,hbl⟩:=hrel;have hsz:=hbl.size;by_cases hil:i<cs.length
  .obtain⟨b,o,rfl,hbs,hc⟩:=HA.out (by omega);have c0:wr.cell? ⟨b,o+i*2,none⟩=some (.string (st cs[i].1)):=(hbl.cell (p:=⟨b,o+i*2,none⟩) hbs).trans (hc i hil).1;have c1:wr.cell? ⟨b,o+i*2+1,none⟩=some (.string (st cs[i].2)):=(hbl.cell (p:=⟨b,o+i*2+1,none⟩) hbs).trans (hc i hil).2;have hx:=HX.out _ (yQ hil);have HS:=zz (z2c hil);have hb1:=zEW hx;have hN:z07 (cs.take i)<=131092*1000000:=by
    have:=z4l (cs.take i) (fun c hc=>HX.out c (yY hc));rw [yC]at this;have h2:min i cs.length<=1000000:=by omega
    exact yD this (YT _ h2)
   generalize z07 (cs.take i)=N at*;obtain⟨x,hx0⟩:∃x,cs[i]=x:=⟨_,rfl⟩;rw [hx0]at c0 c1 hx HS hb1;clear hx0 hc;obtain⟨k,v⟩:=x;simp only at c0 c1 hx;have HE:Hid ((z3B (k,v)).length=(z0y k).length+(z0y v).length):=by unfold z3B;rw [Hid,y6]
   have l1:=z3T hx.1;have l2:=z3T hx.2;have s1:=fun(w:World)=>zAa k w hx.1
   have s2:=fun(w:World)=>zAa v w hx.2
   have hn:=Blk.new wr 94 #[.string (st k),.string (st v)];have e0:(wr.alloc (.cells #[.string (st k),.string (st v)] 94)).cell? ⟨wr.heap.size,0,none⟩=some (.string (st k)):=hn.cell 0;have e1:(wr.alloc (.cells #[.string (st k),.string (st v)] 94)).cell? ⟨wr.heap.size,1,none⟩=some (.string (st v)):=hn.cell 1;have q1:=hbl.alloc hsz (.cells #[.string (st k),.string (st v)] 94);have hw1:IntKind.i64.wrap (((z0y k).length:Int)+((z0y v).length:Int))=((z0y k).length:Int)+((z0y v).length:Int):=YB _ (by omega);have hw2:IntKind.i64.wrap ((N:Int)+(((z0y k).length:Int)+((z0y v).length:Int)))=(N:Int)+(((z0y k).length:Int)+((z0y v).length:Int)):=YB _ (by omega);generalize (z0y k).length=a at*;generalize (z0y v).length=b' at*;go_wp2_with fail
   refine z06 (by kernel_rfl) (by kernel_rfl) ?_;apply Exists.intro;apply And.intro
   .repeat(first
     |(apply z0J rfl
       intro K hK;go_simp;refine hK _ ?_;clear hK K)
     |(apply z0D rfl
       .intro wg hwg _;have c0':=yN hwg e0;have c1':=yN hwg e1;unfold z03;go_simp
        first
         |exact z00 _ _
         |(apply z3K;go_at_call_of 197 (Value.string (st k));exact s1 _)
         |(apply z3K;go_at_call_of 197 (Value.string (st v));exact s2 _)
       intro K hK;go_simp;refine hK _ ?_;clear hK K))
    refine z0f (fun wg hwg _=> ?_);go_wp2_with fail
    go_roundw
    case rel=>exact⟨i+1,by go_num,by rw [HS.out,HE.out];go_num,by omega,q1.trans (hwg.mono q1.size)⟩
    case measure=>simp [intOf];omega
   .apply And.intro
    .repeat(first|exact trivial|(refine⟨Stays.is _,?_⟩)|(refine⟨Stays.bs _,?_⟩)|(refine⟨Stays.pg _ _ _,?_⟩))
    .rfl
  .obtain rfl:i=cs.length:=by omega
   rw [YG];go_wp2_with fail
   go_ret
   exact⟨rfl,hbl⟩
theorem z6y(k v:List UInt8)(w:World)(hk:k.length<=65536)(hv:v.length<=65536):
 Calls prog 178 #[.agg #[.string (st k),.string (st v)]] w fun e w'=>e= .returned (.bool (decide (480<k.length+v.length)))/\Below w.heap.size w w':=by
 have hn:=Blk.new w 94 #[.string (st k),.string (st v)];have q1:Below w.heap.size w (w.alloc (.cells #[.string (st k),.string (st v)] 94)):=(y7 _ _).alloc (y5 _) _;have hw1:IntKind.i64.wrap ((k.length:Int)+(v.length:Int))=(k.length:Int)+(v.length:Int):=YB _ (by omega);go_enter func178,ntmps178
 go_wp2_with fail
 go_ret
 refine⟨?_,q1⟩;have:decide ((480:Int)<(k.length:Int)+(v.length:Int))=decide (480<k.length+v.length):=by rw [decide_eq_decide];omega
 simp [<-this]
theorem zHq(S:Nat->Prop)(leaf:Bool)(next:Int)(nn a:Nat)(v0:Value)(cs:List Cel)(w:World)(hm:Mid cs)(hr:Cs S w v0 cs)(hcase:(next<0/\nn=0)∨next=(nn:Int))(h64:nn<9223372036854775808)(ha:a<=10)
 (s1:∀w,Calls prog 188 #[.int .u64 (nn:Int)] w fun e w'=>e= .returned (.int .i64 (a:Int))/\w=w'):
 Calls prog 175 #[.agg #[.bool leaf,.int .i64 next,v0]] w fun e w'=>e= .returned (.int .i64 ((1+a+(z0C cs.length).length+z07 cs+4:Nat):Int))/\Below w.heap.size w w':=by
 have HR:=zz hr.lt;obtain⟨A,c,rfl,hlc,hcm,hA0,_⟩:=hr.at;have hb:=Blk.new w 175 #[.bool leaf,.int .i64 next,.slice A cs.length c];have e1:(w.alloc (.cells #[.bool leaf,.int .i64 next,.slice A cs.length c] 175)).cell? ⟨w.heap.size,1,none⟩=some (.int .i64 next):=hb.cell 1;have e2:(w.alloc (.cells #[.bool leaf,.int .i64 next,.slice A cs.length c] 175)).cell? ⟨w.heap.size,2,none⟩=some (.slice A cs.length c):=hb.cell 2;have q1:Below w.heap.size w (w.alloc (.cells #[.bool leaf,.int .i64 next,.slice A cs.length c] 175)):=(y7 _ _).alloc (y5 _) _;have hc64:cs.length<U64:=by have:=hm.1;unfold U64;omega
 have s2:=fun(w:World)=>z9d cs.length w hc64
 have s3:Hid (∀wg,Below (w.alloc (.cells #[.bool leaf,.int .i64 next,.slice A cs.length c] 175)).heap.size (w.alloc (.cells #[.bool leaf,.int .i64 next,.slice A cs.length c] 175)) wg->Calls prog 189 #[.slice A cs.length c] wg fun e w'=>e= .returned (.int .i64 (z07 cs:Int))/\Below wg.heap.size wg w'):=
  fun wg hwg=>z5e _ _ cs wg hm (HR.out.up (q1.trans (hwg.mono q1.size)))
 have l2:=z09 hc64;have l3:z07 cs<=131092*1000000:=yD (z4l cs hm.2) (YT _ hm.1);have hml:=hm.1;have hw1:IntKind.u64.wrap (nn:Int)=(nn:Int):=z1a (by omega) (by unfold U64;omega);have hw2:IntKind.u64.wrap (cs.length:Int)=(cs.length:Int):=z1a (by omega) (by unfold U64;omega);generalize (z0C cs.length).length=b at*;generalize z07 cs=N at*;have hw0:IntKind.u64.wrap 0=0:=by decide
 have hif:(if(nn:Int)<0 then(0:Int)else(nn:Int))=(nn:Int):=yA (by omega);rcases hcase with⟨h0,rfl⟩|rfl
 all_goals
  go_enter func175,ntmps175
  go_wp2_with fail
  refine z06 (by kernel_rfl) (by kernel_rfl) ?_;apply Exists.intro;apply And.intro
  .repeat(first
    |(apply z0J rfl
      intro K hK;go_simp;refine hK _ ?_;clear hK K)
    |(apply z0D rfl
      .intro wg hwg _;have c1':=yN hwg e1;have c2':=yN hwg e2;unfold z03;go_simp
       first
        |exact z00 _ _
        |(apply z3K;go_at_call_of 188 (Value.int .u64 0);exact s1 _)
        |(apply z3K;go_at_call_of 188 (Value.int .u64 (nn:Int));exact s1 _)
        |(apply z3K;go_at_call_of 188 (Value.int .u64 (cs.length:Int));exact s2 _)
        |(apply z0Z;go_at_call 189;exact s3.out wg hwg)
      intro K hK;go_simp;refine hK _ ?_;clear hK K))
   refine z0f (fun wg hwg _=> ?_);go_wp2_with fail
   go_ret
   exact⟨by simp [IntKind.wrap,IntKind.bits,IntKind.signed];omega,q1.trans (hwg.mono q1.size)⟩
  .apply And.intro
   .repeat(first|exact trivial|(refine⟨Stays.is _,?_⟩)|(refine⟨Stays.bs _,?_⟩)|(refine⟨Stays.pg _ _ _,?_⟩))
   .rfl
theorem z3Q(S:Nat->Prop)(leaf:Bool)(next:Int)(v0:Value)(cs:List Cel)(w:World)(hn: -9223372036854775808<=next/\next<=9223372036854775807)(hm:Mid cs)(hr:Cs S w v0 cs):
 Calls prog 175 #[.agg #[.bool leaf,.int .i64 next,v0]] w fun e w'=>e= .returned (.int .i64 (z2v next cs:Int))/\Below w.heap.size w w':=
 zHq S leaf next next.toNat _ v0 cs w hm hr (by omega) (by omega) (z09 (by unfold U64;omega)) fun w=>z9d next.toNat w (by unfold U64;omega)
theorem z7K(cs:List Cel):z33 cs 0=none:=by unfold z33;rw [yB rfl]
theorem zBZ{cs:List Cel}{i:Nat}(h:i<cs.length):z33 cs (i+1)=some cs[i].1:=by
 unfold z33;rw [yA (by omega),YS,yK h];rfl
theorem z8W(S:Nat->Prop)(leaf:Bool)(next:Int)(v0:Value)(cs:List Cel)(w:World)(hn: -9223372036854775808<=next/\next<=9223372036854775807)(hm:Mid cs)(hr:Cs S w v0 cs):
 Calls prog 165 #[.agg #[.bool leaf,.int .i64 next,v0]] w fun e w'=>e= .returned (.int .i64 (z1I next cs:Int))/\Below w.heap.size w w':=by
 have HR:=zz hr.lt;have hlt:=hr.lt;obtain⟨A,c,rfl,hlc,hcm,hA0,hA⟩:=hlt.at;have HA:=zz hA;have hb:=Blk.new w 175 #[.bool leaf,.int .i64 next,.slice A cs.length c];have e1:(w.alloc (.cells #[.bool leaf,.int .i64 next,.slice A cs.length c] 175)).cell? ⟨w.heap.size,1,none⟩=some (.int .i64 next):=hb.cell 1;have e2:(w.alloc (.cells #[.bool leaf,.int .i64 next,.slice A cs.length c] 175)).cell? ⟨w.heap.size,2,none⟩=some (.slice A cs.length c):=hb.cell 2;have q1:Below w.heap.size w (w.alloc (.cells #[.bool leaf,.int .i64 next,.slice A cs.length c] 175)):=(y7 _ _).alloc (y5 _) _;clear hA hr hlt;by_cases hnx:next<0∨256<next
 .have HC:Hid (z1I next cs=101):=by unfold z1I;rw [Hid,yB hnx]
  rcases Decidable.em (next<0)with h0|h0
  case' inl=>have hx:=h0
  case' inr=>have hx:256<next:=hnx.resolve_left h0
  all_goals
   clear hnx;go_enter func165,ntmps165
   go_wp2_with fail
   go_ret
   rw [HC.out];exact⟨rfl,q1⟩
 .have h0:¬next<0:=fun h=>hnx (.inl h)
  have h1:¬256<next:=fun h=>hnx (.inr h)
  have HC:Hid (z1I next cs=if chk none cs≠0 then chk none cs else if 2048<z2v next cs then 100 else 0):=by unfold z1I;rw [Hid,yA hnx]
  have HX:=zz hm.2;have hml:=hm.1;have HM:=zz hm;clear hnx hm;go_enter func165,ntmps165
  go_wp2_with fail
  generalize hW:w.alloc (.cells #[.bool leaf,.int .i64 next,.slice A cs.length c] 175)=W at*;clear hW;have HB:=zz hb;have hBW:=hb.lt;go_loopw [16] (fun iv wr=>∃i:Nat,iv= .int .i64 (i:Int)/\i<=cs.length/\Hid (chk none cs=chk (z33 cs i) (cs.drop i))/\Below W.heap.size W wr) (fun iv _=>cs.length-(intOf iv).toNat)
  case atStart=>exact⟨0,rfl,by omega,by rw [z7K];rfl,y7 _ _⟩
  case round=>
   obtain⟨i,rfl,hi,hck,hbl⟩:=hrel;have hsz:=hbl.size;have qr:=q1.trans (hbl.mono q1.size);by_cases hil:i<cs.length
   .obtain⟨b,o,rfl,hbs,hc⟩:=HA.out (by omega);have c0:wr.cell? ⟨b,o+i*2,none⟩=some (.string (st cs[i].1)):=(qr.cell (p:=⟨b,o+i*2,none⟩) hbs).trans (hc i hil).1;have c1:wr.cell? ⟨b,o+i*2+1,none⟩=some (.string (st cs[i].2)):=(qr.cell (p:=⟨b,o+i*2+1,none⟩) hbs).trans (hc i hil).2;have hx:=HX.out _ (yQ hil);have HD:=zz (hck.out.trans (zHJ hil));have hbx:=HB.out.later hbl;obtain⟨x,hx0⟩:∃x,cs[i]=x:=⟨_,rfl⟩;rw [hx0]at c0 c1 hx HD;have HX0:=zz hx0;clear hx0;obtain⟨k,v⟩:=x;simp only at c0 c1 hx HD;have hn4:=Blk.new wr 94 #[.string (st k),.string (st v)];have hbx4:=hbx.alloc (.cells #[.string (st k),.string (st v)] 94);have q4:=hbl.alloc hsz (.cells #[.string (st k),.string (st v)] 94);have e4:(wr.alloc (.cells #[.string (st k),.string (st v)] 94)).cell? ⟨wr.heap.size,0,none⟩=some (.string (st k)):=hn4.cell 0;have hc':∀j (hj:j<cs.length),(wr.alloc (.cells #[.string (st k),.string (st v)] 94)).cell? ⟨b,o+j*2,none⟩=some (.string (st cs[j].1)):=fun j hj=>((qr.alloc (yD q1.size hsz) _).cell (p:=⟨b,o+j*2,none⟩) hbs).trans (hc j hj).1
    have HCC:=zz hc';clear hc hc';go_wp2_with fail
    refine(z6y k v _ hx.1 hx.2).mono ?_;rintro e w5 ⟨rfl,hbl5⟩;have hbx5:=hbx4.later hbl5;have q5:=q4.trans (hbl5.mono q4.size);by_cases hg:480<k.length+v.length
    .have HE:Hid (z1I next cs=100):=by
      have h:=HD.out;rw [yB hg]at h;rw [Hid,HC.out,yB (by rw [h];decide),h]
     have t0:decide (480<k.length+v.length)=true:=yq hg;clear hg HD HC;go_wp2_with fail
     go_ret
     rw [HE.out];exact⟨rfl,q1.trans (q5.mono q1.size)⟩
    .have t0:decide (480<k.length+v.length)=false:=yZ hg;have HD2:Hid (chk none cs=if zB1 (z33 cs i) k=true then 101 else chk (z33 cs (i+1)) (cs.drop (i+1))):=by
      have h:=HD.out;rw [yA hg]at h;exact h
     have e5:=yN hbl5 e4;have g2:w5.cell? ⟨w.heap.size,2,none⟩=some (.slice (some ⟨b,o,none⟩) cs.length c):=hbx5.cell 2;clear hg HD;rcases i with _|j
     .have HD3:Hid (chk none cs=chk (z33 cs 1) (cs.drop 1)):=by
       have h:=HD2.out;rw [z7K]at h;rw [yA (by simp [zB1])]at h;exact h
      go_wp2_with fail
      refine z06 (by kernel_rfl) (by kernel_rfl) ?_;apply Exists.intro;apply And.intro
      .repeat(first
        |(apply z0J rfl
          intro K hK;go_simp;refine hK _ ?_;clear hK K)
        |(apply z0D rfl
          .intro wg hwg _
           skip
           unfold z03;go_simp
           first
            |exact z00 _ _
          intro K hK;go_simp;refine hK _ ?_;clear hK K))
       refine z0f (fun wg hwg _=> ?_);go_wp2_with fail
       go_roundw
       case rel=>exact⟨1,by go_num,by omega,HD3,q5.trans (hwg.mono q5.size)⟩
       case measure=>simp [intOf];omega
      .apply And.intro
       .repeat(first|exact trivial|(refine⟨Stays.is _,?_⟩)|(refine⟨Stays.bs _,?_⟩)|(refine⟨Stays.pg _ _ _,?_⟩))
       .rfl
     .have hjl:j<cs.length:=by omega
      have c5:=yN hbl5 (HCC.out j hjl);have HP:=zz (zBZ hjl);obtain⟨p,hp⟩:∃p,cs[j].1=p:=⟨_,rfl⟩;rw [hp]at c5 HP;have hib:(0:Int)<=(j:Int):=by omega
      have hwj:IntKind.i64.wrap (j:Int)=(j:Int):=YB _ (by omega);cases hbs2:Op.bytesLess p k with
      |true=>
       have HD3:Hid (chk none cs=chk (z33 cs (j+1+1)) (cs.drop (j+1+1))):=by
        have h:=HD2.out;rw [HP.out,yA (by simp [zB1,hbs2])]at h;exact h
       clear hp;go_wp2_with fail
       refine z06 (by kernel_rfl) (by kernel_rfl) ?_;apply Exists.intro;apply And.intro
       .repeat(first
         |(apply z0J rfl
           intro K hK;go_simp;refine hK _ ?_;clear hK K)
         |(apply z0D rfl
           .intro wg hwg _;have c5':=yN hwg c5;have e5':=yN hwg e5;have g2':=yN hwg g2;unfold z03;go_simp
            first
             |exact z00 _ _
           intro K hK;go_simp;refine hK _ ?_;clear hK K))
        refine z0f (fun wg hwg _=> ?_);go_wp2_with fail
        go_roundw
        case rel=>exact⟨j+1+1,by go_num,by omega,HD3,q5.trans (hwg.mono q5.size)⟩
        case measure=>simp [intOf];omega
       .apply And.intro
        .repeat(first|exact trivial|(refine⟨Stays.is _,?_⟩)|(refine⟨Stays.bs _,?_⟩)|(refine⟨Stays.pg _ _ _,?_⟩))
        .rfl
      |false=>
       have HE:Hid (z1I next cs=101):=by
        have h:=HD2.out;rw [HP.out,yB (by simp [zB1,hbs2])]at h;rw [Hid,HC.out,yB (by rw [h];decide),h]
       clear hp;go_wp2_with fail
       refine z06 (by kernel_rfl) (by kernel_rfl) ?_;apply Exists.intro;apply And.intro
       .repeat(first
         |(apply z0J rfl
           intro K hK;go_simp;refine hK _ ?_;clear hK K)
         |(apply z0D rfl
           .intro wg hwg _;have c5':=yN hwg c5;have e5':=yN hwg e5;have g2':=yN hwg g2;unfold z03;go_simp
            first
             |exact z00 _ _
           intro K hK;go_simp;refine hK _ ?_;clear hK K))
        refine z0f (fun wg hwg _=> ?_);go_wp2_with fail
        go_ret
        rw [HE.out];exact⟨rfl,q1.trans ((q5.trans (hwg.mono q5.size)).mono q1.size)⟩
       .apply And.intro
        .repeat(first|exact trivial|(refine⟨Stays.is _,?_⟩)|(refine⟨Stays.bs _,?_⟩)|(refine⟨Stays.pg _ _ _,?_⟩))
        .rfl
   .obtain rfl:i=cs.length:=by omega
    have hbx:=HB.out.later hbl;have HE:Hid (z1I next cs=if 2048<z2v next cs then 100 else 0):=by
     have h:=hck.out;rw [zJI]at h;rw [Hid,HC.out,yA (by rw [h];decide)]
    have g0:wr.cell? ⟨w.heap.size,0,none⟩=some (.bool leaf):=hbx.cell 0;have g1:wr.cell? ⟨w.heap.size,1,none⟩=some (.int .i64 next):=hbx.cell 1;have g2:wr.cell? ⟨w.heap.size,2,none⟩=some (.slice A cs.length c):=hbx.cell 2;have HRr:=zz (HR.out.up qr);clear hck HC;go_wp2_with fail
    refine(z3Q _ leaf next _ cs wr hn HM.out HRr.out).mono ?_;rintro e w6 ⟨rfl,hbl6⟩;generalize z2v next cs=N at*;by_cases hN:2048<N
    .have HE2:Hid (z1I next cs=100):=by rw [Hid,HE.out,yB hN]
     clear HE;go_wp2_with fail
     go_ret
     rw [HE2.out];exact⟨rfl,qr.trans (hbl6.mono qr.size)⟩
    .have HE2:Hid (z1I next cs=0):=by rw [Hid,HE.out,yA hN]
     clear HE;go_wp2_with fail
     go_ret
     rw [HE2.out];exact⟨rfl,qr.trans (hbl6.mono qr.size)⟩
theorem Co.nil(w:World)(B:Nat):Co w B (.slice none 0 0) []:=Ya w B _ 2
theorem Co.later{w w':World}{B:Nat}{v:Value}{cs:List Cel}(h:Co w B v cs)(hb:Below w.heap.size w w'):Co w' B v cs:=by
 obtain⟨h1,h2⟩:=h;refine⟨h1,?_⟩;rcases h2 with h2|⟨g,cap,cur,hv,hg,hh,r⟩
 .exact .inl h2
 .exact .inr ⟨g,cap,cur,hv,hg,(hb.block g (lt_of_block hh)).trans hh,r⟩
theorem z2a(S:Nat->Prop)(v0:Value)(cs:List Cel)(w:World)(hl:cs.length<=1000000)(hr:Cs S w v0 cs):
 Calls prog 174 #[v0] w fun e w'=>∃A c,e= .returned (.slice A cs.length c)/\Co w' w.heap.size (.slice A cs.length c) cs/\Below w.heap.size w w':=by
 have HR:=zz hr.lt;obtain⟨A,c,rfl,hlc,hcm,hA0,_⟩:=hr.at;clear hr;rcases A with _|ad
 .obtain rfl:c=0:=hA0 rfl;have hl0:cs.length=0:=by omega
  obtain rfl:cs= []:=yX hl0;have hnil:=Yv (P:=prog);go_enter func174,ntmps174
  go_wp2_with fail
  go_ret
  exact⟨none,0,rfl,Co.nil _ _,y7 _ _⟩
 .have hma:(w.alloc (.cells #[] 94)).ownsRow w.heap.size 94 2 (.slice (some ⟨w.heap.size,0,none⟩) 0 0) 0 []:=ZX w #[] 0 (y5 _) (by simp [maxLen]) (by simp);have HA:=zz (HR.out.up ((y7 _ _).alloc (y5 _) (.cells #[] 94)));have hnil:=Yv (P:=prog);go_enter func174,ntmps174
  go_wp2_with (at_builtin;refine z0A _ rfl (.tmp 5) (.tmp 6) elemCel rfl hma HA.out rfl rfl (z2b _) (by simp only [maxLen];omega) (by omega) (by simp) ?_;intro A1 k1 c1 w1 hown1 hg1 hat1)
  go_ret
  rw [Y4,yz]at hown1;obtain rfl:=z0h hown1;exact⟨A1,c1,rfl,hown1,z01 ((y7 _ _).alloc (y5 _) _) hma hg1 (by simp)⟩
theorem Blk.new1(w:World)(o:Obj)(t:TypeId)(cs:Array Value):Blk ((w.alloc o).alloc (.cells cs t)) (w.heap.size+1) t cs:=by
 have:=Blk.new (w.alloc o) t cs;simpa using this
theorem Blk.put3{w:World}{g:Nat}{t:TypeId}{a b c:Value}(h:Blk w g t #[a,b,c])(x y z:Value):
 Blk (((w.setCell ⟨g,0,none⟩ x).setCell ⟨g,1,none⟩ y).setCell ⟨g,2,none⟩ z) g t #[x,y,z]:=((h.put 0 x).put 1 y).put 2 z
theorem z0Y{B:Nat}{w0 w:World}{g:Nat}(h:Below B w0 w)(hg:B<=g)(x y z:Value):Below B w0 (((w.setCell ⟨g,0,none⟩ x).setCell ⟨g,1,none⟩ y).setCell ⟨g,2,none⟩ z):=
 ((h.setCell hg _).setCell hg _).setCell hg _
theorem Cs.tight{S:Nat->Prop}{w:World}{cs:List Cel}{A:Option Addr}{c:Nat}(h:Cs S w (.slice A cs.length c) cs)(hA:A=none->cs.length=0):Cs S w (.slice A cs.length cs.length) cs:=by
 obtain⟨h1,A',c',hv,h3,h4,h5,h6⟩:=h;injection hv with hA' _ hc
 subst hA' hc;exact⟨h1,_,cs.length,rfl,y5 _,yD h3 h4,hA,h6⟩
theorem z3m(S:Nat->Prop)(leaf:Bool)(next:Int)(vo v0:Value)(cs:List Cel)(w:World)(hr:Cs S w v0 cs):
 Calls prog 172 #[.agg #[.bool leaf,.int .i64 next,vo],v0] w fun e w'=>∃A c,e= .returned (.agg #[.bool leaf,.int .i64 next,.slice A cs.length c])/\Cs (fun b=>S b/\b<w.heap.size) w' (.slice A cs.length c) cs/\Below w.heap.size w w':=by
 have HR:=zz (Sl.lt hr (by omega));obtain⟨A,c,rfl,hlc,hcm,hA0,_⟩:=hr.at;have hA1:A=none->cs.length=0:=fun h=>by have:=hA0 h;omega
 have HT:=zz (Cs.tight HR.out hA1);clear hr;rcases A with _|ad
 .obtain rfl:cs= []:=yX (hA1 rfl);go_enter func172,ntmps172
  go_wp2_with fail
  exact bodyPost_ret (z0V rfl _ _ (w.heap.size+1) rfl (Blk.new1 _ _ _ _) z1Q) rfl ⟨none,0,rfl,Sl.nil,((y7 _ _).alloc (y5 _) _).alloc (by simp) _⟩
 .go_enter func172,ntmps172
  go_wp2_with fail
  have q2:Below w.heap.size w ((w.alloc (.cells #[.bool leaf,.int .i64 next,.slice (some ad) cs.length cs.length] 175)).alloc (.cells #[.bool leaf,.int .i64 next,.slice (some ad) cs.length cs.length] 175)):=((y7 _ _).alloc (y5 _) _).alloc (by simp) _;exact bodyPost_ret (z0V rfl _ _ (w.heap.size+1) rfl (Blk.new1 _ _ _ _) z1Q) rfl ⟨some ad,cs.length,rfl,Sl.below HT.out q2 (fun _ h=>h.2),q2⟩
structure HalfAt(cs:List Cel)(k:Nat):Prop where
 lo:1<=k
 hi:k+1<=cs.length
 less:∀j,1<=j->j<k->2*z07 (cs.take j)<z07 cs
 stop:k+1=cs.length∨z07 cs<=2*z07 (cs.take k)
theorem HalfAt.only{cs:List Cel}{k j:Nat}(h:HalfAt cs k)(h':HalfAt cs j):k=j:=by
 rcases Nat.lt_trichotomy k j with hl|rfl|hl
 .have h1:=h'.less k h.lo hl;have h2:=h.stop;have h3:=h'.hi;omega
 .rfl
 .have h1:=h.less j h'.lo hl;have h2:=h'.stop;have h3:=h.hi;omega
def PgIs(B:Nat)(w:World)(v:Value)(leaf:Bool)(next:Int)(cs:List Cel):Prop:=
 ∃A c,v= .agg #[.bool leaf,.int .i64 next,.slice A cs.length c]/\Cs (fun b=>B<=b/\b<w.heap.size) w (.slice A cs.length c) cs
theorem Blk.put33{w:World}{g1 g2:Nat}{t t':TypeId}{a b c a' b' c':Value}(h:Blk w g1 t #[a,b,c])(h':Blk w g2 t' #[a',b',c'])(hne:g1≠g2)(x y z u v r:Value):
 Blk ((((((w.setCell ⟨g1,0,none⟩ x).setCell ⟨g1,1,none⟩ y).setCell ⟨g1,2,none⟩ z).setCell ⟨g2,0,none⟩ u).setCell ⟨g2,1,none⟩ v).setCell ⟨g2,2,none⟩ r) g1 t #[x,y,z]/\
 Blk ((((((w.setCell ⟨g1,0,none⟩ x).setCell ⟨g1,1,none⟩ y).setCell ⟨g1,2,none⟩ z).setCell ⟨g2,0,none⟩ u).setCell ⟨g2,1,none⟩ v).setCell ⟨g2,2,none⟩ r) g2 t' #[u,v,r]:=
 ⟨(((h.put3 x y z).far (p:=⟨g2,0,none⟩) hne u).far (p:=⟨g2,1,none⟩) hne v).far (p:=⟨g2,2,none⟩) hne r,
  Blk.put3 (((h'.far (p:=⟨g1,0,none⟩) hne.symm x).far (p:=⟨g1,1,none⟩) hne.symm y).far (p:=⟨g1,2,none⟩) hne.symm z) u v r⟩
theorem Cs.put33{S:Nat->Prop}{w:World}{sl:Value}{cs:List Cel}{g1 g2 L B:Nat}(h:Cs S w sl cs)(hS:∀b,S b->L<=b/\b<w.heap.size)(h1:g1<L)(h2:g2<L)(hB:B<=L)(x y z u v r:Value):
 Cs (fun b=>B<=b/\b<((((((w.setCell ⟨g1,0,none⟩ x).setCell ⟨g1,1,none⟩ y).setCell ⟨g1,2,none⟩ z).setCell ⟨g2,0,none⟩ u).setCell ⟨g2,1,none⟩ v).setCell ⟨g2,2,none⟩ r).heap.size)
  ((((((w.setCell ⟨g1,0,none⟩ x).setCell ⟨g1,1,none⟩ y).setCell ⟨g1,2,none⟩ z).setCell ⟨g2,0,none⟩ u).setCell ⟨g2,1,none⟩ v).setCell ⟨g2,2,none⟩ r) sl cs:=by
 have n1:¬S g1:=fun e=>by have:=(hS _ e).1;omega
 have n2:¬S g2:=fun e=>by have:=(hS _ e).1;omega
 refine Sl.more ((((((Sl.setCell h (p:=⟨g1,0,none⟩) n1 x).setCell (p:=⟨g1,1,none⟩) n1 y).setCell (p:=⟨g1,2,none⟩) n1 z).setCell (p:=⟨g2,0,none⟩) n2 u).setCell (p:=⟨g2,1,none⟩) n2 v).setCell (p:=⟨g2,2,none⟩) n2 r) fun b hb=> ?_
 have:=hS b hb;exact⟨by omega,by simpa using this.2⟩
theorem z8Z(S:Nat->Prop)(leaf:Bool)(next:Int)(v0:Value)(cs:List Cel)(w:World)(hm:Mid cs)(hr:Cs S w v0 cs)(hs:2<=cs.length):
 Calls prog 180 #[.agg #[.bool leaf,.int .i64 next,v0]] w fun e w'=>∃k va vb,e= .returned (.tuple #[va,vb,.int .i64 0])/\HalfAt cs k/\PgIs w.heap.size w' va leaf next (cs.take k)/\PgIs w.heap.size w' vb leaf next (cs.drop k)/\Below w.heap.size w w':=by
 have HR:=zz hr.lt;have hlt:=hr.lt;obtain⟨A,c,rfl,hlc,hcm,hA0,hA⟩:=hlt.at;obtain⟨b,o,rfl,hbs,_⟩:=hA (by omega);have HM:=zz hm;have hml:=hm.1;have hN:z07 cs<=131092*1000000:=yD (z4l cs hm.2) (YT _ hm.1);have hb0:Blk (((w.alloc (.cells #[.bool leaf,.int .i64 next,.slice (some ⟨b,o,none⟩) cs.length c] 175)).alloc (.cells #[.bool false,.int .i64 0,.slice none 0 0] 175)).alloc (.cells #[.bool false,.int .i64 0,.slice none 0 0] 175)) w.heap.size 175 #[.bool leaf,.int .i64 next,.slice (some ⟨b,o,none⟩) cs.length c]:=((Blk.new _ _ _).alloc _).alloc _;have hb1:Blk (((w.alloc (.cells #[.bool leaf,.int .i64 next,.slice (some ⟨b,o,none⟩) cs.length c] 175)).alloc (.cells #[.bool false,.int .i64 0,.slice none 0 0] 175)).alloc (.cells #[.bool false,.int .i64 0,.slice none 0 0] 175)) (w.heap.size+1) 175 #[.bool false,.int .i64 0,.slice none 0 0]:=(Blk.new1 _ _ _ _).alloc _;have hb2:Blk (((w.alloc (.cells #[.bool leaf,.int .i64 next,.slice (some ⟨b,o,none⟩) cs.length c] 175)).alloc (.cells #[.bool false,.int .i64 0,.slice none 0 0] 175)).alloc (.cells #[.bool false,.int .i64 0,.slice none 0 0] 175)) (w.heap.size+1+1) 175 #[.bool false,.int .i64 0,.slice none 0 0]:=by
  have:=Blk.new1 (w.alloc (.cells #[.bool leaf,.int .i64 next,.slice (some ⟨b,o,none⟩) cs.length c] 175)) (.cells #[.bool false,.int .i64 0,.slice none 0 0] 175) 175 #[.bool false,.int .i64 0,.slice none 0 0];simpa using this
 have q0:Below w.heap.size w (((w.alloc (.cells #[.bool leaf,.int .i64 next,.slice (some ⟨b,o,none⟩) cs.length c] 175)).alloc (.cells #[.bool false,.int .i64 0,.slice none 0 0] 175)).alloc (.cells #[.bool false,.int .i64 0,.slice none 0 0] 175)):=(((y7 _ _).alloc (y5 _) _).alloc (by simp) _).alloc (by simp;omega) _;clear hA hr hlt hm;go_enter func180,ntmps180
 go_wp2_with fail
 generalize hW:(((w.alloc (.cells #[.bool leaf,.int .i64 next,.slice (some ⟨b,o,none⟩) cs.length c] 175)).alloc (.cells #[.bool false,.int .i64 0,.slice none 0 0] 175)).alloc (.cells #[.bool false,.int .i64 0,.slice none 0 0] 175))=W at*;clear hW;have HRW:=zz (HR.out.up q0);refine(z5e _ _ cs W HM.out HRW.out).mono ?_;rintro e w1 ⟨rfl,hbl1⟩;have HB0:=zz hb0;have HB1:=zz hb1;have HB2:=zz hb2;have hWs:=hb2.lt;clear hb0 hb1 hb2;obtain⟨N,hNe⟩:∃N,z07 cs=N:=⟨_,rfl⟩;have HN:=zz hNe;rw [hNe]at hN ⊢;clear hNe;go_wp2_with fail
 go_loopw [6] (fun kv wr=>∃k:Nat,kv= .int .i64 (k:Int)/\1<=k/\k+1<=cs.length/\Hid (∀j,1<=j->j<k->2*z07 (cs.take j)<z07 cs)/\Below W.heap.size W wr) (fun kv _=>cs.length-(intOf kv).toNat)
 case atStart=>exact⟨1,rfl,by omega,by omega,fun j h1 h2=>by omega,hbl1⟩
 case round=>
  obtain⟨k,rfl,hk1,hk2,hless,hbl⟩:=hrel;have hsz:=hbl.size;have hb0:=HB0.out.later hbl;have d2:wr.cell? ⟨w.heap.size,2,none⟩=some (.slice (some ⟨b,o,none⟩) cs.length c):=hb0.cell 2;have HRr:=zz (HRW.out.up hbl);have HPR:=zz (Cs.pre HRr.out (show k<=cs.length by omega));have hsub:IntKind.i64.wrap ((cs.length:Int)-1)=(cs.length:Int)-1:=YB _ (by omega);have HMk:Hid (Mid (cs.take k)):=⟨by rw [yC];omega,fun c hc=>HM.out.2 c (yY hc)⟩;have hNk:z07 (cs.take k)<=N:=by rw [<-HN.out];exact zCD
  by_cases hkl:k+2<=cs.length
  .have hck:k<=c:=by omega
   go_wp2_with fail
   refine(z5e _ _ (cs.take k) wr HMk.out HPR.out).mono ?_;rintro e w5 ⟨rfl,hbl5⟩;obtain⟨M,hMe⟩:∃M,z07 (cs.take k)=M:=⟨_,rfl⟩;have HME:=zz hMe;rw [hMe]at hNk ⊢;clear hMe;have hmul:IntKind.i64.wrap (2*(M:Int))=2*(M:Int):=YB _ (by omega);by_cases hlt:2*M<N
   .go_wp2_with fail
    go_roundw
    case rel=>
     refine⟨k+1,by go_num,by omega,by omega,fun j h1 h2=> ?_,hbl.trans (hbl5.mono hsz)⟩;rcases Y5 j k with h3|h3
     .exact hless.out j h1 h3
     .obtain rfl:j=k:=by omega
      rw [HME.out,HN.out];exact hlt
    case measure=>simp [intOf];omega
   .have HH:Hid (HalfAt cs k):=⟨hk1,hk2,hless.out,.inr (by rw [HME.out,HN.out];omega)⟩;go_wp2_with fail
    obtain⟨wf,hwf⟩:∃wf:World,wf=w5:=⟨_,rfl⟩;subst hwf;have hF:=hbl.trans (hbl5.mono hsz);clear hbl5 d2 hb0 HRr HPR HMk;have hb0f:=HB0.out.later hF;have d0f:wf.cell? ⟨w.heap.size,0,none⟩=some (.bool leaf):=hb0f.cell 0;have d1f:wf.cell? ⟨w.heap.size,1,none⟩=some (.int .i64 next):=hb0f.cell 1;have d2f:wf.cell? ⟨w.heap.size,2,none⟩=some (.slice (some ⟨b,o,none⟩) cs.length c):=hb0f.cell 2;have HRf:=zz (HRW.out.up hF);have hp:=Cs.pre HRf.out (show k<=cs.length by omega);have hcut:=Cs.cut HRf.out (show k<=cs.length by omega);rw [yA (by omega)]at hcut;obtain⟨la,hla⟩:∃la,cs.take k=la:=⟨_,rfl⟩;obtain⟨lb,hlb⟩:∃lb,cs.drop k=lb:=⟨_,rfl⟩;have hll:la.length<=1000000:=by rw [<-hla,yC];omega
    have hll2:lb.length<=1000000:=by rw [<-hlb,yI];omega
    rw [hla]at hp;rw [hlb]at hcut;have HLA:=zz hla;have HLB:=zz hlb;have HPf:=zz hp;have HCf:=zz hcut;have HB1f:=zz (HB1.out.later hF);have HB2f:=zz (HB2.out.later hF);have hkc:k<=c:=by omega
    have hszf:=hF.size;have hsp:IntKind.i64.wrap (k:Int)=(k:Int):=YB _ (by omega);have hne:¬c=k:=by omega
    have n1:¬w.heap.size=w.heap.size+1:=by omega
    have n2:¬w.heap.size+1=w.heap.size:=by omega
    have n3:¬w.heap.size=w.heap.size+1+1:=by omega
    have n4:¬w.heap.size+1+1=w.heap.size:=by omega
    have n5:¬w.heap.size+1=w.heap.size+1+1:=by omega
    have n6:¬w.heap.size+1+1=w.heap.size+1:=by omega
    have hk0:(0:Int)<=(k:Int):=by omega
    have hki:(k:Int)<=(cs.length:Int):=by omega
    have hkci:(k:Int)<=(c:Int):=by omega
    have hci:(cs.length:Int)<=(c:Int):=by omega
    clear hla hlb hp hcut;go_region_held3 (fun w'=>w'.cell? ⟨w.heap.size,0,none⟩=some (.bool leaf)/\w'.cell? ⟨w.heap.size,1,none⟩=some (.int .i64 next)/\w'.cell? ⟨w.heap.size,2,none⟩=some (.slice (some ⟨b,o,none⟩) cs.length c))
     (first
       |go_keep
       |(go_split_ands
         refine⟨?_,?_,?_⟩<;>(apply yN hbz;assumption)))
     ((first
       |(go_at_call_of 174 (Value.slice (some ⟨b,o,none⟩) k c);refine(z2a (fun b=>b<wf.heap.size) _ la _ (by omega) (by exact HPf.out)).mono ?_;rintro e w6 ⟨A6,c6,rfl,hco6,hbz⟩;have hq6:Below wf.heap.size wf w6:=⟨hbz.os,hbz.tape,hbz.output,hbz.size,hbz.block⟩;have hL6:∀b,(wf.heap.size<=b/\b<w6.heap.size)->wf.heap.size<=b/\b<w6.heap.size:=fun b h=>h)
       |(go_at_call_of 174 (Value.slice (some ⟨b,o+k*2,none⟩) (cs.length-k) (c-k));refine(z2a (fun b=>b<wf.heap.size) _ lb _ (by omega) (by exact HCf.out.later hq7)).mono ?_;rintro e w8 ⟨A8,c8,rfl,hco8,hbz⟩;have hz8:Below w7.heap.size w7 w8:=⟨hbz.os,hbz.tape,hbz.output,hbz.size,hbz.block⟩;have hq8:Below wf.heap.size wf w8:=hq7.trans (hz8.mono hq7.size))
       |(go_at_call 172;refine(z3m (fun b=>w7.heap.size<=b/\b<w8.heap.size) leaf next _ _ lb _ (by exact hco8.cs)).mono ?_;rintro e w9 ⟨A9,c9,rfl,hcs9,hbz⟩;have hz9:Below w8.heap.size w8 w9:=⟨hbz.os,hbz.tape,hbz.output,hbz.size,hbz.block⟩;have hq9:Below wf.heap.size wf w9:=hq8.trans (hz9.mono hq8.size);have k1:=HB1f.out.later hq9;have k2:=HB2f.out.later hq9;have k10:w9.cell? ⟨w.heap.size+1,0,none⟩=some (.bool false):=k1.cell 0;have k11:w9.cell? ⟨w.heap.size+1,1,none⟩=some (.int .i64 0):=k1.cell 1;have k12:w9.cell? ⟨w.heap.size+1,2,none⟩=some (.slice none 0 0):=k1.cell 2;have k20:w9.cell? ⟨w.heap.size+1+1,0,none⟩=some (.bool false):=k2.cell 0;have k21:w9.cell? ⟨w.heap.size+1+1,1,none⟩=some (.int .i64 0):=k2.cell 1;have k22:w9.cell? ⟨w.heap.size+1+1,2,none⟩=some (.slice none 0 0):=k2.cell 2;have j10:=k1.free 0;have j11:=k1.free 1;have j12:=k1.free 2;have j20:=k2.free 0;have j21:=k2.free 1;have j22:=k2.free 2)
       |(go_at_call 172;refine(z3m (fun b=>wf.heap.size<=b/\b<w6.heap.size) leaf next _ _ la _ (by exact hco6.cs)).mono ?_;rintro e w7 ⟨A7,c7,rfl,hcs7,hbz⟩;have hz7:Below w6.heap.size w6 w7:=⟨hbz.os,hbz.tape,hbz.output,hbz.size,hbz.block⟩;have hq7:Below wf.heap.size wf w7:=hq6.trans (hz7.mono hq6.size))))
    go_wp2_with fail
    have hp33:=Blk.put33 k1 k2 n5 (.bool leaf) (.int .i64 next) (.slice A7 la.length c7) (.bool leaf) (.int .i64 next) (.slice A9 lb.length c9);have hWf:w.heap.size+1+1<wf.heap.size:=yE hWs hszf;have ca:=Cs.put33 (g1:=w.heap.size+1) (g2:=w.heap.size+1+1) (L:=wf.heap.size) (B:=w.heap.size) (Sl.below hcs7 ((hz8.trans (hz9.mono hz8.size))) (fun b h=>yE h.2 hz7.size)) (fun b h=>⟨h.1.1,yE h.2 (yD hz7.size (yD hz8.size hz9.size))⟩) (by omega) hWf (by omega) (.bool leaf) (.int .i64 next) (.slice A7 la.length c7) (.bool leaf) (.int .i64 next) (.slice A9 lb.length c9);have cb:=Cs.put33 (g1:=w.heap.size+1) (g2:=w.heap.size+1+1) (L:=wf.heap.size) (B:=w.heap.size) hcs9 (fun b h=>⟨yD (yD hq6.size hz7.size) h.1.1,yE h.2 hz9.size⟩) (by omega) hWf (by omega) (.bool leaf) (.int .i64 next) (.slice A7 la.length c7) (.bool leaf) (.int .i64 next) (.slice A9 lb.length c9);have qf:=z0Y (z0Y (g:=w.heap.size+1) (q0.trans ((hF.trans (hq9.mono hszf)).mono q0.size)) (by omega) (.bool leaf) (.int .i64 next) (.slice A7 la.length c7)) (g:=w.heap.size+1+1) (by omega) (.bool leaf) (.int .i64 next) (.slice A9 lb.length c9);exact bodyPost_ret (z47 rfl _ _ (w.heap.size+1) (w.heap.size+1+1) rfl rfl hp33.1 hp33.2 z1Q z1Q) rfl ⟨k,_,_,rfl,HH.out,by rw [HLA.out];exact⟨A7,c7,rfl,ca⟩,by rw [HLB.out];exact⟨A9,c9,rfl,cb⟩,qf⟩
  .have HH:Hid (HalfAt cs k):=⟨hk1,hk2,hless.out,.inl (by omega)⟩;go_wp2_with fail
   obtain⟨wf,hwf⟩:∃wf:World,wf=wr:=⟨_,rfl⟩;subst hwf;have hF:=hbl;clear d2 hb0 HRr HPR HMk;have hb0f:=HB0.out.later hF;have d0f:wf.cell? ⟨w.heap.size,0,none⟩=some (.bool leaf):=hb0f.cell 0;have d1f:wf.cell? ⟨w.heap.size,1,none⟩=some (.int .i64 next):=hb0f.cell 1;have d2f:wf.cell? ⟨w.heap.size,2,none⟩=some (.slice (some ⟨b,o,none⟩) cs.length c):=hb0f.cell 2;have HRf:=zz (HRW.out.up hF);have hp:=Cs.pre HRf.out (show k<=cs.length by omega);have hcut:=Cs.cut HRf.out (show k<=cs.length by omega);rw [yA (by omega)]at hcut;obtain⟨la,hla⟩:∃la,cs.take k=la:=⟨_,rfl⟩;obtain⟨lb,hlb⟩:∃lb,cs.drop k=lb:=⟨_,rfl⟩;have hll:la.length<=1000000:=by rw [<-hla,yC];omega
   have hll2:lb.length<=1000000:=by rw [<-hlb,yI];omega
   rw [hla]at hp;rw [hlb]at hcut;have HLA:=zz hla;have HLB:=zz hlb;have HPf:=zz hp;have HCf:=zz hcut;have HB1f:=zz (HB1.out.later hF);have HB2f:=zz (HB2.out.later hF);have hkc:k<=c:=by omega
   have hszf:=hF.size;have hsp:IntKind.i64.wrap (k:Int)=(k:Int):=YB _ (by omega);have hne:¬c=k:=by omega
   have n1:¬w.heap.size=w.heap.size+1:=by omega
   have n2:¬w.heap.size+1=w.heap.size:=by omega
   have n3:¬w.heap.size=w.heap.size+1+1:=by omega
   have n4:¬w.heap.size+1+1=w.heap.size:=by omega
   have n5:¬w.heap.size+1=w.heap.size+1+1:=by omega
   have n6:¬w.heap.size+1+1=w.heap.size+1:=by omega
   have hk0:(0:Int)<=(k:Int):=by omega
   have hki:(k:Int)<=(cs.length:Int):=by omega
   have hkci:(k:Int)<=(c:Int):=by omega
   have hci:(cs.length:Int)<=(c:Int):=by omega
   clear hla hlb hp hcut;go_region_held3 (fun w'=>w'.cell? ⟨w.heap.size,0,none⟩=some (.bool leaf)/\w'.cell? ⟨w.heap.size,1,none⟩=some (.int .i64 next)/\w'.cell? ⟨w.heap.size,2,none⟩=some (.slice (some ⟨b,o,none⟩) cs.length c))
    (first
      |go_keep
      |(go_split_ands
        refine⟨?_,?_,?_⟩<;>(apply yN hbz;assumption)))
    ((first
      |(go_at_call_of 174 (Value.slice (some ⟨b,o,none⟩) k c);refine(z2a (fun b=>b<wf.heap.size) _ la _ (by omega) (by exact HPf.out)).mono ?_;rintro e w6 ⟨A6,c6,rfl,hco6,hbz⟩;have hq6:Below wf.heap.size wf w6:=⟨hbz.os,hbz.tape,hbz.output,hbz.size,hbz.block⟩;have hL6:∀b,(wf.heap.size<=b/\b<w6.heap.size)->wf.heap.size<=b/\b<w6.heap.size:=fun b h=>h)
      |(go_at_call_of 174 (Value.slice (some ⟨b,o+k*2,none⟩) (cs.length-k) (c-k));refine(z2a (fun b=>b<wf.heap.size) _ lb _ (by omega) (by exact HCf.out.later hq7)).mono ?_;rintro e w8 ⟨A8,c8,rfl,hco8,hbz⟩;have hz8:Below w7.heap.size w7 w8:=⟨hbz.os,hbz.tape,hbz.output,hbz.size,hbz.block⟩;have hq8:Below wf.heap.size wf w8:=hq7.trans (hz8.mono hq7.size))
      |(go_at_call 172;refine(z3m (fun b=>w7.heap.size<=b/\b<w8.heap.size) leaf next _ _ lb _ (by exact hco8.cs)).mono ?_;rintro e w9 ⟨A9,c9,rfl,hcs9,hbz⟩;have hz9:Below w8.heap.size w8 w9:=⟨hbz.os,hbz.tape,hbz.output,hbz.size,hbz.block⟩;have hq9:Below wf.heap.size wf w9:=hq8.trans (hz9.mono hq8.size);have k1:=HB1f.out.later hq9;have k2:=HB2f.out.later hq9;have k10:w9.cell? ⟨w.heap.size+1,0,none⟩=some (.bool false):=k1.cell 0;have k11:w9.cell? ⟨w.heap.size+1,1,none⟩=some (.int .i64 0):=k1.cell 1;have k12:w9.cell? ⟨w.heap.size+1,2,none⟩=some (.slice none 0 0):=k1.cell 2;have k20:w9.cell? ⟨w.heap.size+1+1,0,none⟩=some (.bool false):=k2.cell 0;have k21:w9.cell? ⟨w.heap.size+1+1,1,none⟩=some (.int .i64 0):=k2.cell 1;have k22:w9.cell? ⟨w.heap.size+1+1,2,none⟩=some (.slice none 0 0):=k2.cell 2;have j10:=k1.free 0;have j11:=k1.free 1;have j12:=k1.free 2;have j20:=k2.free 0;have j21:=k2.free 1;have j22:=k2.free 2)
      |(go_at_call 172;refine(z3m (fun b=>wf.heap.size<=b/\b<w6.heap.size) leaf next _ _ la _ (by exact hco6.cs)).mono ?_;rintro e w7 ⟨A7,c7,rfl,hcs7,hbz⟩;have hz7:Below w6.heap.size w6 w7:=⟨hbz.os,hbz.tape,hbz.output,hbz.size,hbz.block⟩;have hq7:Below wf.heap.size wf w7:=hq6.trans (hz7.mono hq6.size))))
   go_wp2_with fail
   have hp33:=Blk.put33 k1 k2 n5 (.bool leaf) (.int .i64 next) (.slice A7 la.length c7) (.bool leaf) (.int .i64 next) (.slice A9 lb.length c9);have hWf:w.heap.size+1+1<wf.heap.size:=yE hWs hszf;have ca:=Cs.put33 (g1:=w.heap.size+1) (g2:=w.heap.size+1+1) (L:=wf.heap.size) (B:=w.heap.size) (Sl.below hcs7 ((hz8.trans (hz9.mono hz8.size))) (fun b h=>yE h.2 hz7.size)) (fun b h=>⟨h.1.1,yE h.2 (yD hz7.size (yD hz8.size hz9.size))⟩) (by omega) hWf (by omega) (.bool leaf) (.int .i64 next) (.slice A7 la.length c7) (.bool leaf) (.int .i64 next) (.slice A9 lb.length c9);have cb:=Cs.put33 (g1:=w.heap.size+1) (g2:=w.heap.size+1+1) (L:=wf.heap.size) (B:=w.heap.size) hcs9 (fun b h=>⟨yD (yD hq6.size hz7.size) h.1.1,yE h.2 hz9.size⟩) (by omega) hWf (by omega) (.bool leaf) (.int .i64 next) (.slice A7 la.length c7) (.bool leaf) (.int .i64 next) (.slice A9 lb.length c9);have qf:=z0Y (z0Y (g:=w.heap.size+1) (q0.trans ((hF.trans (hq9.mono hszf)).mono q0.size)) (by omega) (.bool leaf) (.int .i64 next) (.slice A7 la.length c7)) (g:=w.heap.size+1+1) (by omega) (.bool leaf) (.int .i64 next) (.slice A9 lb.length c9);exact bodyPost_ret (z47 rfl _ _ (w.heap.size+1) (w.heap.size+1+1) rfl rfl hp33.1 hp33.2 z1Q z1Q) rfl ⟨k,_,_,rfl,HH.out,by rw [HLA.out];exact⟨A7,c7,rfl,ca⟩,by rw [HLB.out];exact⟨A9,c9,rfl,cb⟩,qf⟩
theorem zFi(n:Nat)(w:World)(hn:n<=2000000):
 Calls prog 201 #[.slice none 0 0,.int .i64 (n:Int)] w fun e w'=>∃A c,e= .returned (.slice A 0 c)/\Co w' w.heap.size (.slice A 0 c) []/\Below w.heap.size w w':=by
 rcases Y3 n with rfl|h0
 .go_enter func201,ntmps201
  go_wp2_with fail
  go_ret
  exact⟨none,0,rfl,Co.nil _ _,y7 _ _⟩
 .obtain⟨i0,hi,hz,hsz,hby⟩:=elemCel.info;have h:=fun w=>Lib.run_append_nil_zeros (P:=prog) w 53 3 53 94 i0 (.agg #[.string ⟨#[]⟩,.string ⟨#[]⟩]) .i64 .i64 underlying53 underlying3 hi hz n h0 (by omega) (by omega) (by rw [hby];omega)
  have hcap:=grownCap_ge w n 0 94;have hcap2:=grownCap_le_maxLen w n 0 94 (by simp only [maxLen];omega);have hw1:IntKind.i64.wrap (n:Int)=(n:Int):=YB _ (by omega);go_enter func201,ntmps201
  go_wp2_with (at_builtin;refine Lib.wpList_append_run _ rfl (.tmp 20) (.tmp 21) _ _ rfl _ _ rfl rfl _ _ (h _) ?_)
  go_ret
  refine⟨_,_,rfl,?_,((y7 _ _).alloc (y5 _) _).drew⟩;refine ZX w _ _ (y5 _) hcap2 ?_;simp only [Builtin.zeroCells,Array.size_append,Array.size_map,Array.size_range];show n*2+(grownCap w n 0 94-n)*2=grownCap w n 0 94*2;omega
theorem z7F(gb:Nat)(v1 v2:Value)(us vs:List Cel)(w:World)(hu:us.length<=1000000)(hv:vs.length<=1000000)(hb:Blk w gb 53 #[v1,v2])
 (h1:Cs (fun b=>b<w.heap.size) w v1 us) (h2:Cs (fun b=>b<w.heap.size) w v2 vs):
 Calls prog 198 #[.slice (some ⟨gb,0,none⟩) 2 2] w fun e w'=>∃A c,e= .returned (.slice A (us++vs).length c)/\Co w' w.heap.size (.slice A (us++vs).length c) (us++vs)/\Below w.heap.size w w':=by
 have H1:=zz h1;have H2:=zz h2;have HB:=zz hb;obtain⟨A,c,rfl,_⟩:=h1.at;obtain⟨A',c',rfl,_⟩:=h2.at;have c0:w.cell? ⟨gb,0,none⟩=some (.slice A us.length c):=hb.cell 0;have c1:w.cell? ⟨gb,1,none⟩=some (.slice A' vs.length c'):=hb.cell 1;clear h1 h2 hb;go_enter func198,ntmps198
 go_wp2_with fail
 go_loop [3,11] (fun sv iv=>(iv= .int .i64 0/\sv= .int .i64 0)∨(iv= .int .i64 1/\sv= .int .i64 (us.length:Int))∨(iv= .int .i64 2/\sv= .int .i64 ((us.length:Int)+(vs.length:Int)))) (fun _ iv=>2-(intOf iv).toNat)
 case atStart=>exact .inl ⟨rfl,rfl⟩
 case round=>
  rcases hrel with⟨rfl,rfl⟩|⟨rfl,rfl⟩|⟨rfl,rfl⟩
  .go_wp2_with fail
   go_round
   case rel=>exact .inr (.inl ⟨by go_num,by go_num⟩)
   case measure=>simp [intOf]
  .go_wp2_with fail
   go_round
   case rel=>exact .inr (.inr ⟨by go_num,by go_num⟩)
   case measure=>simp [intOf]
  .go_wp2_with fail
   have hgr:=zFi (us.length+vs.length) w (by omega);rw [Int.natCast_add]at hgr;refine hgr.mono ?_;rintro e w1 ⟨A6,c6,rfl,hco6,hbl1⟩;have HCO:=zz hco6;clear hgr hco6;go_wp2_with fail
   obtain⟨wo,hwo⟩:∃wo:World,wo=w1:=⟨_,rfl⟩;subst hwo;go_loopw [6,27] (fun ov iv wr=>∃ (A9:Option Addr) (c9:Nat) (l:List Cel),ov= .slice A9 l.length c9/\Co wr w.heap.size (.slice A9 l.length c9) l/\Below w.heap.size w wr/\((iv= .int .i64 0/\l= [])∨(iv= .int .i64 1/\l=us)∨(iv= .int .i64 2/\l=us++vs))) (fun _ iv _=>2-(intOf iv).toNat)
   case atStart=>exact⟨A6,c6,[],rfl,HCO.out,hbl1,.inl ⟨rfl,rfl⟩⟩
   case round=>
    obtain⟨A9,c9,l,rfl,hco,hbl,hcase⟩:=hrel;have HC9:=zz hco;have g0:=yN hbl c0;have g1:=yN hbl c1;have K1:=zz (H1.out.later hbl);have K2:=zz (H2.out.later hbl);clear hco;have hsz:=hbl.size;rcases hcase with⟨rfl,rfl⟩|⟨rfl,rfl⟩|⟨rfl,rfl⟩
    .go_wp2_with (at_builtin;refine z0A _ rfl (.tmp 31) (.tmp 32) elemCel rfl HC9.out K1.out rfl rfl (z2b _) (by simp only [maxLen,yW];omega) (by simp only [yW];omega) hsz ?_;intro A3 k3 c3 w3 hown3 hg3 hat3)
     rw [show([]:List Cel).length+us.length=us.length by simp,show ccs []++ccs us=ccs us from rfl]at hown3;obtain rfl:=z0h hown3;go_roundw
     case rel=>exact⟨A3,c3,us,rfl,hown3,hbl.grown hg3 hsz (fun k hk=>(World.ownsRow.lt HC9.out k hk).1),.inr (.inl ⟨by go_num,rfl⟩)⟩
     case measure=>simp [intOf]
    .go_wp2_with (at_builtin;refine z0A _ rfl (.tmp 31) (.tmp 32) elemCel rfl HC9.out K2.out rfl rfl (z2b _) (by simp only [maxLen];omega) (by omega) hsz ?_;intro A3 k3 c3 w3 hown3 hg3 hat3)
     rw [<-z19,<-y6]at hown3;obtain rfl:=z0h hown3;go_roundw
     case rel=>exact⟨A3,c3,l++vs,rfl,hown3,hbl.grown hg3 hsz (fun k hk=>(World.ownsRow.lt HC9.out k hk).1),.inr (.inr ⟨by go_num,rfl⟩)⟩
     case measure=>simp [intOf]
    .go_wp2_with fail
     go_ret
     exact⟨A9,c9,rfl,HC9.out,hbl⟩
theorem Cs.put3{S:Nat->Prop}{w:World}{sl:Value}{cs:List Cel}{g1 L B:Nat}(h:Cs S w sl cs)(hS:∀b,S b->L<=b/\b<w.heap.size)(h1:g1<L)(hB:B<=L)(x y z:Value):
 Cs (fun b=>B<=b/\b<(((w.setCell ⟨g1,0,none⟩ x).setCell ⟨g1,1,none⟩ y).setCell ⟨g1,2,none⟩ z).heap.size)
  (((w.setCell ⟨g1,0,none⟩ x).setCell ⟨g1,1,none⟩ y).setCell ⟨g1,2,none⟩ z) sl cs:=by
 have n1:¬S g1:=fun e=>by have:=(hS _ e).1;omega
 refine Sl.more (((Sl.setCell h (p:=⟨g1,0,none⟩) n1 x).setCell (p:=⟨g1,1,none⟩) n1 y).setCell (p:=⟨g1,2,none⟩) n1 z) fun b hb=> ?_
 have:=hS b hb;exact⟨by omega,by simpa using this.2⟩
theorem zDn{w:World}{B B':Nat}{v:Value}{cs:List Cel}(h:Co w B v cs)(hB:B'<=B):Co w B' v cs:=by
 obtain⟨h1,h2⟩:=h;refine⟨h1,?_⟩;rcases h2 with h2|⟨g,cap,cur,hv,hg,r⟩
 .exact .inl h2
 .exact .inr ⟨g,cap,cur,hv,yD hB hg,r⟩
theorem zFj(S S':Nat->Prop)(l1 l2:Bool)(n1 n2:Int)(va vb:Value)(us vs:List Cel)(w:World)(hu:us.length<=1000000)(hv:vs.length<=1000000)(ha:Cs S w va us)(hb:Cs S' w vb vs):
 Calls prog 190 #[.agg #[.bool l1,.int .i64 n1,va],.agg #[.bool l2,.int .i64 n2,vb]] w fun e w'=>∃v,e= .returned v/\PgIs w.heap.size w' v l1 n2 (us++vs)/\Below w.heap.size w w':=by
 have HA:=zz ha.lt;have HB:=zz hb.lt;obtain⟨A,c,rfl,_⟩:=ha.at;obtain⟨B,d,rfl,_⟩:=hb.at;clear ha hb;have b1:Blk (((w.alloc (.cells #[.bool l1,.int .i64 n2,.slice A us.length c] 175)).alloc (.cells #[.bool l2,.int .i64 n2,.slice B vs.length d] 175)).alloc (.cells #[.bool false,.int .i64 0,.slice none 0 0] 175)) w.heap.size 175 #[.bool l1,.int .i64 n2,.slice A us.length c]:=((Blk.new _ _ _).alloc _).alloc _;have b2:Blk (((w.alloc (.cells #[.bool l1,.int .i64 n2,.slice A us.length c] 175)).alloc (.cells #[.bool l2,.int .i64 n2,.slice B vs.length d] 175)).alloc (.cells #[.bool false,.int .i64 0,.slice none 0 0] 175)) (w.heap.size+1) 175 #[.bool l2,.int .i64 n2,.slice B vs.length d]:=(Blk.new1 _ _ _ _).alloc _;have b3:Blk (((w.alloc (.cells #[.bool l1,.int .i64 n2,.slice A us.length c] 175)).alloc (.cells #[.bool l2,.int .i64 n2,.slice B vs.length d] 175)).alloc (.cells #[.bool false,.int .i64 0,.slice none 0 0] 175)) (w.heap.size+1+1) 175 #[.bool false,.int .i64 0,.slice none 0 0]:=by
  have:=Blk.new1 (w.alloc (.cells #[.bool l1,.int .i64 n2,.slice A us.length c] 175)) (.cells #[.bool l2,.int .i64 n2,.slice B vs.length d] 175) 175 #[.bool false,.int .i64 0,.slice none 0 0];simpa using this
 have q0:Below w.heap.size w (((w.alloc (.cells #[.bool l1,.int .i64 n2,.slice A us.length c] 175)).alloc (.cells #[.bool l2,.int .i64 n2,.slice B vs.length d] 175)).alloc (.cells #[.bool false,.int .i64 0,.slice none 0 0] 175)):=(((y7 _ _).alloc (y5 _) _).alloc (by simp) _).alloc (by simp;omega) _;go_enter func190,ntmps190
 go_wp2_with fail
 generalize hW:(((w.alloc (.cells #[.bool l1,.int .i64 n2,.slice A us.length c] 175)).alloc (.cells #[.bool l2,.int .i64 n2,.slice B vs.length d] 175)).alloc (.cells #[.bool false,.int .i64 0,.slice none 0 0] 175))=W at*;clear hW;have d0:W.cell? ⟨w.heap.size,0,none⟩=some (.bool l1):=b1.cell 0;have d1:W.cell? ⟨w.heap.size,1,none⟩=some (.int .i64 n2):=b1.cell 1;have d2:W.cell? ⟨w.heap.size,2,none⟩=some (.slice A us.length c):=b1.cell 2;have d3:W.cell? ⟨w.heap.size+1,2,none⟩=some (.slice B vs.length d):=b2.cell 2;have hWs:=b3.lt;have HB3:=zz b3;have q1:Below W.heap.size W (W.alloc (.cells #[.slice A us.length c,.slice B vs.length d] 53)):=(y7 _ _).alloc (y5 _) _;have HC:=zz (z7F W.heap.size (.slice A us.length c) (.slice B vs.length d) us vs (W.alloc (.cells #[.slice A us.length c,.slice B vs.length d] 53)) hu hv (Blk.new _ _ _) ((HA.out.up q0).up q1) ((HB.out.up q0).up q1));have HCd:=zz (z7F W.heap.size (.slice A us.length c) (.slice B vs.length d) us vs (W.alloc (.cells #[.slice A us.length c,.slice B vs.length d] 53)).drew hu hv (Blk.new _ _ _) ((HA.out.up q0).up q1.drew) ((HB.out.up q0).up q1.drew));obtain⟨cs,hcs⟩:∃cs,us++vs=cs:=⟨_,rfl⟩;have HCS:=zz hcs;rw [hcs]at HC HCd;clear hcs b1 b2 b3;have n1':¬w.heap.size=w.heap.size+1+1:=by omega
 have n2':¬w.heap.size+1+1=w.heap.size:=by omega
 have n5:¬w.heap.size+1=w.heap.size+1+1:=by omega
 have n6:¬w.heap.size+1+1=w.heap.size+1:=by omega
 have l0:¬w.heap.size=W.heap.size:=by omega
 have l1':¬w.heap.size+1=W.heap.size:=by omega
 go_region_held3 (fun w'=>w'.cell? ⟨w.heap.size,0,none⟩=some (.bool l1)/\w'.cell? ⟨w.heap.size,1,none⟩=some (.int .i64 n2)/\w'.cell? ⟨w.heap.size,2,none⟩=some (.slice A us.length c)/\w'.cell? ⟨w.heap.size+1,2,none⟩=some (.slice B vs.length d))
  (first
    |go_keep
    |(go_split_ands
      refine⟨?_,?_,?_,?_⟩<;>(apply yN hbz;assumption))
    |(go_split_ands
      refine⟨?_,?_,?_,?_⟩<;>(rw [World.cell?_alloc_lt _ _ _ (by simp;omega)];assumption)))
  ((first
    |(go_at_call 198;(first|refine HC.out.mono ?_|refine HCd.out.mono ?_);rintro e w6 ⟨A6,c6,rfl,hco6,hbz⟩;have hz6:Below (W.alloc (.cells #[.slice A us.length c,.slice B vs.length d] 53)).heap.size (W.alloc (.cells #[.slice A us.length c,.slice B vs.length d] 53)) w6:=⟨hbz.os,hbz.tape,hbz.output,hbz.size,hbz.block⟩;have hq6:=q1.trans (hz6.mono q1.size);have hco6':Co w6 W.heap.size (.slice A6 cs.length c6) cs:=zDn hco6 (by simp))
    |(go_at_call 172;refine(z3m (fun b=>W.heap.size<=b/\b<w6.heap.size) l1 n2 _ _ cs _ (by exact hco6'.cs)).mono ?_;rintro e w7 ⟨A7,c7,rfl,hcs7,hbz⟩;have hz7:Below w6.heap.size w6 w7:=⟨hbz.os,hbz.tape,hbz.output,hbz.size,hbz.block⟩;have hq7:Below W.heap.size W w7:=hq6.trans (hz7.mono hq6.size);have k2:=HB3.out.later hq7;have k20:w7.cell? ⟨w.heap.size+1+1,0,none⟩=some (.bool false):=k2.cell 0;have k21:w7.cell? ⟨w.heap.size+1+1,1,none⟩=some (.int .i64 0):=k2.cell 1;have k22:w7.cell? ⟨w.heap.size+1+1,2,none⟩=some (.slice none 0 0):=k2.cell 2;have j20:=k2.free 0;have j21:=k2.free 1;have j22:=k2.free 2)))
 all_goals
  go_wp2_with fail
  exact bodyPost_ret (z0V rfl _ _ (w.heap.size+1+1) rfl (k2.put3 _ _ _) z1Q) rfl ⟨_,rfl,by rw [HCS.out];exact⟨A7,c7,rfl,Cs.put3 (L:=W.heap.size) hcs7 (fun b h=>⟨h.1.1,yE h.2 hz7.size⟩) hWs (by omega) _ _ _⟩,z0Y (q0.trans (hq7.mono q0.size)) (by omega) _ _ _⟩
theorem z7L(f:FuncId)(cb:Array Value)(n K:Nat)(w:World)(hn:n<=1000000)(hK:K<=n)(eg:∀args w,(callFunc f args).run prog w= .ok (.enter f args) w)
 (hf:∀i m,i<n->Calls prog f (#[.int .i64 (i:Int)]++cb) (w.drewN m) fun e w'=>e= .returned (.bool (decide (K<=i)))/\∃m',w'=w.drewN m'):
 Calls prog 129 #[.int .i64 (n:Int),.func (Fn.func f) #[] cb] w fun e w'=>e= .returned (.int .i64 (K:Int))/\∃m,w'=w.drewN m:=by
 have HF:=zz hf;clear hf;go_enter func129,ntmps129
 go_wp2_with fail
 go_loopw [5,6] (fun lv hv wr=>∃lo hi m:Nat,lv= .int .i64 (lo:Int)/\hv= .int .i64 (hi:Int)/\lo<=K/\K<=hi/\hi<=n/\wr=w.drewN m) (fun lv hv _=>(intOf hv).toNat-(intOf lv).toNat)
 case atStart=>exact⟨0,n,0,rfl,rfl,by omega,hK,by omega,rfl⟩
 case round=>
  obtain⟨lo,hi,m,rfl,rfl,h1,h2,h3,rfl⟩:=hrel;by_cases hlt:lo<hi
  .have hc:=HF.out ((lo+hi) / 2) m (by omega);have hd:(((lo+hi) / 2:Nat):Int)=((lo:Int)+(hi:Int)) / 2:=by omega
   rw [hd]at hc;have HC:=zz hc;have hw1:IntKind.i64.wrap ((lo:Int)+(hi:Int))=(lo:Int)+(hi:Int):=YB _ (by omega);have hw2:IntKind.u64.wrap ((lo:Int)+(hi:Int))=(lo:Int)+(hi:Int):=z1a (by omega) (by unfold U64;omega);have hw3:IntKind.i64.wrap (((lo:Int)+(hi:Int)) / 2)=((lo:Int)+(hi:Int)) / 2:=YB _ (by omega);clear hc hd;go_wp2_with fail
   refine HC.out.mono ?_;rintro e w1 ⟨rfl,m',rfl⟩;by_cases hKh:K<=(lo+hi) / 2
   .rw [yq hKh];go_wp2_with fail
    go_roundw
    case rel=>exact⟨lo,(lo+hi) / 2,_,rfl,by go_num,by omega,hKh,by omega,rfl⟩
    case measure=>simp [intOf];omega
   .rw [yZ hKh];have hw4:IntKind.i64.wrap (((lo:Int)+(hi:Int)) / 2+1)=((lo:Int)+(hi:Int)) / 2+1:=YB _ (by omega);go_wp2_with fail
    go_roundw
    case rel=>exact⟨(lo+hi) / 2+1,hi,_,by go_num,rfl,by omega,by omega,by omega,rfl⟩
    case measure=>simp [intOf];omega
  .obtain rfl:lo=hi:=by omega
   obtain rfl:lo=K:=by omega
   go_wp2_with fail
   go_ret
   exact⟨rfl,m,rfl⟩
end
section
open Go Tryz
theorem z4I:∀a b c:List UInt8,z1P a b<0->z1P b c<0->z1P a c<0
 | [],[],c,h,_=>by simp [z1P]at h
 | [],b::bs,[],_,h=>by simp [z1P]at h
 | [],b::bs,c::cs,_,_=>by simp [z1P]
 |a::as',[],c,h,_=>by simp [z1P]at h
 |a::as',b::bs,[],_,h=>by simp [z1P]at h
 |a::as',b::bs,c::cs,h1,h2=>by
  have ih:=z4I as' bs cs;unfold z1P at h1 h2 ⊢
  split at h1
  .split at h2
   .rw [yB (by omega)];decide
   .split at h2
    .omega
    .have e:b.toNat=c.toNat:=by omega
     rw [yB (by omega)];decide
  .split at h1
   .omega
   .split at h2
    .rw [yB (by omega)];decide
    .split at h2
     .omega
     .rw [yA (by omega),yA (by omega)];exact ih h1 h2
def RisesP(cs:List Cel):Prop:=∀i,(h:i+1<cs.length)->Op.bytesLess (cs[i]'(by omega)).1 cs[i+1].1=true
theorem zCl{cs:List Cel}(h:RisesP cs):∀ (d i:Nat),(hd:i+d+1<cs.length)->z1P (cs[i]'(by omega)).1 (cs[i+d+1]'hd).1<0
 |0,i,hd=>by
  have:=h i (by omega);rw [z1B,yd]at this;exact this
 |d+1,i,hd=>by
  have h1:=zCl h d i (by omega);have h2:=h (i+d+1) (by omega);rw [z1B,yd]at h2;exact z4I _ _ _ h1 h2
theorem zAf{cs:List Cel}(h:RisesP cs){i j:Nat}(hij:i<j)(hj:j<cs.length):z1P (cs[i]'(by omega)).1 cs[j].1<0:=by
 obtain⟨d,rfl⟩:∃d,j=i+d+1:=⟨j-i-1,by omega⟩;exact zCl h d i hj
def z05(cs:List Cel)(k:List UInt8):Nat:=(cs.takeWhile fun c=>Op.bytesLess c.1 k).length
theorem z1o(cs:List Cel)(k:List UInt8):z05 cs k<=cs.length:=by
 unfold z05;have:=List.takeWhile_append_dropWhile (p:=fun c:Cel=>Op.bytesLess c.1 k) (l:=cs);have h:=congrArg List.length this;rw [y6]at h;omega
theorem z98:∀ {cs:List Cel} {k:List UInt8} {i:Nat},(h:i<z05 cs k)->Op.bytesLess (cs[i]'(by have:=z1o cs k;omega)).1 k=true
 | [],k,i,h=>by simp [z05]at h
 |c::cs,k,i,h=>by
  unfold z05 at h;rw [Y0]at h
  split at h
  .rename_i hc;rcases i with _|i
   .exact hc
   .have:=z98 (cs:=cs) (k:=k) (i:=i) (by unfold z05;simpa using h);simpa using this
  .simp at h
theorem zCR:∀ {cs:List Cel} {k:List UInt8},(h:z05 cs k<cs.length)->Op.bytesLess cs[z05 cs k].1 k=false
 | [],k,h=>by simp at h
 |c::cs,k,h=>by
  by_cases hc:Op.bytesLess c.1 k=true
  .have e:z05 (c::cs) k=z05 cs k+1:=by unfold z05;rw [Y0,yB hc];rfl
   have h':z05 cs k<cs.length:=by rw [e]at h;simpa using h
   have:=zCR h';simp only [e,Za];exact this
  .have e:z05 (c::cs) k=0:=by unfold z05;rw [Y0,yA hc];rfl
   simp only [e,List.getElem_cons_zero];simpa using hc
theorem zAB{cs:List Cel}(hr:RisesP cs)(k:List UInt8){i:Nat}(hi:i<cs.length):(!Op.bytesLess cs[i].1 k)=decide (z05 cs k<=i):=by
 rcases Y5 i (z05 cs k)with h|h
 .rw [z98 h];simp;omega
 .have hK:z05 cs k<cs.length:=by omega
  have h0:=zCR hK;have hb:Op.bytesLess cs[i].1 k=false:=by
   rcases Y5 (z05 cs k) i with hl|hl
   .rw [z1B,yj]at h0 ⊢;have h1:=zAf hr hl hi;intro h2;exact h0 (z4I _ _ _ h1 h2)
   .obtain rfl:i=z05 cs k:=by omega
    exact h0
  rw [hb];simp [h]
def isK(cs:List Cel)(k:List UInt8):Bool:=match cs[z05 cs k]? with
 |some c=>c.1==k
 |none=>false
end
section
open Go Go.RowKit Tryz
theorem zDo(bp bk:Nat)(S:Nat->Prop)(leaf:Bool)(next:Int)(v0:Value)(cs:List Cel)(key:List UInt8)(i:Nat)(w:World)(hp:Blk w bp 175 #[.bool leaf,.int .i64 next,v0])(hk:Blk w bk 9 #[.string (st key)])(hr:Cs S w v0 cs)(hi:i<cs.length)(hl:cs.length<=1000000):
 Calls prog 130 (#[.int .i64 (i:Int)]++ #[.pointer (some ⟨bp,0,none⟩),.pointer (some ⟨bk,0,none⟩)]) w fun e w'=>e= .returned (.bool (!Op.bytesLess cs[i].1 key))/\∃m,w'=w.drewN m:=by
 obtain⟨A,c,rfl,hlc,hcm,_,hA⟩:=hr.at;obtain⟨b,o,rfl,_,hc⟩:=hA (by omega);have c0:=(hc i hi).1;have p2:w.cell? ⟨bp,2,none⟩=some (.slice (some ⟨b,o,none⟩) cs.length c):=hp.cell 2;have k0:w.cell? ⟨bk,0,none⟩=some (.string (st key)):=hk.cell 0;generalize cs[i]=x at*;clear hA hc hp hk hr;show Calls _ _ #[.int .i64 (i:Int),.pointer (some ⟨bp,0,none⟩),.pointer (some ⟨bk,0,none⟩)] _ _;go_enter func130,ntmps130
 go_wp2_with fail
 go_quiet (fail)
 go_wp2_with fail
 go_ret
 exact⟨rfl,_,rfl⟩
theorem z46(S:Nat->Prop)(leaf:Bool)(next:Int)(v0:Value)(cs:List Cel)(key:List UInt8)(w:World)(hl:cs.length<=1000000)(hr:Cs S w v0 cs)(hri:RisesP cs):
 Calls prog 92 #[.agg #[.bool leaf,.int .i64 next,v0],.string (st key)] w fun e w'=>e= .returned (.tuple #[.int .i64 (z05 cs key:Int),.bool (isK cs key)])/\Below w.heap.size w w':=by
 have HR:=zz hr.lt;have hlt:=hr.lt;obtain⟨A,c,rfl,hlc,hcm,hA0,hA⟩:=hlt.at;have HA:=zz hA;have b1:Blk ((w.alloc (.cells #[.bool leaf,.int .i64 next,.slice A cs.length c] 175)).alloc (.cells #[.string (st key)] 9)) w.heap.size 175 #[.bool leaf,.int .i64 next,.slice A cs.length c]:=(Blk.new _ _ _).alloc _;have b2:Blk ((w.alloc (.cells #[.bool leaf,.int .i64 next,.slice A cs.length c] 175)).alloc (.cells #[.string (st key)] 9)) (w.heap.size+1) 9 #[.string (st key)]:=Blk.new1 _ _ _ _;have q0:Below w.heap.size w ((w.alloc (.cells #[.bool leaf,.int .i64 next,.slice A cs.length c] 175)).alloc (.cells #[.string (st key)] 9)):=((y7 _ _).alloc (y5 _) _).alloc (by simp) _;have hmf:=z0N prog;have hK:=z1o cs key;have HI:=zz (fun i (h:i<cs.length)=>zAB hri key h);clear hA hr hlt hri;go_enter func92,ntmps92
 go_wp2_with fail
 generalize hW:((w.alloc (.cells #[.bool leaf,.int .i64 next,.slice A cs.length c] 175)).alloc (.cells #[.string (st key)] 9))=W at*;clear hW;have HRW:=zz (HR.out.up q0);refine(z7L 130 #[.pointer (some ⟨w.heap.size,0,none⟩),.pointer (some ⟨w.heap.size+1,0,none⟩)] cs.length (z05 cs key) W hl hK (fun args w=>by rfl) (fun i m hi=> ?_)).mono ?_
 .have h:=zDo w.heap.size (w.heap.size+1) (fun b=>b<W.heap.size) leaf next _ cs key i (W.drewN m) b1 b2 HRW.out hi hl;rw [HI.out i hi]at h;refine h.mono ?_;rintro e w' ⟨rfl,m',rfl⟩;exact⟨rfl,_,World.drewN_drewN _ _ _⟩
 rintro e w1 ⟨rfl,m,rfl⟩;have d2:W.cell? ⟨w.heap.size,2,none⟩=some (.slice A cs.length c):=b1.cell 2;have d3:W.cell? ⟨w.heap.size+1,0,none⟩=some (.string (st key)):=b2.cell 0;have HIS:Hid (isK cs key=match cs[z05 cs key]? with|some c=>c.1==key|none=>false):=rfl;generalize hKe:z05 cs key=K at*;have HKE:=zz hKe;clear hKe;rcases Y5 K cs.length with hlt|hge
 .obtain⟨b,o,rfl,hbs,hc⟩:=HA.out (by omega);have c0:W.cell? ⟨b,o+K*2,none⟩=some (.string (st cs[K].1)):=(q0.cell (p:=⟨b,o+K*2,none⟩) hbs).trans (hc K hlt).1;have HE:Hid (isK cs key=(cs[K].1==key)):=by rw [Hid,HIS.out,yK hlt]
  generalize cs[K].1=kk at*;clear hc b1 b2;go_wp2_with fail
  go_quiet (fail)
  go_wp2_with fail
  go_ret2
  rw [HE.out,HKE.out];exact⟨by simp,below_drewN (below_drewN q0 _) _⟩
 .obtain rfl:K=cs.length:=by omega
  have HE:Hid (isK cs key=false):=by rw [Hid,HIS.out,ZE (y5 _)]
  clear b1 b2;go_wp2_with fail
  go_quiet (fail)
  go_wp2_with fail
  go_ret2
  rw [HE.out,HKE.out];exact⟨by simp,below_drewN (below_drewN q0 _) _⟩
def z5W(l:List UInt8)(w:World)(e:Ending)(w':World):Prop:=
 (∀x n,z0o l= .ok (x,n)->∃A k c,e= .returned (.tuple #[.int .u64 (x:Int),.slice A k c,.int .i64 0])/\Ob 5 w' w.heap.size (.slice A k c) (l.drop n)/\Below w.heap.size w w')/\
 (∀er,z0o l= .error er->e= .returned (.tuple #[.int .u64 0,.slice none 0 0,.int .i64 (er:Int)])/\Below w.heap.size w w')
theorem zJR{l:List UInt8}{i a:Nat}(h:i<l.length){r:Except Nat (Nat×Nat)}(hg:z7o i a (l.drop i)=r):
 (if(i=9/\1<l[i].toNat)∨(0<i/\l[i].toNat=0)then .error 12 else if l[i].toNat<128 then .ok (a+l[i].toNat*128 ^ i,i+1)else z7o (i+1) (a+(l[i].toNat%128)*128 ^ i) (l.drop (i+1)))=r:=by
 rw [<-hg,yL h,z7o]
theorem zHW{l:List UInt8}{i a:Nat}(h:¬i<l.length){r:Except Nat (Nat×Nat)}(hg:z7o i a (l.drop i)=r):r= .error 10:=by
 rw [<-hg,YW (by omega),z7o]
theorem z9N{l:List UInt8}{w:World}{er:Nat}(h:z0o l= .error er):z5W l w (.returned (.tuple #[.int .u64 0,.slice none 0 0,.int .i64 (er:Int)])) w:=
 ⟨fun x n hx=>(by rw [h]at hx;cases hx),fun er' h'=>by rw [h]at h';cases h';exact⟨rfl,y7 _ _⟩⟩
theorem zHp{l:List UInt8}{w w':World}{x n:Nat}(h:z0o l= .ok (x,n)){A:Option Addr}{k c:Nat}(hown:Ob 5 w' w.heap.size (.slice A k c) (l.drop n))(hb:Below w.heap.size w w'):
 z5W l w (.returned (.tuple #[.int .u64 (x:Int),.slice A k c,.int .i64 0])) w':=
 ⟨fun x' n' hx=>(by rw [h]at hx;cases hx;exact⟨A,k,c,rfl,hown,hb⟩),fun er' h'=>by rw [h]at h';cases h'⟩
theorem z4L(S:Nat->Prop)(v0:Value)(l:List UInt8)(w:World)(hl:l.length<=1099511627776)(hr:Bs S w v0 l):
 Calls prog 131 #[v0] w (z5W l w):=by
 have HR:=zz hr;obtain⟨A,c,rfl,hlc,hcm,hA0,hA⟩:=hr.at;have HA:=zz hA;clear hA hr;go_enter func131,ntmps131
 go_wp2_with fail
 go_loop [5,10] (fun av iv=>∃ (i a:Nat),iv= .int .i64 (i:Int)/\av= .int .u64 (a:Int)/\i<=l.length/\i<=9/\Hid (a<128 ^ i)/\Hid (z7o i a (l.drop i)=z0o l)) (fun _ iv=>l.length-(intOf iv).toNat)
 case atStart=>exact⟨0,0,rfl,rfl,by omega,by omega,by simp [Hid],by simp [z0o,Hid]⟩
 case round=>
  obtain⟨i,a,rfl,rfl,hi,hi9,HA2,hg⟩:=hrel;by_cases hil:i<l.length
  .obtain⟨b,o,rfl,_,hcell⟩:=HA.out (by omega);have hc:=hcell i hil;clear hcell HA;have HG:=zz (zJR hil hg.out);clear hg;obtain⟨x,hx⟩:∃x,x=l[i].toNat:=⟨_,rfl⟩;have hx256:x<256:=hx▸l[i].toNat_lt;rw [<-hx]at hc HG;clear hx;by_cases h1:i=9/\1<x
   .have t1:((i:Int)==9)=true:=by simp;omega
    have t2:(1:Int)<(x:Int):=by omega
    have H1:=zz h1;clear h1;go_wp2_with fail
    go_ret3
    refine z9N ?_;have h:=HG.out;rw [yB (.inl H1.out)]at h;exact h.symm
   .by_cases h2:0<i/\x=0
    .have t1:((i:Int)==9)=false∨((i:Int)==9)=true:=by cases ((i:Int)==9)<;>simp
     have t2:((x:Int)==0)=true:=by simp;omega
     have t3:¬ (1:Int)<(x:Int):=by omega
     have H2:=zz h2;have t0:(0:Int)<(i:Int):=by omega
     clear h2;rcases t1 with t1|t1
     all_goals
      go_wp2_with fail
      go_ret3
      refine z9N ?_;have h:=HG.out;rw [yB (.inr H2.out)]at h;exact h.symm
    .by_cases h3:x<128
     .have hok:z0o l= .ok (a+x*128 ^ i,i+1):=by
       have h:=HG.out;rw [yA (by omega),yB h3]at h;exact h.symm
      have hb:=(z2R hok).1;have hor:=zJ1 a x i HA2.out (by omega) (by omega);obtain⟨y,hy⟩:∃y,y=a+x*128 ^ i:=⟨_,rfl⟩;rw [<-hy]at hor hok;have HO:=zz hok;clear hok hb hy;have tx:((x:Int)<128):=by omega
      have hdr:l.length-(i+1)<=l.length:=by omega
      have hcut:=zz (Bs.cut HR.out (show i+1<=l.length from hil));by_cases h9:i=9
      case' pos=>
       have t1:((i:Int)==9)=true:=by simp;omega
       have t3:¬ (1:Int)<(x:Int):=by omega
       have t0:(0:Int)<(i:Int):=by omega
       have t2:((x:Int)==0)=false:=by simp;omega
       clear h9 h1 h2
      case' neg=>
       have t1:((i:Int)==9)=false:=by simp;omega
       clear h9;by_cases h0:0<i
       case' pos=>
        have t0:(0:Int)<(i:Int):=by omega
        have t2:((x:Int)==0)=false:=by simp;omega
       case' neg=>
        have t0:¬ (0:Int)<(i:Int):=by omega
      all_goals
       try clear h1 h2
       go_wp2_with (at_builtin;go_loud (refine z02 _ rfl (.tmp 50) (.tmp 54) z0p rfl (Ob.made _ _ w.heap.size (by simp) (by simp)) (Sl.alloc1 hcut.out _) rfl rfl (by simp;omega) (by simp) ?_);intro A1 k1 c1 w1 hown1 hg1 hat1)
       all_goals
        go_ret3
        exact zHp HO.out (by simpa using hown1) (z01 ((y7 _ _).alloc (y5 _) _) (Ob.made _ _ w.heap.size (by simp) (by simp)) hg1 (by simp))
     .have hlow:x%128<128:=by omega
      have hne:¬i=9:=by omega
      have hst:z7o (i+1) (a+x%128*128 ^ i) (l.drop (i+1))=z0o l:=by
       have h:=HG.out;rw [yA (by omega),yA h3]at h;exact h
      have hp:a+x%128*128 ^ i<128 ^ (i+1):=by
       have h1:x%128*128 ^ i<=127*128 ^ i:=YP _ (by omega);have:=HA2.out;rw [Z3];omega
      have h8:(128:Nat) ^ (i+1)<=128 ^ 9:=Zm (by omega) (by omega);have hand:=and127 x hx256;have hor:=zJ1 a (x%128) i HA2.out (by unfold U64;omega) (by unfold U64;omega);obtain⟨q,hq⟩:∃q,q=x%128:=⟨_,rfl⟩;rw [<-hq]at hor hand hst hp hlow;obtain⟨y,hy⟩:∃y,y=a+q*128 ^ i:=⟨_,rfl⟩;rw [<-hy]at hor hst hp;have t1:((i:Int)==9)=false:=by simp;omega
      have tx:¬ ((x:Int)<128):=by omega
      have t2:((x:Int)==0)=false:=by simp;omega
      have HS:=zz hst;have HP:=zz hp;clear hst hp hy hq h8 h1 h2 HG HA2;by_cases h0:0<i
      all_goals
       go_wp2_with fail
       go_round
       case rel=>exact⟨i+1,y,by go_num,rfl,by omega,by omega,HP,HS⟩
       case measure=>simp [intOf];omega
  .have h:=zHW hil hg.out;have HO:=zz h;clear h hg;go_wp2_with fail
   go_ret3
   exact z9N HO.out
theorem zF8(A:Option Addr)(k c n:Nat)(w:World)(hn:1<=n)(hn8:n<=8)(hk:k<n):
 Calls prog 127 #[.slice A k c,.int .i64 n] w fun e w'=>e= .returned (.tuple #[.int .u64 0,.slice none 0 0,.int .i64 10])/\w=w':=by
 have h1:¬ (n:Int)<1:=by omega
 have h2:¬8<(n:Int):=by omega
 go_enter func127,ntmps127
 go_wp2
 go_ret3
 exact⟨rfl,rfl⟩
theorem zF7(S:Nat->Prop)(v0:Value)(l:List UInt8)(n:Nat)(w:World)(hn:1<=n)(hn8:n<=8)(hk:n<=l.length)(hl:l.length<=1099511627776)(hr:Bs S w v0 l):
 Calls prog 127 #[v0,.int .i64 n] w fun e w'=>∃A k c,e= .returned (.tuple #[.int .u64 (deB (l.take n):Int),.slice A k c,.int .i64 0])/\Ob 5 w' w.heap.size (.slice A k c) (l.drop n)/\Below w.heap.size w w':=by
 have h1:¬ (n:Int)<1:=by omega
 have h2:¬8<(n:Int):=by omega
 have HR:=zz hr;obtain⟨A,c,rfl,hlc,hcm,hA0,hA⟩:=hr.at;obtain⟨b,o,rfl,_,hcell⟩:=hA (by omega);have HA:=zz hcell;clear hA hr hcell;go_enter func127,ntmps127
 go_wp2_with fail
 go_loop [7,22] (fun av iv=>∃ (i a:Nat),iv= .int .i64 (i:Int)/\av= .int .u64 (a:Int)/\i<=n/\Hid (a=deB (l.take i))) (fun _ iv=>n-(intOf iv).toNat)
 case atStart=>exact⟨0,0,rfl,rfl,by omega,by simp [Hid,deB]⟩
 case round=>
  obtain⟨i,a,rfl,rfl,hi,hg⟩:=hrel;by_cases hin:i<n
  .have hc:=HA.out i (by omega);clear HA;obtain⟨x,hx⟩:∃x,x=l[i].toNat:=⟨_,rfl⟩;have hx256:x<256:=hx▸l[i].toNat_lt;have hs:=z93 (show i<l.length by omega);rw [<-hx]at hc hs;have hor:=zK4 a x i (by rw [hg.out];exact z4o l i) (by omega) hx256;obtain⟨y,hy⟩:∃y,y=a*256+x:=⟨_,rfl⟩;rw [<-hy]at hor;have HY:=zz (show y=deB (l.take (i+1)) by rw [hs,<-hg.out];exact hy);clear hs hy hx;go_wp2_with fail
   go_round
   case rel=>exact⟨i+1,y,by go_num,rfl,by omega,HY⟩
   case measure=>simp [intOf];omega
  .obtain rfl:i=n:=by omega
   have hcut:=zz (Bs.cut HR.out hk);go_wp2_with (at_builtin;go_loud (refine z02 _ rfl (.tmp 35) (.tmp 38) z0p rfl (Ob.made _ _ w.heap.size (by simp) (by simp)) (Sl.alloc1 hcut.out _) rfl rfl (by simp;omega) (by simp) ?_);intro A1 k1 c1 w1 hown1 hg1 hat1)
   all_goals
    go_ret3
    have ha:=hg.out;rw [<-ha];exact⟨A1,k1,c1,rfl,by simpa using hown1,z01 ((y7 _ _).alloc (y5 _) _) (Ob.made _ _ w.heap.size (by simp) (by simp)) hg1 (by simp)⟩
end
end Go.Proofs.YthnlcbamjehpdaaGreatDoor
