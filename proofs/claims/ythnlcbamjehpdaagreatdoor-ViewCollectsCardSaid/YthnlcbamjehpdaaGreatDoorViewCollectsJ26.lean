/- Part 26. -/
import Derived.Test.YthnlcbamjehpdaaGreatDoorViewCollectsJ25
namespace Go.Proofs.YthnlcbamjehpdaaGreatDoor
set_option linter.unusedVariables false
set_option maxHeartbeats 16000000
set_option maxRecDepth 100000
section
open Go Go.RowKit
set_option linter.unusedSimpArgs false
structure TrP where
 i:Nat
 F:Nat->Prop
 T:World->World->Prop
 ok:∀w w',T w w'->Turn F w w'
def TrP.of(i:Nat)(F:Nat->Prop):TrP:=⟨i,F,Turn F,fun _ _ h=>h⟩
def zGO(st:List TrP)(i:Nat):World->World->Prop:=fun w w'=>match st.find? (fun p=>p.i==i)with
 |some p=>p.T w w'
 |none=>Below w.heap.size w w'
def trX(ops:Array Oper)(st:List TrP)(j:Nat):Nat->Prop:=fun b=>∃p∈st,p.i≠j/\z0t ops p.i j=false/\p.F b
def trE(st:List TrP):Nat->Prop:=fun b=>∃p∈st,p.F b
def trR(ops:Array Oper)(st:List TrP)(w0:World):RegFr:=⟨zGO st,fun j=>Turn (trX ops st j) w0,Turn (trE st) w0⟩
theorem trX_E{ops:Array Oper}{st:List TrP}{j:Nat}(b:Nat)(h:trX ops st j b):trE st b:=by
 obtain⟨p,h1,_,_,h2⟩:=h;exact⟨p,h1,h2⟩
def z2N(T:World->World->Prop)(V:VP):Prop:=∀v w w',T w w'->V v w->V v w'
def zEJ(ops:Array Oper)(st:List TrP):Nat->List VP->Prop
 |_,[]=>True
 |j,V::Vs=>(Stays V/\∀p∈st,p.i≠j->z0t ops j p.i=false->z2N p.T V)/\zEJ ops st (j+1) Vs
theorem allTr{ops:Array Oper}{st:List TrP}:∀ {Vs:List VP} {n:Nat},zEJ ops st n Vs->∀j,j<Vs.length->Stays (vAt Vs j)/\∀p∈st,p.i≠n+j->z0t ops (n+j) p.i=false->z2N p.T (vAt Vs j)
 |V::Vs,n,h,0,_=>h.1
 |V::Vs,n,h,j+1,hj=>by
  have:=allTr h.2 j (by simp only [y8]at hj;omega);rw [show n+1+j=n+(j+1)from by omega]at this;exact this
theorem z9h{st:List TrP}{i:Nat}{p:TrP}(h:st.find? (fun p=>p.i==i)=some p):p∈st/\p.i=i:=by
 have h1:=Yu h;exact⟨yr h,by simpa using h1⟩
section
variable {P:Program} {ops:Array Oper} {st:List TrP} {w0:World}
theorem zJ2{Vs:List VP}(hlen:Vs.length=ops.size)(h:zEJ ops st 0 Vs):(trR ops st w0).Ok ops Vs:=by
 refine⟨fun i j hi hj hne hwt x w w' hS hv=> ?_,fun i j hi hj hne hwt w w' hS hC=> ?_,fun i hi w w' hS hE=> ?_⟩
 .have h1:=allTr h j (by omega);rw [Y4]at h1;simp only [trR,zGO]at hS
  split at hS
  .rename_i p hp;obtain⟨hm,rfl⟩:=z9h hp;exact h1.2 p hm hne hwt x w w' hS hv
  .exact h1.1 x w w' hS hv
 .simp only [trR,zGO]at hS hC ⊢
  split at hS
  .rename_i p hp;obtain⟨hm,rfl⟩:=z9h hp;exact hC.trans (p.ok _ _ hS) fun b hb=> .inl ⟨p,hm,hne,hwt,hb⟩
  .exact hC.trans (Turn.of_below (F:=trX ops st j) hS) fun b hb=> .inl hb
 .simp only [trR,zGO]at hS hE ⊢
  split at hS
  .rename_i p hp;obtain⟨hm,rfl⟩:=z9h hp;exact hE.trans (p.ok _ _ hS) fun b hb=> .inl ⟨p,hm,hb⟩
  .exact hE.trans (Turn.of_below (F:=trE st) hS) fun b hb=> .inl hb
theorem z4G{id:Nat}{Q':Exit->Act->World->Prop}{l:List Oper}{a0:Act}(st:List TrP)(hm:P.follows .mixedOrders=true)(hg:z3C l.toArray=true)
 (h:∃Vs,z1R P l.toArray (trR l.toArray st w0) (fun a w=>Q' .normal a w) l Vs [] a0/\zEJ l.toArray st 0 Vs/\Vs.length=l.length):(Code.region id l.toArray true).wp P Q' a0 w0:=by
 obtain⟨Vs,h0,hS,hlen⟩:=h;exact z3o l hm hg (zJ2 (by simpa using hlen) hS) hlen ((Turn.refl _ _).drew) (fun _ _=>(Turn.refl _ _).drew) h0
variable {Q:Act->World->Prop} {a:Act} {o:Oper} {rest:List Oper} {Vs:List VP} {env:List (Value×VP)}
theorem z1x{V:VP}(hw:Region.wanted o (yielded ops a.tmps)=true)(hs:st.find? (fun p=>p.i==env.length)=none)
 (h1:∀w,Turn (trE st) w0 w->(∀e∈o.after,Region.binds .any e=true->∀ (x:Value) (W:VP),env[e.on]? =some (x,W)->W x w)->z03 P o a w V)
 (h2:∀x,(∃w,Turn (trE st) w0 w/\V x w)->∀K:Act->Prop,(∀a',z1R P ops (trR ops st w0) Q rest Vs (env++ [(x,V)]) a'->K a')->K (a.put o.dst x)):z1R P ops (trR ops st w0) Q (o::rest) (V::Vs) env a:=by
 refine⟨?_,fun x hx=>h2 x hx _ fun _ h=>h⟩;rw [yB hw];intro w hC hf;have h3:=h1 w (Turn.mono hC fun b hb _=>trX_E b hb) hf;have eS:(trR ops st w0).S env.length=fun w w'=>Below w.heap.size w w':=by funext w w';simp only [trR,zGO,hs]
 rw [eS];unfold z03 at h3;unfold steps
 revert h3
 cases (execOp a.eval o).run P w with
 |ok n w'=>
  cases n<;>simp only [z0H,z0i]<;>first|exact fun h=>h|exact fun h=>h.2.mono fun e w'' ⟨v,he,hb,hv⟩=>⟨v,he,z1M h.1 hb,hv⟩
 |halt x w'=>simp only [z0H,z0i];exact fun h=>h
theorem z3n{c:Value}(hw:Region.wanted o (yielded ops a.tmps)=true)(hs:st.find? (fun p=>p.i==env.length)=none)
 (h1:∀w,Turn (trE st) w0 w->(∀e∈o.after,Region.binds .any e=true->∀ (x:Value) (W:VP),env[e.on]? =some (x,W)->W x w)->z03 P o a w (Is c))
 (h2:∀K:Act->Prop,(∀a',z1R P ops (trR ops st w0) Q rest Vs (env++ [(c,Is c)]) a'->K a')->K (a.put o.dst c)):z1R P ops (trR ops st w0) Q (o::rest) (Is c::Vs) env a:=
 z1x hw hs h1 fun x ⟨_,_,hx⟩=>by
  obtain rfl:x=c:=hx;exact h2
theorem z1y(hw:Region.wanted o (yielded ops a.tmps)=false)(h2:∀K:Act->Prop,(∀a',z1R P ops (trR ops st w0) Q rest Vs (env++ [(undef,Is undef)]) a'->K a')->K (a.put o.dst undef)):z1R P ops (trR ops st w0) Q (o::rest) (Is undef::Vs) env a:=by
 refine⟨by rw [yA (by rw [hw];simp)];exact fun _ _=>rfl,fun x ⟨w,_,hx⟩=> ?_⟩;obtain rfl:x=undef:=hx;exact h2 _ fun _ h=>h
theorem z4F{V:VP}(p:TrP)(hw:Region.wanted o (yielded ops a.tmps)=true)(hs:st.find? (fun p=>p.i==env.length)=some p)
 (h1:∀w,Turn (trX ops st env.length) w0 w->(∀e∈o.after,Region.binds .any e=true->∀ (x:Value) (W:VP),env[e.on]? =some (x,W)->W x w)->steps P o a w p.T V)
 (h2:∀x,(∃w,Turn (trE st) w0 w/\V x w)->∀K:Act->Prop,(∀a',z1R P ops (trR ops st w0) Q rest Vs (env++ [(x,V)]) a'->K a')->K (a.put o.dst x)):z1R P ops (trR ops st w0) Q (o::rest) (V::Vs) env a:=by
 refine⟨?_,fun x hx=>h2 x hx _ fun _ h=>h⟩;rw [yB hw];intro w hC hf;have eS:(trR ops st w0).S env.length=p.T:=by funext w w';simp only [trR,zGO,hs]
 rw [eS];exact h1 w hC hf
theorem z9p(h:∀w,Turn (trE st) w0 w->(∀ (j:Nat) (x:Value) (W:VP),env[j]? =some (x,W)->W x w)->Q a w):z1R P ops (trR ops st w0) Q [] [] env a:=h
theorem Is.tstays(c:Value)(T:World->World->Prop):z2N T (Is c):=fun _ _ _ _ h=>h
theorem okTr(c:Value)(j:Nat):Stays (Is c)/\∀p∈st,p.i≠j->z0t ops j p.i=false->z2N p.T (Is c):=⟨Stays.is c,fun p _ _ _=>Is.tstays c p.T⟩
end
theorem zJr{ops:Array Oper}{p:TrP}{j:Nat}{V:VP}(hS:Stays V)(h1:p.i=j∨z0t ops j p.i=true∨z2N p.T V):Stays V/\∀r∈ [p],r.i≠j->z0t ops j r.i=false->z2N r.T V:=
 ⟨hS,fun r hr hne hw=>by
   obtain rfl:=yJ.1 hr;exact(h1.resolve_left hne).resolve_left (by rw [hw];simp)⟩
theorem z7x{ops:Array Oper}{p q:TrP}{j:Nat}{V:VP}(hS:Stays V)(h1:p.i=j∨z0t ops j p.i=true∨z2N p.T V)(h2:q.i=j∨z0t ops j q.i=true∨z2N q.T V):Stays V/\∀r∈ [p,q],r.i≠j->z0t ops j r.i=false->z2N r.T V:=
 ⟨hS,fun r hr hne hw=>by
   rcases y9.1 hr with rfl|hr
   .exact(h1.resolve_left hne).resolve_left (by rw [hw];simp)
   .obtain rfl:=yJ.1 hr;exact(h2.resolve_left hne).resolve_left (by rw [hw];simp)⟩
theorem trX2a{ops:Array Oper}{p q:TrP}{j b:Nat}(h:trX ops [p,q] j b)(hp:p.i=j):q.F b:=by
 obtain⟨r,hr,hne,_,hF⟩:=h;rcases y9.1 hr with rfl|hr
 .exact absurd hp hne
 .obtain rfl:=yJ.1 hr;exact hF
theorem trX2b{ops:Array Oper}{p q:TrP}{j b:Nat}(h:trX ops [p,q] j b)(hq:q.i=j):p.F b:=by
 obtain⟨r,hr,hne,_,hF⟩:=h;rcases y9.1 hr with rfl|hr
 .exact hF
 .obtain rfl:=yJ.1 hr;exact absurd hq hne
theorem zK9{p:TrP}{b:Nat}:trE [p] b↔p.F b:=by simp [trE]
theorem zKA{p q:TrP}{b:Nat}:trE [p,q] b↔p.F b∨q.F b:=by simp [trE]
section
variable {F:Nat->Prop} {w w':World}
theorem Turn.cell(h:Turn F w w'){b k:Nat}{v:Value}(hc:w.cell? ⟨b,k,none⟩=some v)(hF:¬F b):w'.cell? ⟨b,k,none⟩=some v:=
 (yR (a:=⟨b,k,none⟩) (h.block b (Yc w ⟨b,k,none⟩ hc) hF)).trans hc
theorem z2V{B n size:Nat}{e:TypeId}{v:Value}{xs:List Value}(h:w.ownsRow B e size v n xs)(k:Turn F w w')(hF:∀g,v.ownBlock=some g->¬F g):w'.ownsRow B e size v n xs:=by
 refine⟨h.1,?_⟩;rcases h.2 with h2|⟨g,cap,cur,hv,hg,hh,r⟩
 .exact .inl h2
 .exact .inr ⟨g,cap,cur,hv,hg,(k.block g (lt_of_block hh) (hF g (by rw [hv];rfl))).trans hh,r⟩
def VRow(B:Nat)(e:TypeId)(size n:Nat)(xs:List Value)(ob:Option Nat)(s0:Nat):VP:=fun v w=>(∃A c,v= .slice A n c)/\w.ownsRow B e size v n xs/\(v.ownBlock=ob∨∃g,v.ownBlock=some g/\s0<=g)
theorem VRow.stays{B:Nat}{e:TypeId}{size n:Nat}{xs:List Value}{ob:Option Nat}{s0:Nat}:Stays (VRow B e size n xs ob s0):=fun v w w' hb h=>⟨h.1,z2V h.2.1 (Turn.of_below (F:=fun _=>False) hb) (fun _ _=>id),h.2.2⟩
theorem VRow.tstays{B:Nat}{e:TypeId}{size n:Nat}{xs:List Value}{ob:Option Nat}{s0:Nat}(h0:∀g,ob=some g->¬F g)(h1:∀g,F g->g<s0):z2N (Turn F) (VRow B e size n xs ob s0):=fun v w w' hT h=>
 ⟨h.1,z2V h.2.1 hT fun g hg hF=>by
   rcases h.2.2 with h2|⟨g',h2,h3⟩
   .exact h0 g (h2▸hg) hF
   .rw [hg]at h2;injection h2 with h2
    have:=h1 g hF;omega,h.2.2⟩
def VSl(s0 size n:Nat)(xs:List Value):VP:=fun v w=>(∃A k c,v= .slice A k c)/\Sl (fun b=>s0<=b/\b<w.heap.size) w size v n xs
theorem VSl.stays{s0 size n:Nat}{xs:List Value}:Stays (VSl s0 size n xs):=fun v w w' hb h=>⟨h.1,(Sl.below h.2 hb fun b h=>h.2).more fun b h=>⟨h.1,yE h.2 hb.size⟩⟩
theorem VSl.tstays{s0 size n:Nat}{xs:List Value}(h1:∀g,F g->g<s0):z2N (Turn F) (VSl s0 size n xs):=fun v w w' hT h=>
 ⟨h.1,(Sl.keep h.2 fun b o hb=>yR (hT.block b hb.2 fun hF=>by have:=h1 b hF;omega)).more fun b h=>⟨h.1,yE h.2 hT.size⟩⟩
theorem z1i{P:Program}{o:Oper}{a:Act}{s x:Operand}{t e:TypeId}{z:Value}{size bytes:Nat}(E:Elem P t e z size bytes)(ho:o.op= .call {callee:= .builtin .append,args:= #[s,x],argTypes:= #[t,t]})
 {B:Nat} {v:Value} {n:Nat} {xs:List Value} (hown:w.ownsRow B e size v n xs) {S:Nat->Prop} {u:Value} {m:Nat} {news:List Value} (hr:Sl S w size u m news) (hs:a.eval s=v) (hx:a.eval x=u) (h1:∀y∈news,y.oneCell'=true)
 (hlen:n+m<=maxLen) (hbytes:(n+m)*bytes<=140737488355328) (hB:B<=w.heap.size) {s0:Nat} (h0:s0<=w.heap.size):steps P o a w (Turn fun b=>v.ownBlock=some b) (VRow B e size (n+m) (xs++news) v.ownBlock s0):=by
 obtain⟨v',w',hrun,h2,h3,h4⟩:=z2W (P:=P) w E o.type hown hr h1 hlen hbytes hB;obtain⟨A,k,c,rfl⟩:=z0v h2;obtain rfl:=z0h h2;unfold steps execOp;simp only [ho,resolve,invoke,builtin,ZV,ZW,Ym,QG,yy,Yx,hs,hx,hrun,z0i];refine⟨Turn.of_grown h3 fun z hz=>hz,⟨A,c,rfl⟩,h2,?_⟩;rcases h4 with h4|h4
 .exact .inl h4
 .exact .inr ⟨_,h4,h0⟩
end
end
section
open Go Go.RowKit
set_option linter.unusedSimpArgs false
def DIs(c:Value):DP:=fun _=>Is c
def DV(V:VP):DP:=fun _=>V
def okD(ops:Array Oper)(st:List TrP)(j:Nat)(D:DP):Prop:=
 (∀y,Stays (D y))/\(∀p∈st,p.i≠j->z0t ops j p.i=false->∀y,z2N p.T (D y))/\∀y y':Nat->Value,(∀i,z0t ops j i=true->y i=y' i)->D y=D y'
def zH5(ops:Array Oper)(st:List TrP):Nat->List DP->Prop
 |_,[]=>True
 |j,D::Ds=>okD ops st j D/\zH5 ops st (j+1) Ds
theorem zJD{ops:Array Oper}{st:List TrP}:∀ {Ds:List DP} {n:Nat},zH5 ops st n Ds->∀j,j<Ds.length->okD ops st (n+j) (z4p Ds j)
 |D::Ds,n,h,0,_=>h.1
 |D::Ds,n,h,j+1,hj=>by
  have:=zJD h.2 j (by simp only [y8]at hj;omega);rw [show n+1+j=n+(j+1)from by omega]at this;exact this
section
variable {P:Program} {ops:Array Oper} {st:List TrP} {w0:World}
theorem zKB{Ds:List DP}(hlen:Ds.length=ops.size)(h:zH5 ops st 0 Ds):(trR ops st w0).OkD ops Ds:=by
 have h0:=zJ2 (ops:=ops) (st:=st) (w0:=w0) (Vs:=List.replicate ops.size (Is undef)) (by simp) (by
  have:∀n k,zEJ ops st k (List.replicate n (Is undef)):=by
   intro n
   induction n with
   |zero=>exact fun _=>trivial
   |succ n ih=>exact fun k=>⟨okTr _ _,ih _⟩
  exact this _ _)
 refine⟨fun i j hi hj hne hwt y x w w' hS hv=> ?_,h0.C,h0.E,fun j hj y y' hy=> ?_⟩
 .have h1:=zJD h j (by omega);rw [Y4]at h1;simp only [trR,zGO]at hS
  split at hS
  .rename_i p hp;obtain⟨hm,rfl⟩:=z9h hp;exact h1.2.1 p hm hne hwt y x w w' hS hv
  .exact h1.1 y x w w' hS hv
 .have h1:=zJD h j (by omega);rw [Y4]at h1;exact h1.2.2 y y' hy
theorem z1F{id:Nat}{Q':Exit->Act->World->Prop}{l:List Oper}{a0:Act}(st:List TrP)(hm:P.follows .mixedOrders=true)(hg:z3C l.toArray=true)
 (h:∃Ds,z21 P l.toArray (trR l.toArray st w0) (fun a w=>Q' .normal a w) l Ds [] a0/\zH5 l.toArray st 0 Ds/\Ds.length=l.length):(Code.region id l.toArray true).wp P Q' a0 w0:=by
 obtain⟨Ds,h0,hS,hlen⟩:=h;exact z9q l hm hg (zKB (by simpa using hlen) hS) hlen ((Turn.refl _ _).drew) (fun _ _=>(Turn.refl _ _).drew) h0
variable {Q:Act->World->Prop} {a:Act} {o:Oper} {rest:List Oper} {Ds:List DP} {env:List (Value×VP)}
theorem z9o{D:DP}(hw:Region.wanted o (yielded ops a.tmps)=true)(hs:st.find? (fun p=>p.i==env.length)=none)
 (h1:∀w,Turn (trE st) w0 w->(∀e∈o.after,Region.binds .any e=true->∀ (x:Value) (W:VP),env[e.on]? =some (x,W)->W x w)->z03 P o a w (D (yOf env)))
 (h2:∀x,(∃w,Turn (trE st) w0 w/\D (yOf env) x w)->∀K:Act->Prop,(∀a',z21 P ops (trR ops st w0) Q rest Ds (env++ [(x,D (yOf env))]) a'->K a')->K (a.put o.dst x)):z21 P ops (trR ops st w0) Q (o::rest) (D::Ds) env a:=by
 refine⟨?_,fun x hx=>h2 x hx _ fun _ h=>h⟩;rw [yB hw];intro w hC hf;have h3:=h1 w (Turn.mono hC fun b hb _=>trX_E b hb) hf;have eS:(trR ops st w0).S env.length=fun w w'=>Below w.heap.size w w':=by funext w w';simp only [trR,zGO,hs]
 rw [eS];unfold z03 at h3;unfold steps
 revert h3
 cases (execOp a.eval o).run P w with
 |ok n w'=>
  cases n<;>simp only [z0H,z0i]<;>first|exact fun h=>h|exact fun h=>h.2.mono fun e w'' ⟨v,he,hb,hv⟩=>⟨v,he,z1M h.1 hb,hv⟩
 |halt x w'=>simp only [z0H,z0i];exact fun h=>h
theorem z2M{c:Value}(hw:Region.wanted o (yielded ops a.tmps)=true)(hs:st.find? (fun p=>p.i==env.length)=none)
 (h1:∀w,Turn (trE st) w0 w->(∀e∈o.after,Region.binds .any e=true->∀ (x:Value) (W:VP),env[e.on]? =some (x,W)->W x w)->z03 P o a w (Is c))
 (h2:∀K:Act->Prop,(∀a',z21 P ops (trR ops st w0) Q rest Ds (env++ [(c,Is c)]) a'->K a')->K (a.put o.dst c)):z21 P ops (trR ops st w0) Q (o::rest) (DIs c::Ds) env a:=
 z9o (D:=DIs c) hw hs h1 fun x ⟨_,_,hx⟩=>by
  obtain rfl:x=c:=hx;exact h2
theorem zGx{V:VP}(hw:Region.wanted o (yielded ops a.tmps)=true)(hs:st.find? (fun p=>p.i==env.length)=none)
 (h1:∀w,Turn (trE st) w0 w->(∀e∈o.after,Region.binds .any e=true->∀ (x:Value) (W:VP),env[e.on]? =some (x,W)->W x w)->z03 P o a w V)
 (h2:∀x,(∃w,Turn (trE st) w0 w/\V x w)->∀K:Act->Prop,(∀a',z21 P ops (trR ops st w0) Q rest Ds (env++ [(x,V)]) a'->K a')->K (a.put o.dst x)):z21 P ops (trR ops st w0) Q (o::rest) (DV V::Ds) env a:=
 z9o (D:=DV V) hw hs h1 h2
def DAs(f:(Nat->Value)->Value):DP:=fun y=>Is (f y)
theorem z7m(f:(Nat->Value)->Value){c:Value}(hc:f (yOf env)=c)(hw:Region.wanted o (yielded ops a.tmps)=true)(hs:st.find? (fun p=>p.i==env.length)=none)
 (h1:∀w,Turn (trE st) w0 w->(∀e∈o.after,Region.binds .any e=true->∀ (x:Value) (W:VP),env[e.on]? =some (x,W)->W x w)->z03 P o a w (Is c))
 (h2:∀K:Act->Prop,(∀a',z21 P ops (trR ops st w0) Q rest Ds (env++ [(c,Is c)]) a'->K a')->K (a.put o.dst c)):z21 P ops (trR ops st w0) Q (o::rest) (DAs f::Ds) env a:=by
 subst hc;exact z9o (D:=DAs f) hw hs h1 fun x ⟨_,_,hx⟩=>by
  obtain rfl:x=f (yOf env):=hx;exact h2
theorem z1L(hw:Region.wanted o (yielded ops a.tmps)=false)(h2:∀K:Act->Prop,(∀a',z21 P ops (trR ops st w0) Q rest Ds (env++ [(undef,Is undef)]) a'->K a')->K (a.put o.dst undef)):z21 P ops (trR ops st w0) Q (o::rest) (DIs undef::Ds) env a:=by
 refine⟨by rw [yA (by rw [hw];simp)];exact fun _ _=>rfl,fun x ⟨w,_,hx⟩=> ?_⟩;obtain rfl:x=undef:=hx;exact h2 _ fun _ h=>h
theorem zGw{D:DP}(p:TrP)(hw:Region.wanted o (yielded ops a.tmps)=true)(hs:st.find? (fun p=>p.i==env.length)=some p)
 (h1:∀w,Turn (trX ops st env.length) w0 w->(∀e∈o.after,Region.binds .any e=true->∀ (x:Value) (W:VP),env[e.on]? =some (x,W)->W x w)->steps P o a w p.T (D (yOf env)))
 (h2:∀x,(∃w,Turn (trE st) w0 w/\D (yOf env) x w)->∀K:Act->Prop,(∀a',z21 P ops (trR ops st w0) Q rest Ds (env++ [(x,D (yOf env))]) a'->K a')->K (a.put o.dst x)):z21 P ops (trR ops st w0) Q (o::rest) (D::Ds) env a:=by
 refine⟨?_,fun x hx=>h2 x hx _ fun _ h=>h⟩;rw [yB hw];intro w hC hf;have eS:(trR ops st w0).S env.length=p.T:=by funext w w';simp only [trR,zGO,hs]
 rw [eS];exact h1 w hC hf
theorem z1Z{V:VP}(p:TrP)(hw:Region.wanted o (yielded ops a.tmps)=true)(hs:st.find? (fun p=>p.i==env.length)=some p)
 (h1:∀w,Turn (trX ops st env.length) w0 w->(∀e∈o.after,Region.binds .any e=true->∀ (x:Value) (W:VP),env[e.on]? =some (x,W)->W x w)->steps P o a w p.T V)
 (h2:∀x,(∃w,Turn (trE st) w0 w/\V x w)->∀K:Act->Prop,(∀a',z21 P ops (trR ops st w0) Q rest Ds (env++ [(x,V)]) a'->K a')->K (a.put o.dst x)):z21 P ops (trR ops st w0) Q (o::rest) (DV V::Ds) env a:=
 zGw (D:=DV V) p hw hs h1 h2
theorem z39(h:∀w,Turn (trE st) w0 w->(∀ (j:Nat) (x:Value) (W:VP),env[j]? =some (x,W)->W x w)->Q a w):z21 P ops (trR ops st w0) Q [] [] env a:=h
theorem z5y(c:Value)(j:Nat):okD ops st j (DIs c):=⟨fun _=>Stays.is c,fun p _ _ _ _=>Is.tstays c p.T,fun _ _ _=>rfl⟩
theorem zAS(f:(Nat->Value)->Value)(j:Nat)(hf:∀y y':Nat->Value,(∀i,z0t ops j i=true->y i=y' i)->f y=f y'):okD ops st j (DAs f):=⟨fun _=>Stays.is _,fun p _ _ _ _=>Is.tstays _ p.T,fun y y' h=>by unfold DAs;rw [hf y y' h]⟩
theorem z7C{V:VP}{j:Nat}(h1:Stays V)(h2:∀p∈st,p.i≠j->z0t ops j p.i=false->z2N p.T V):okD ops st j (DV V):=⟨fun _=>h1,fun p hp hn hw _=>h2 p hp hn hw,fun _ _ _=>rfl⟩
def PutNew(t:TypeId)(s0:Nat)(w w':World):Prop:=∃g cs cs',s0<=g/\Blk w g t cs/\cs'.size=cs.size/\w'=w.setRow g cs'
theorem PutNew.turn{t:TypeId}{s0:Nat}{w w':World}(h:PutNew t s0 w w'):Turn (fun b=>s0<=b) w w':=by
 obtain⟨g,cs,cs',h0,h1,h2,rfl⟩:=h;exact⟨rfl,rfl,rfl,by rw [z2k];exact y5 _,fun b hb hn=>z1T w g cs' b (fun e=>hn (by omega))⟩
def TrP.new(i:Nat)(t:TypeId)(s0:Nat):TrP:=⟨i,fun b=>s0<=b,PutNew t s0,fun _ _ h=>h.turn⟩
def VNew(t:TypeId)(n s0:Nat):VP:=fun v w=>∃g,v= .pointer (some ⟨g,0,none⟩)/\s0<=g/\∃cs,Blk w g t cs/\cs.size=n
theorem VNew.stays{t:TypeId}{n s0:Nat}:Stays (VNew t n s0):=fun v w w' hb ⟨g,h1,h2,cs,h3,h4⟩=>⟨g,h1,h2,cs,h3.later hb,h4⟩
theorem VNew.put{t t':TypeId}{n s0 s1:Nat}:z2N (PutNew t' s1) (VNew t n s0):=fun v w w' ⟨g',ds,ds',h5,h6,h7,e⟩ ⟨g,h1,h2,cs,h3,h4⟩=>by
 subst e;by_cases hg:g=g'
 .subst hg;obtain⟨rfl,rfl⟩:=Blk.same h3 h6;exact⟨g,h1,h2,ds',h6.setRow ds',by omega⟩
 .exact⟨g,h1,h2,cs,(z1T w g' ds' g hg).trans h3,h4⟩
def DSet(k:Nat)(t:TypeId)(s0:Nat)(C:(Nat->Value)->Array Value):DP:=fun y v w=>v=undef/\∃g,y k= .pointer (some ⟨g,0,none⟩)/\s0<=g/\Blk w g t (C y)
def HasB(g:Nat)(t:TypeId)(s0:Nat)(cs:Array Value):VP:=fun v w=>v=undef/\s0<=g/\Blk w g t cs
theorem DSet.has{k g:Nat}{t:TypeId}{s0:Nat}{C:(Nat->Value)->Array Value}{y:Nat->Value}{cs:Array Value}(hk:y k= .pointer (some ⟨g,0,none⟩))(hC:C y=cs):DSet k t s0 C y=HasB g t s0 cs:=by
 funext v w
 apply propext;constructor
 .rintro⟨h1,g',e',h2,h3⟩;rw [hk]at e';injection e' with e'
  injection e' with e'
  injection e' with e'
  subst e' hC;exact⟨h1,h2,h3⟩
 .rintro⟨h1,h2,h3⟩;exact⟨h1,g,hk,h2,by rw [hC];exact h3⟩
theorem DSet.ok{k j:Nat}{t:TypeId}{s0:Nat}{C:(Nat->Value)->Array Value}(hw:z0t ops j k=true)(hC:∀y y':Nat->Value,(∀i,z0t ops j i=true->y i=y' i)->C y=C y')
 (hst:∀p∈st,p.i≠j->z0t ops j p.i=false->∃F:Nat->Prop,p.T=Turn F/\∀g,F g->g<s0):okD ops st j (DSet k t s0 C):=by
 refine⟨fun y v w w' hb ⟨h1,g,h2,h3,h4⟩=>⟨h1,g,h2,h3,h4.later hb⟩,fun p hp hn hw y v w w' hT ⟨h1,g,h2,h3,h4⟩=> ?_,fun y y' h=> ?_⟩
 .obtain⟨F,e,hF⟩:=hst p hp hn hw;rw [e]at hT;exact⟨h1,g,h2,h3,(hT.block g h4.lt fun h=>by have:=hF g h;omega).trans h4⟩
 .unfold DSet;rw [h k hw,hC y y' h]
end
end
section
open Go Go.RowKit
theorem pg_in{Z:Pz}{P:Pgr}{w:World}(p:Pg w Z P):∀i,P.has i=true->0<=i/\i<90:=fun i h=>by
 unfold Pgr.has at h;simp only [Z2,Y9]at h;rcases h with h|h
 .first|exact p.wr.in90 i h|exact p.wr.in90 i h.1|exact p.tb.in90 i h.1
 .first|exact p.wr.in90 i h|exact p.tb.in90 i h.1|exact p.wr.in90 i h.1
theorem zJw{P:Pgr}{c:Int->List UInt8}{i:Int}{x:Pag}(h:P.pg c i=some x):P.has i=true:=by
 unfold Pgr.pg Pgr.page at h;cases hh:P.has i with
 |true=>rfl
 |false=>rw [hh]at h;simp at h
theorem Tg.hpf{w:World}{g:Nat}{Z:Pz}{P:Pgr}{c:Int->List UInt8}(t:Tg w g Z P c):∀i x,P.pg c i=some x->POk x/\0<=i/\i<90:=fun i x h=>⟨pg_ok h,pg_in t.pg i (zJw h)⟩
def chkF(F:Option ChT)(n:Nat):Bool:=match F with
 |none=>false
 |some s=>z2d s.leaves&&decide (s.seen.length=n)
theorem chkT_F(pf:PF)(n:Nat):zHI pf n=chkF (z25 pf 91 [zGX] ⟨[],[],0⟩) n:=rfl
theorem zDf{w:World}{b n:Nat}{f:Int->Option Value}{P:Program}{k:TypeId}(h:MpV P k w b f n){B:Nat}{e:TypeId}{size m:Nat}{v:Value}{xs:List Value}(ho:w.ownsRow B e size v m xs):v.ownBlock≠some b:=fun e'=>by
 rcases ho.2 with⟨rfl,_⟩|⟨g,cap,cur,rfl,_,hh,_⟩
 .simp [Value.ownBlock]at e'
 .simp [Value.ownBlock]at e';subst e';obtain⟨es,cl,h2⟩:=h.isMap;rw [hh]at h2;cases h2
theorem CkSt.leaf{w wr w':World}{bm:Nat}{tv lv iv lv' iv':Value}{td:List Und}{s:ChT}(h:CkSt w wr bm tv lv iv td s){F:Nat->Prop}(hT:Turn F wr w')(hF:∀b,F b->lv.ownBlock=some b∨iv.ownBlock=some b){i:Int}{x:Pag}{u:Value}(hu:∃A k c,u= .slice A k c){d:Nat}
 {us:List Value} (h1:us.length=s.leaves.length) (h2:wr.ownsRow w.heap.size 175 3 lv s.leaves.length (lfC (s.leaves.zip us))) (h5:∀u∈us,∃A k c,u= .slice A k c)
 (h3:w'.ownsRow w.heap.size 175 3 lv' (s.leaves.length+1) (lfC (s.leaves.zip us)++([.bool x.1,.int .i64 (x.2.1:Int),u]:List Value)))
 (h8:w'.ownsRow w.heap.size 3 1 iv' (s.leaves.length+1) (idC s.leaves++([.int .i64 i]:List Value))):CkSt w w' bm tv lv' iv' td ⟨s.leaves++ [(i,x)],s.seen,d⟩:=by
 obtain⟨f,h4,h6⟩:=h.seen;have hlv:=h2;have hne:∀b,F b->w.heap.size<=b:=fun b hb=>by
  rcases hF b hb with e|e
  .exact(h2.lt b e).1
  .exact(h.ids.lt b e).1
 refine⟨z2V h.todo hT fun g hg hb=> ?_,⟨us++ [u],by simp [h1],?_,fun y hy=> ?_⟩,?_,⟨f,h4.at (hT.block bm h4.lt fun hb=> ?_),h6⟩,Turn.below h.below hT h.below.size hne⟩
 .rcases hF g hb with e|e
  .exact z9U h.todo h2 (by decide) g hg e
  .exact z9U h.todo h.ids (by decide) g hg e
 .rw [List.zip_append h1.symm,zFN,y6];exact h3
 .rcases yF.1 hy with hy|hy
  .exact h5 y hy
  .obtain rfl:=yJ.1 hy;exact hu
 .rw [y6];unfold idC at h8 ⊢;rw [Y6];exact h8
 .rcases hF bm hb with e|e
  .exact zDf h4 h2 e
  .exact zDf h4 h.ids e
theorem zJc{l:List (Int×Pag)}{us:List Value}{i:Nat}{yi:Int}{yl:Bool}{yn:Nat}{yc:List Cel}{u:Value}(h:i<l.length)(hu:i<us.length)(hy:l[i]=(yi,yl,yn,yc))(hue:us[i]=u):∀j v,([.bool yl,.int .i64 (yn:Int),u]:List Value)[j]? =some v->(lfC (l.zip us))[i*3+j]? =some v:=by
 intro j v hv;have hz:i<(l.zip us).length:=by rw [List.length_zip];omega
 have e:l.zip us=(l.zip us).take i++((l.zip us)[i]::(l.zip us).drop (i+1)):=by rw [<-yL hz,yT]
 have hl:((l.zip us).take i).length=i:=by rw [yC];omega
 rw [e,zFN,yx (by rw [zFO,hl];omega),zFO,hl,YU];have e2:lfC ((l.zip us)[i]::(l.zip us).drop (i+1))=([.bool yl,.int .i64 (yn:Int),u]:List Value)++lfC ((l.zip us).drop (i+1)):=by
  rw [List.getElem_zip,hy,hue];rfl
 rw [e2,Yh (yg.1 hv).1];exact hv
theorem zJF(a b:Nat):((a:Int)==(b:Int))=decide (a=b):=by
 by_cases h:a=b
 .subst h;simp
 .rw [yZ h,yV.2 (by omega)]
noncomputable def zHi(w:World)(b:Nat):Nat:=Classical.epsilon fun n=>∃f,MpV Tryz.prog 3 w b f n
theorem MpV.cnt{w:World}{b n:Nat}{f:Int->Option Value}(h:MpV Tryz.prog 3 w b f n):zHi w b=n:=by
 obtain⟨f',h'⟩:∃f,MpV Tryz.prog 3 w b f (zHi w b):=QC (p:=fun n=>∃f,MpV Tryz.prog 3 w b f n) ⟨n,f,h⟩;have h1:=h.len z1d zIo 3;rw [h'.len z1d zIo 3]at h1;injection h1 with h1
 injection h1 with _ h1
 omega
def zJ8(b:Bool)(w:World)(e:Ending)(w':World):Prop:=e= .returned (.bool b)/\Below w.heap.size w w'
def opP(P:Pgr):Pgr:=if P.pages.length=0 then P.wp 0 (true,0,[])else P
def z51(Z:Pz)(P:Pgr)(c:Int->List UInt8)(w:World)(e:Ending)(w':World):Prop:=
 Ptp Z w Z w'/\Pg w' Z (opP P)/\Kin P (opP P)/\((zHI ((opP P).pg c) (opP P).pages.length=true/\∃g,w.heap.size<=g/\e= .returned (.tuple #[.pointer (some ⟨g,0,none⟩),.int .i64 0])/\Tg w' g Z (opP P) c)∨
  (zHI ((opP P).pg c) (opP P).pages.length=false/\e= .returned (.tuple #[.pointer none,.int .i64 142])))
theorem zJo:Mid []:=⟨by simp,fun c h=>by cases h⟩
end
end Go.Proofs.YthnlcbamjehpdaaGreatDoor
