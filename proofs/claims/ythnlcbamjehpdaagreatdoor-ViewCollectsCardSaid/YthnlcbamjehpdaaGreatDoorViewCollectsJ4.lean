/- Part 4. -/
import Derived.Test.YthnlcbamjehpdaaGreatDoorViewCollectsJ3
import Derived.StillTailTactics
import Derived.BigRegion
import Derived.IntWalk
import Derived.Laws.EntriesVeiled
import Derived.Lib.TrailingZeros
namespace Go.Proofs.YthnlcbamjehpdaaGreatDoor
set_option linter.unusedVariables false
set_option maxHeartbeats 16000000
set_option maxRecDepth 100000
section
open Go Go.RowKit Tryz
def Ow(e:TypeId)(w:World)(B:Nat)(v:Value)(xs:List Value):Prop:=w.ownsRow B e 1 v xs.length xs
section
variable {e:TypeId} {w w':World} {B:Nat} {v:Value} {xs:List Value}
theorem Ow.nil(e:TypeId)(w:World)(B:Nat):Ow e w B (.slice none 0 0) []:=Ya w B e 1
theorem Ow.later(h:Ow e w B v xs)(hb:Below w.heap.size w w'):Ow e w' B v xs:=by
 obtain⟨h1,h2⟩:=h;refine⟨h1,?_⟩;rcases h2 with h2|⟨g,cap,cur,hv,hg,hh,r⟩
 .exact .inl h2
 .exact .inr ⟨g,cap,cur,hv,hg,(hb.block g (lt_of_block hh)).trans hh,r⟩
theorem Ow.open(h:Ow e w B v xs)(hl:0<xs.length):∃g c,v= .slice (some ⟨g,0,none⟩) xs.length c/\B<=g/\g<w.heap.size/\(∀j (hj:j<xs.length),w.cell? ⟨g,j,none⟩=some xs[j])/\∀j,w.frozen? ⟨g,j,none⟩=false:=by
 have h0:=h;rcases h.2 with⟨_,h2⟩|⟨g,cap,cur,rfl,hb,hh,_⟩
 .omega
 .refine⟨g,cap,rfl,hb,lt_of_block hh,fun j hj=> ?_,fun j=>World.ownsRow.frozenAt h0 j⟩;rw [World.ownsRow.cellAt h0 j (by omega),yK hj]
theorem Ow.shape(h:Ow e w B v xs):∃A c,v= .slice A xs.length c/\(0<xs.length->∃g,A=some ⟨g,0,none⟩/\B<=g/\g<w.heap.size/\∀j (hj:j<xs.length),w.cell? ⟨g,j,none⟩=some xs[j]):=by
 obtain⟨A,k,c,rfl⟩:=z0v h;obtain rfl:=z0h h;refine⟨A,c,rfl,fun hl=> ?_⟩;obtain⟨g,c',hv,hB,hlt,hc,_⟩:=h.open hl;injection hv with hA
 exact⟨g,hA,hB,hlt,hc⟩
end
def bl(l:List Bool):List Value:=l.map .bool
def il(l:List Nat):List Value:=l.map fun(n:Nat)=>Value.int .i64 (n:Int)
theorem z8M(l:List Nat):(il l).length=l.length:=by simp [il]
def z0G(w:World)(b:Nat):Option (Option TypeId):=match w.heap[b]? with
 |some (.cells _ t _)=>some (some t)
 |some (.map _ _)=>some none
 |_=>none
theorem z0I{w:World}{g:Nat}{t:TypeId}{cs:Array Value}(h:Blk w g t cs):z0G w g=some (some t):=by unfold Blk at h;unfold z0G;rw [h]
theorem z2T{w:World}{base:Nat}{e:TypeId}{size n:Nat}{v:Value}{xs:List Value}(h:w.ownsRow base e size v n xs){b:Nat}(hb:v.ownBlock=some b):z0G w b=some (some e):=by
 rcases h.2 with⟨rfl,_⟩|⟨g,cap,cur,rfl,_,hh,_⟩
 .cases hb
 .simp only [Value.ownBlock,YH]at hb;subst hb;unfold z0G;rw [hh]
theorem z5a{w:World}{b:Nat}{t:Option TypeId}(h:z0G w b=some t):b<w.heap.size:=by
 rcases Y5 b w.heap.size with h1|h1
 .exact h1
 .unfold z0G at h;rw [YK h1]at h;cases h
theorem zHZ(w:World)(t:TypeId)(cs:Array Value):z0G (w.alloc (.cells cs t)) w.heap.size=some (some t):=z0I (Blk.new w t cs)
theorem zJY{w w':World}{b:Nat}{t:Option TypeId}(h:w'.heap[b]? =w.heap[b]?)(hk:z0G w b=some t):z0G w' b=some t:=by unfold z0G at hk ⊢;rw [h];exact hk
def KSl(e:TypeId)(size:Nat)(w:World)(v:Value)(n:Nat)(xs:List Value):Prop:=Sl (fun b=>z0G w b=some (some e)) w size v n xs
section
variable {e:TypeId} {size n:Nat} {w w':World} {v:Value} {xs:List Value}
theorem KSl.keep(h:KSl e size w v n xs)(hk:∀b,z0G w b=some (some e)->w'.heap[b]? =w.heap[b]?):KSl e size w' v n xs:=by
 obtain⟨h1,A,c,h2,h3,h4,h5,h6⟩:=h;refine⟨h1,A,c,h2,h3,h4,h5,fun hl=> ?_⟩;obtain⟨b,o,hA,hs,hc⟩:=h6 hl;have hb:=hk b hs;refine⟨b,o,hA,zJY hb hs,fun j u hu=> ?_⟩;rw [yR (a:=⟨b,o+j,none⟩) hb];exact hc j u hu
theorem KSl.later(h:KSl e size w v n xs)(hb:Below w.heap.size w w'):KSl e size w' v n xs:=h.keep fun b hk=>hb.block b (z5a hk)
theorem KSl.of_own{base:Nat}(hsz:0<size)(h:w.ownsRow base e size v n xs):KSl e size w v n xs:=by
 have hs:=Sl.of_own hsz h;rcases h.2 with⟨rfl,hn⟩|⟨g,cap,cur,rfl,hB,hh,_⟩
 .obtain⟨h1,A,c,h2,h3,h4,h5,h6⟩:=hs;exact⟨h1,A,c,h2,h3,h4,h5,fun hl=>by omega⟩
 .obtain⟨h1,A,c,h2,h3,h4,h5,h6⟩:=hs;refine⟨h1,A,c,h2,h3,h4,h5,fun hl=> ?_⟩;obtain⟨b,o,hA,_,hc⟩:=h6 hl;injection h2 with hA2
  rw [hA]at hA2;injection hA2 with hA2
  injection hA2 with hb
  subst hb;exact⟨g,o,hA,z0I (t:=e) (cs:=cur) hh,hc⟩
theorem KSl.lt(h:KSl e size w v n xs):Sl (fun b=>b<w.heap.size) w size v n xs:=Sl.more h fun _ hk=>z5a hk
theorem KSl.new(w:World)(e:TypeId)(size:Nat)(hsz:0<size)(cs:Array Value)(n:Nat)(hn:0<n)(hm:n<=maxLen)(hc:cs.size=n*size){g:Nat}(hg:g=w.heap.size):
 KSl e size (w.alloc (.cells cs e)) (.slice (some ⟨g,0,none⟩) n n) n cs.toList:=by
 subst hg;refine⟨by simpa using hc,_,n,rfl,y5 _,hm,(fun h=>by cases h),fun _=>⟨_,0,rfl,zHZ _ _ _,fun j u hu=> ?_⟩⟩;rw [ZC,Y4];simpa using hu
end
theorem z1d:Tryz.prog.underlying 3=some (.int .i64):=underlying3
theorem z5j:Tryz.prog.underlying 142=some (.map 3 78):=underlying142
theorem z3f(w:World):(zeroValue 78).run prog w= .ok (.slice none 0 0) w:=by kernel_rfl
theorem z2S{P:Program}{k:TypeId}{w:World}{b n:Nat}{f:Int->Option Value}(h:MpV P k w b f n):z0G w b=some none:=by
 obtain⟨es,c,hb⟩:=h.isMap;unfold z0G;rw [hb]
theorem zBL{w:World}{B b:Nat}(h:UbS w B b):z0G w b=some (some 5):=by
 obtain⟨_,cs,fz,hh⟩:=h;unfold z0G;rw [hh]
theorem Ub.other{w w':World}{B:Nat}{v:Value}{l:List UInt8}(h:Ub w B v l){z:Nat}(hz:z0G w z≠some (some 5))(hg:w.grownBy w' (some z)):Ub w' B v l:=
 h.keep fun b hb=>hg.block b (by obtain⟨_,cs,fz,hh⟩:=hb;exact lt_of_block hh) (fun e=>by
  injection e with e
  subst e;exact hz (zBL hb))
theorem MpV.other{P:Program}{k:TypeId}{w w':World}{b n:Nat}{f:Int->Option Value}(h:MpV P k w b f n){z:Nat}(hz:b≠z)(hg:w.grownBy w' (some z)):MpV P k w' b f n:=
 h.at (hg.block b h.lt (fun e=>hz (by injection e)))
theorem Ow.other{e:TypeId}{w w':World}{B:Nat}{v:Value}{xs:List Value}(h:Ow e w B v xs){z:Nat}(hz:v.ownBlock≠some z)(hg:w.grownBy w' (some z)):Ow e w' B v xs:=by
 obtain⟨h1,h2⟩:=h;refine⟨h1,?_⟩;rcases h2 with h2|⟨g,cap,cur,hv,hB,hh,r⟩
 .exact .inl h2
 .refine .inr ⟨g,cap,cur,hv,hB,?_,r⟩;exact(hg.block g (lt_of_block hh) (fun e=>hz (by rw [hv];exact e))).trans hh
def SecV(w:World)(v:Option Value)(l:Option (List UInt8)):Prop:=match v,l with
 |none,none=>True
 |some v,some l=>Ub w 0 v l
 |_,_=>False
def Secs(w:World)(b:Nat)(f:SF)(n:Nat):Prop:=∃m,MpV prog 3 w b m n/\∀a,InI a->SecV w (m a) (f a)
theorem SecV.keep{w w':World}{v:Option Value}{l:Option (List UInt8)}(h:SecV w v l)(hk:∀v l,Ub w 0 v l->Ub w' 0 v l):SecV w' v l:=by
 unfold SecV at h ⊢;cases v<;>cases l<;>simp_all
theorem SecV.some_iff{w:World}{v:Option Value}{l:Option (List UInt8)}(h:SecV w v l):v.isSome=l.isSome:=by
 unfold SecV at h;cases v<;>cases l<;>simp_all
theorem Secs.later{w w':World}{b n:Nat}{f:SF}(h:Secs w b f n)(hb:Below w.heap.size w w'):Secs w' b f n:=by
 obtain⟨m,h1,h2⟩:=h;exact⟨m,h1.later hb,fun a ha=>(h2 a ha).keep fun _ _ h=>h.later hb⟩
theorem Secs.other{w w':World}{b n:Nat}{f:SF}(h:Secs w b f n){z:Nat}(hz:b≠z)(hz2:z0G w z≠some (some 5))(hg:w.grownBy w' (some z)):Secs w' b f n:=by
 obtain⟨m,h1,h2⟩:=h;exact⟨m,h1.other hz hg,fun a ha=>(h2 a ha).keep fun _ _ h=>h.other hz2 hg⟩
theorem Secs.kind{w:World}{b n:Nat}{f:SF}(h:Secs w b f n):z0G w b=some none:=by
 obtain⟨m,h1,_⟩:=h;exact z2S h1
theorem Secs.lt{w:World}{b n:Nat}{f:SF}(h:Secs w b f n):b<w.heap.size:=by
 obtain⟨m,h1,_⟩:=h;exact h1.lt
theorem Secs.made(w:World):Secs (w.alloc (.map #[] 0)) w.heap.size (fun _=>none) 0:=⟨_,MpV.made _ _ w,fun _ _=>trivial⟩
structure Turn(F:Nat->Prop)(w w':World):Prop where
 os:w'.os=w.os
 tape:w'.tape=w.tape
 output:w'.output=w.output
 size:w.heap.size<=w'.heap.size
 block:∀b,b<w.heap.size->¬F b->w'.heap[b]? =w.heap[b]?
theorem Turn.refl(F:Nat->Prop)(w:World):Turn F w w:=⟨rfl,rfl,rfl,y5 _,fun _ _ _=>rfl⟩
theorem Turn.of_below{F:Nat->Prop}{w w':World}(h:Below w.heap.size w w'):Turn F w w':=⟨h.os,h.tape,h.output,h.size,fun b hb _=>h.block b hb⟩
theorem Turn.of_grown{F:Nat->Prop}{w w':World}{row:Option Nat}(h:w.grownBy w' row)(hr:∀z,row=some z->F z):Turn F w w':=
 ⟨h.os,h.tape,h.output,h.size,fun b hb hF=>h.block b hb (fun e=>hF (hr b e.symm))⟩
theorem Turn.trans{F F':Nat->Prop}{w w1 w2:World}(h:Turn F w w1)(k:Turn F' w1 w2)(hF:∀b,F' b->F b∨w.heap.size<=b):Turn F w w2:=
 ⟨k.os.trans h.os,k.tape.trans h.tape,k.output.trans h.output,yD h.size k.size,fun b hb hn=>
   (k.block b (yE hb h.size) (fun e=>by rcases hF b e with h1|h1;exact hn h1;omega)).trans (h.block b hb hn)⟩
theorem Turn.mono{F F':Nat->Prop}{w w':World}(h:Turn F w w')(hF:∀b,F b->b<w.heap.size->F' b):Turn F' w w':=⟨h.os,h.tape,h.output,h.size,fun b hb hn=>h.block b hb (fun e=>hn (hF b e hb))⟩
theorem Turn.below{F:Nat->Prop}{B:Nat}{w0 w w':World}(h:Below B w0 w)(k:Turn F w w')(hB:B<=w.heap.size)(hF:∀b,F b->B<=b):Below B w0 w':=
 ⟨k.os.trans h.os,k.tape.trans h.tape,k.output.trans h.output,yD h.size k.size,fun b hb=>
   (k.block b (yE hb hB) (fun e=>by have:=hF b e;omega)).trans (h.block b hb)⟩
theorem Turn.setCell{F:Nat->Prop}{w w':World}(h:Turn F w w'){p:Addr}(hp:F p.block∨w.heap.size<=p.block)(u:Value):Turn F w (w'.setCell p u):=
 ⟨h.os,h.tape,h.output,by simpa using h.size,fun b hb hn=>(Yd w' p u b (fun e=>by subst e;rcases hp with h1|h1;exact hn h1;omega)).trans (h.block b hb hn)⟩
theorem Turn.alloc{F:Nat->Prop}{w w':World}(h:Turn F w w')(o:Obj):Turn F w (w'.alloc o):=
 h.trans (F':=fun _=>False) (Turn.of_below ((y7 _ _).alloc (y5 _) o)) (fun _ h=>h.elim)
theorem Turn.drew{F:Nat->Prop}{w w':World}(h:Turn F w w'):Turn F w w'.drew:=⟨h.os,h.tape,h.output,h.size,h.block⟩
theorem Blk.turn{F:Nat->Prop}{w w':World}{g:Nat}{t:TypeId}{cs:Array Value}(h:Blk w g t cs)(k:Turn F w w')(hF:¬F g):Blk w' g t cs:=(k.block g h.lt hF).trans h
structure Zn where
 g:Nat
 bv:Nat
 bg:Nat
 pv:Value
def Zn.has(h:Zn)(b:Nat):Prop:=b=h.g∨b=h.bv∨b=h.bg∨h.pv.ownBlock=some b
def PnIs(w:World)(v:Value):Pnd->Prop
 | .wr a b=>∃ga A c,v= .func (Fn.func 196) #[] #[.pointer (some ⟨ga+1,0,none⟩),.pointer (some ⟨ga,0,none⟩)]/\Blk w ga 3 #[.int .i64 a]/\Blk w (ga+1) 78 #[.slice A b.length c]/\Ub w 0 (.slice A b.length c) b
 | .fr a=>∃ga,v= .func (Fn.func 187) #[] #[.pointer (some ⟨ga,0,none⟩)]/\Blk w ga 3 #[.int .i64 a]
def z2j:List TypeId:= [3,78,5]
theorem PnIs.later{w w':World}{v:Value}{p:Pnd}(h:PnIs w v p)(hb:Below w.heap.size w w'):PnIs w' v p:=by
 cases p with
 |wr a b=>
  obtain⟨ga,A,c,h1,h2,h3,h4⟩:=h;exact⟨ga,A,c,h1,h2.later hb,h3.later hb,h4.later hb⟩
 |fr a=>
  obtain⟨ga,h1,h2⟩:=h;exact⟨ga,h1,h2.later hb⟩
theorem PnIs.other{w w':World}{v:Value}{p:Pnd}(h:PnIs w v p){z:Nat}(hz:∀t∈z2j,z0G w z≠some (some t))(hg:w.grownBy w' (some z)):PnIs w' v p:=by
 have key:∀ {g:Nat} {t:TypeId} {cs:Array Value},Blk w g t cs->t∈z2j->Blk w' g t cs:=fun hb ht=>hb.grown hg (fun e=>by
  injection e with e
  subst e;exact hz _ ht (z0I hb))
 cases p with
 |wr a b=>
  obtain⟨ga,A,c,h1,h2,h3,h4⟩:=h;exact⟨ga,A,c,h1,key h2 (by simp [z2j]),key h3 (by simp [z2j]),h4.other (hz _ (by simp [z2j])) hg⟩
 |fr a=>
  obtain⟨ga,h1,h2⟩:=h;exact⟨ga,h1,key h2 (by simp [z2j])⟩
def PnL(w:World)(vs:List Value)(ps:List Pnd):Prop:=vs.length=ps.length/\∀ (i:Nat) v p,vs[i]? =some v->ps[i]? =some p->PnIs w v p
theorem PnL.keep{w w':World}{vs:List Value}{ps:List Pnd}(h:PnL w vs ps)(hk:∀v p,PnIs w v p->PnIs w' v p):PnL w' vs ps:=⟨h.1,fun i v p h1 h2=>hk v p (h.2 i v p h1 h2)⟩
theorem PnL.nil(w:World):PnL w [] []:=⟨rfl,fun i v p h=>by simp at h⟩
theorem PnL.snoc{w:World}{vs:List Value}{ps:List Pnd}(h:PnL w vs ps){v:Value}{p:Pnd}(hv:PnIs w v p):PnL w (vs++ [v]) (ps++ [p]):=by
 refine⟨by rw [y6,y6,h.1];rfl,fun i u q h1 h2=> ?_⟩;rcases Y5 i vs.length with hi|hi
 .rw [Yh hi]at h1;rw [Yh (by rw [<-h.1];exact hi)]at h2;exact h.2 i u q h1 h2
 .rw [yx hi]at h1;rw [yx (by rw [<-h.1];exact hi)]at h2;rw [h.1]at h1;rcases Y3 (i-ps.length)with h0|h0
  .rw [h0]at h1 h2;simp only [ZR,YH]at h1 h2;subst h1 h2;exact hv
  .rw [ZE (by simp;omega)]at h1;cases h1
structure Dk(w:World)(h:Zn)(D:Dsk):Prop where
 blk:Blk w h.g 145 #[.int .i64 D.size,.int .i64 D.limit,.map (some h.bv),.map (some h.bg),h.pv]
 view:Secs w h.bv D.view D.nv
 ground:Secs w h.bg D.ground D.ng
 ne:h.bv≠h.bg
 pend:∃vs,Ow 288 w 0 h.pv vs/\PnL w vs D.pend
theorem Dk.later{w w':World}{h:Zn}{D:Dsk}(d:Dk w h D)(hb:Below w.heap.size w w'):Dk w' h D:=by
 obtain⟨vs,h1,h2⟩:=d.pend;exact⟨d.blk.later hb,d.view.later hb,d.ground.later hb,d.ne,vs,h1.later hb,h2.keep fun _ _ h=>h.later hb⟩
theorem Dk.kinds{w:World}{h:Zn}{D:Dsk}(d:Dk w h D){b:Nat}(hb:h.has b):z0G w b=some (some 145)∨z0G w b=some none∨z0G w b=some (some 288):=by
 obtain⟨vs,h1,_⟩:=d.pend;rcases hb with rfl|rfl|rfl|hb
 .exact .inl (z0I d.blk)
 .exact .inr (.inl d.view.kind)
 .exact .inr (.inl d.ground.kind)
 .exact .inr (.inr (z2T h1 hb))
theorem Dk.lt{w:World}{h:Zn}{D:Dsk}(d:Dk w h D){b:Nat}(hb:h.has b):b<w.heap.size:=by
 obtain⟨vs,h1,_⟩:=d.pend;rcases hb with rfl|rfl|rfl|hb
 .exact d.blk.lt
 .exact d.view.lt
 .exact d.ground.lt
 .rcases h1.2 with⟨h2,_⟩|⟨g,cap,cur,h2,_,hh,_⟩
  .rw [h2]at hb;cases hb
  .rw [h2]at hb;simp only [Value.ownBlock,YH]at hb;subst hb;exact lt_of_block hh
structure Stp(h:Zn)(w:World)(h':Zn)(w':World):Prop where
 g:h'.g=h.g
 turn:Turn h.has w w'
 has:∀b,h'.has b->h.has b∨w.heap.size<=b
theorem Stp.refl(h:Zn)(w:World):Stp h w h w:=⟨rfl,Turn.refl _ _,fun _ h=> .inl h⟩
theorem Stp.below{h:Zn}{w w':World}(hb:Below w.heap.size w w'):Stp h w h w':=⟨rfl,Turn.of_below hb,fun _ h=> .inl h⟩
theorem Stp.trans{h h1 h2:Zn}{w w1 w2:World}(a:Stp h w h1 w1)(b:Stp h1 w1 h2 w2):Stp h w h2 w2:=
 ⟨b.g.trans a.g,a.turn.trans b.turn a.has,fun x hx=>by
   rcases b.has x hx with h3|h3
   .exact a.has x h3
   .exact .inr (yD a.turn.size h3)⟩
theorem Stp.blk{h h':Zn}{w w':World}{D:Dsk}(s:Stp h w h' w')(d:Dk w h D){g:Nat}{t:TypeId}{cs:Array Value}(hb:Blk w g t cs)(h1:t≠145)(h2:t≠288):Blk w' g t cs:=
 hb.turn s.turn fun e=>by
  have hk:=z0I hb;rcases d.kinds e with h3|h3|h3
  .rw [hk]at h3;injection h3 with h3;injection h3 with h3;exact h1 h3
  .rw [hk]at h3;injection h3 with h3;cases h3
  .rw [hk]at h3;injection h3 with h3;injection h3 with h3;exact h2 h3
theorem Stp.ub{h h':Zn}{w w':World}{D:Dsk}(s:Stp h w h' w')(d:Dk w h D){B:Nat}{v:Value}{l:List UInt8}(hb:Ub w B v l):Ub w' B v l:=
 hb.keep fun b hb=>s.turn.block b (by obtain⟨_,cs,fz,hh⟩:=hb;exact lt_of_block hh) fun e=>by
  have hk:=zBL hb;rcases d.kinds e with h3|h3|h3
  .rw [hk]at h3;revert h3;decide
  .rw [hk]at h3;injection h3 with h3;cases h3
  .rw [hk]at h3;revert h3;decide
theorem zC2(a:Int)(A:Option Addr)(c:Nat)(b:List UInt8)(w:World)(hu:Ub w 0 (.slice A b.length c) b):
 Calls prog 185 #[.int .i64 a,.slice A b.length c] w fun e w'=>∃v,e= .returned v/\PnIs w' v (.wr a b)/\Below w.heap.size w w':=by
 have hmf:=z0N prog;have b1:Blk ((w.alloc (.cells #[.int .i64 a] 3)).alloc (.cells #[.slice A b.length c] 78)) w.heap.size 3 #[.int .i64 a]:=(Blk.new _ _ _).alloc _;have b2:Blk ((w.alloc (.cells #[.int .i64 a] 3)).alloc (.cells #[.slice A b.length c] 78)) (w.heap.size+1) 78 #[.slice A b.length c]:=by
  have:=Blk.new (w.alloc (.cells #[.int .i64 a] 3)) 78 #[.slice A b.length c];simpa using this
 have q:Below w.heap.size w ((w.alloc (.cells #[.int .i64 a] 3)).alloc (.cells #[.slice A b.length c] 78)):=((y7 _ _).alloc (y5 _) _).alloc (by simp) _;have HU:=zz (hu.later q);clear hu;go_enter func185,ntmps185
 go_wp2_with fail
 go_ret
 exact⟨_,rfl,⟨_,A,c,rfl,b1,b2,HU.out⟩,q⟩
theorem zBH(a:Int)(w:World):
 Calls prog 170 #[.int .i64 a] w fun e w'=>∃v,e= .returned v/\PnIs w' v (.fr a)/\Below w.heap.size w w':=by
 have hmf:=z0N prog;go_enter func170,ntmps170
 go_wp2_with fail
 go_ret
 exact⟨_,rfl,⟨_,rfl,Blk.new _ _ _⟩,(y7 _ _).alloc (y5 _) _⟩
theorem zF3(ga:Nat)(a:Int)(bm n0:Nat)(f:SF)(n:Int)(w:World)(hga:Blk w ga 3 #[.int .i64 a])(hs:Secs w bm f n0)(ha:InI a):
 Calls prog 187 #[.map (some bm),.int .i64 n,.pointer (some ⟨ga,0,none⟩)] w fun e w'=>e= .returned (.tuple #[])/\Secs w' bm (f.del a) (f.nDel n0 a)/\w.grownBy w' (some bm):=by
 obtain⟨m,hm,hr⟩:=hs;obtain⟨w',hrun,hm',ht⟩:=hm.del z1d z5j ha 0;have c0:w.cell? ⟨ga,0,none⟩=some (.int .i64 a):=hga.cell 0;have HR:=zz hr;have HM:=zz hm';have HT:=zz ht;have HK:=zz (z2S hm);have HI:=zz ha;have HN:Hid (nDel m n0 a=f.nDel n0 a):=by
  unfold nDel SF.nDel;rw [Hid,(hr a ha).some_iff]
 clear hr hm' ht hm hga ha;go_enter func187,ntmps187
 go_wp2_with fail
 go_end0
 refine⟨rfl,⟨_,by rw [<-HN.out];exact HM.out,fun x hx=> ?_⟩,HT.out.grown⟩;unfold SF.del;by_cases hxa:x=a
 .simp only [hxa,YN];trivial
 .simp only [hxa,yv];exact(HR.out x hx).keep fun _ _ h=>h.other (by rw [HK.out];simp) HT.out.grown
theorem z2Z{w w1 w2:World}{z:Nat}(h:Below w.heap.size w w1)(k:w1.grownBy w2 (some z)):w.grownBy w2 (some z):=
 ⟨k.os.trans h.os,k.tape.trans h.tape,k.output.trans h.output,yD h.size k.size,fun i hi hne=>(k.block i (yE hi h.size) hne).trans (h.block i hi)⟩
theorem Secs.put{w w3:World}{bm n0:Nat}{m:Int->Option Value}{f:SF}{a:Int}{v:Value}{l:List UInt8}(hr:∀x,InI x->SecV w (m x) (f x))(hm3:MpV prog 3 w3 bm (fun x=>if x=a then some v else m x) (nPut m n0 a))(ht:w.mapTurned w3 bm)
 (hv:Ub w 0 v l) (ha:InI a) (hk:z0G w bm=some none):Secs w3 bm (f.put a l) (f.nPut n0 a):=by
 have e:nPut m n0 a=f.nPut n0 a:=by unfold nPut SF.nPut;rw [(hr a ha).some_iff]
 refine⟨_,e▸hm3,fun x hx=> ?_⟩;unfold SF.put;by_cases hxa:x=a
 .simp only [hxa,YN];exact hv.other (by rw [hk];simp) ht.grown
 .simp only [hxa,yv];exact(hr x hx).keep fun _ _ h=>h.other (by rw [hk];simp) ht.grown
theorem SecV.get{w:World}{v:Option Value}{l:Option (List UInt8)}(h:SecV w v l):∃A c,v.getD (.slice none 0 0)= .slice A (l.getD []).length c/\Ub w 0 (.slice A (l.getD []).length c) (l.getD []):=by
 unfold SecV at h;cases v with
 |none=>
  cases l with
  |none=>exact⟨none,0,rfl,Sl.nil⟩
  |some l=>exact h.elim
 |some v=>
  cases l with
  |none=>exact h.elim
  |some l=>
   obtain⟨A,c,rfl,_⟩:=Ub.bs h |>.at;exact⟨A,c,rfl,h⟩
theorem z9X{P:Program}(w:World){t e:TypeId}{z:Value}{bytes:Nat}(E:Elem P t e z 1 bytes){A:Option Addr}{m c:Nat}(_:True)(hmc:(m:Int)<=(c:Int))(n:Nat):
 (Instr.sliceAt t (.slice A n c) none (some (.int .i64 (m:Int))) none).run P w= .ok (.slice (if c=0 then A else A.map (·.add 0)) m c) w:=by
 obtain⟨i,hi0,hz,hs,hby⟩:=E.info;simp [Instr.sliceAt,Instr.slice,Instr.sliceBounds,Instr.sliceBound,run_underlying E.under,sizeOf,typeInfo,hi0,asIntOf];intro h;omega
theorem z1K{P:Program}(w:World){ops:Array Oper}{rest:List Oper}{o:Oper}{a:Act}{Q:Exit->Act->World->Prop}(hgd:o.guard=none)(x hi:Operand){t e:TypeId}{z:Value}{bytes:Nat}(E:Elem P t e z 1 bytes)
 (ho:o.op= .slice t x none (some hi) none) {S:Nat->Prop} {l:List UInt8} {A:Option Addr} {c m:Nat} (hb:Bs S w (.slice A l.length c) l) (hx:a.eval x= .slice A l.length c) (hh:a.eval hi= .int .i64 (m:Int)) (hm:m<=l.length)
 (h:∀A',Bs S w (.slice A' m c) (l.take m)->wpList P ops Q rest (a.put o.dst (.slice A' m c)) w):wpList P ops Q (o::rest) a w:=by
 refine wpList_plain hgd fun K hK=> ?_
 obtain⟨i,hi0,hz,hs,hby⟩:=E.info;obtain⟨A1,c1,hv,h3,h4,h5,h6⟩:=hb.at;injection hv with hA _ hc
 subst hA hc;have hl:(l.take m).length=m:=by rw [yC];omega
 have hh':True:=trivial;have key:∀A',(c=0->A'=A)->(c≠0->A'=A.map (·.add 0))->Bs S w (.slice A' m c) (l.take m):=by
  intro A' g1 g2;have:=Bs.mk_ (S:=S) (w:=w) (l:=l.take m) (A:=A') (c:=c) (by omega) h4 (fun e0=>by
   by_cases hc0:c=0
   .exact hc0
   .have:=g2 hc0;rw [e0]at this;cases A with
    |none=>exact h5 rfl
    |some ad=>cases this) (fun hn=>by
   obtain⟨b,o',hA,hS,hcell⟩:=h6 (by omega);refine⟨b,o',?_,hS,fun j hj=> ?_⟩
   .rw [g2 (by omega),hA];simp [z0U]
   .rw [hcell j (by omega),Qb])
  rwa [hl]at this
 have hrun:=z9X (P:=P) w E (A:=A) hh' (show(m:Int)<=(c:Int) by omega) l.length;unfold Oper.wp;simp [execOp,ho,hx,hh,hrun,Result.andThen];refine hK _ _ (h _ (key _ (fun e=>yB e) (fun e=>yA e)))
theorem zIU(ga gb:Nat)(A:Option Addr)(c:Nat)(a:Int)(b:List UInt8)(bm n0:Nat)(f:SF)(n:Int)(N:Nat)(w:World)(hga:Blk w ga 3 #[.int .i64 a])(hgb:Blk w gb 78 #[.slice A b.length c])(hub:Ub w 0 (.slice A b.length c) b)
 (hs:Secs w bm f n0) (hn0:n0<=65536) (ha:InI a) (hb:b.length<=512) (ho:((f a).getD []).length<=512) (hcase:(n<0/\N=0)∨n=(N:Int)) (hN:N<=9223372036854775807):
 Calls prog 196 #[.map (some bm),.int .i64 n,.pointer (some ⟨gb,0,none⟩),.pointer (some ⟨ga,0,none⟩)] w fun e w'=>e= .returned (.tuple #[])/\Secs w' bm (f.put a (z3U b ((f a).getD []) (N:Int))) (f.nPut n0 a)/\w.grownBy w' (some bm):=by
 obtain⟨m,hm,hr⟩:=hs;obtain⟨Ao,co,hmo,huo⟩:=(hr a ha).get;obtain⟨o,hoe⟩:∃o,(f a).getD []=o:=⟨_,rfl⟩;rw [hoe]at hmo huo ho ⊢;have c0:w.cell? ⟨ga,0,none⟩=some (.int .i64 a):=hga.cell 0;have cb:w.cell? ⟨gb,0,none⟩=some (.slice A b.length c):=hgb.cell 0;obtain⟨_,_,hv0,hlc,hcm,_,hA⟩:=hub.bs.at;injection hv0 with hA0 _ hc0
 subst hA0 hc0;obtain⟨_,_,hv0,hloc,hocm,_,hAo⟩:=huo.bs.at;injection hv0 with hA0 _ hc0
 subst hA0 hc0;have hgaL:=hga.lt;have hgbL:=hgb.lt;have HU:=zz hub;have HUO:=zz huo;have HR:=zz hr;have HM:=zz hm;have HI:=zz ha;have HMO:=zz hmo;have HAO:=zz hAo;have hr3:N<b.length/\N<o.length∨N<b.length/\¬N<o.length∨N=b.length∨b.length<N:=by omega
 clear hub huo hr hm ha hmo hga hgb hA hAo hoe;have hgl:=hgaL;have c00:=c0;have hmax:(if n<0 then(0:Int)else n)=(N:Int):=by
  rcases hcase with⟨h0,rfl⟩|rfl
  .rw [yB h0];rfl
  .rw [yA (by omega)]
 clear hcase;rcases hr3 with⟨h1,h2⟩|⟨h1,h2⟩|h1|h1
 .have HTB:Hid (z3U b o (N:Int)=b.take N++o.drop N):=by unfold z3U;rw [Hid,Yb,yB h1]
  obtain⟨bo,oo,rfl,_,_⟩:=HAO.out (by omega);have hkc:¬co=N:=by omega
  have HC:Hid (Bs (UbS w 0) w (.slice (some ⟨bo,oo+N,none⟩) (o.length-N) (co-N)) (o.drop N)):=by
   have:=Bs.cut HUO.out (show N<=o.length by omega);rw [yA hkc]at this;exact this
  have hmb:N<=b.length:=by omega
  have i1:(N:Int)<(b.length:Int):=by omega
  have i2:¬ (b.length:Int)<(N:Int):=by omega
  have i3:(N:Int)<=(b.length:Int):=by omega
  have i4:(N:Int)<=(c:Int):=by omega
  have i5:(N:Int)<(o.length:Int):=by omega
  have i6:(N:Int)<=(o.length:Int):=by omega
  have i7:(o.length:Int)<=(co:Int):=by omega
  have i0:¬ (N:Int)<0:=by omega
  have i9:(0:Int)<=(N:Int):=by omega
  go_enter func196,ntmps196
  go_wp2_with (first
   |(refine z1K _ rfl (.tmp 14) (.tmp 15) z0p rfl (Sl.alloc1 HU.out _) rfl rfl hmb ?_;intro A9 HP9)
   |(at_builtin;refine z02 _ rfl (.tmp 13) (.tmp 16) z0p rfl (Ob.made _ _ w.heap.size (y5 _) (by simp)) HP9 rfl rfl (by simp only [yW,yC];omega) (by simp) ?_;intro A1 k1 c1 w1 hown1 hga1 hat1;have qa:Below w.heap.size w w1:=z01 ((y7 _ _).alloc (y5 _) _) (Ob.made _ _ w.heap.size (y5 _) (by simp)) hga1 (by simp);have hlk:=(HM.out.later qa).look1 z1d z5j (z3f w1) HI.out;rw [HMO.out]at hlk;have c0:=yN qa c0;have cb:=yN qa cb)
   |(at_builtin;refine z02 _ rfl (.tmp 31) (.tmp 34) z0p rfl hown1 (Bs.later HC.out qa) rfl rfl (by simp only [yz,yC,yI];omega) qa.size ?_;intro A2 k2 c2 w2 hown2 hga2 hat2;have qb:Below w.heap.size w w2:=z01 qa hown1 hga2 qa.size;have c0:=(qb.cell (p:=⟨ga,0,none⟩) hgl).trans c00;obtain⟨w3,hrun3,hm3,ht3⟩:=(HM.out.later qb).put z1d z5j (by unfold maxLen;omega) HI.out (.slice A2 k2 c2);have HM3:=zz hm3;have HT3:=zz ht3;clear hm3 ht3)
   |fail)
  go_end0
  refine⟨rfl,?_,z2Z qb HT3.out.grown⟩;have hub3:Ub w2 0 (.slice A2 k2 c2) (z3U b o (N:Int)):=by rw [HTB.out];exact(Ub.of_own (by simpa using hown2)).lower (yU _)
  exact Secs.put (fun x hx=>(HR.out x hx).keep fun _ _ h=>h.later qb) HM3.out HT3.out hub3 HI.out (z2S (HM.out.later qb))
 .have HTB:Hid (z3U b o (N:Int)=b.take N):=by unfold z3U;rw [Hid,Yb,yB h1,YW (by omega),yf]
  have hmb:N<=b.length:=by omega
  have i1:(N:Int)<(b.length:Int):=by omega
  have i2:¬ (b.length:Int)<(N:Int):=by omega
  have i3:(N:Int)<=(b.length:Int):=by omega
  have i4:(N:Int)<=(c:Int):=by omega
  have i5:¬ (N:Int)<(o.length:Int):=by omega
  have i0:¬ (N:Int)<0:=by omega
  have i9:(0:Int)<=(N:Int):=by omega
  go_enter func196,ntmps196
  go_wp2_with (first
   |(refine z1K _ rfl (.tmp 14) (.tmp 15) z0p rfl (Sl.alloc1 HU.out _) rfl rfl hmb ?_;intro A9 HP9)
   |(at_builtin;refine z02 _ rfl (.tmp 13) (.tmp 16) z0p rfl (Ob.made _ _ w.heap.size (y5 _) (by simp)) HP9 rfl rfl (by simp only [yW,yC];omega) (by simp) ?_;intro A1 k1 c1 w1 hown1 hga1 hat1;have qa:Below w.heap.size w w1:=z01 ((y7 _ _).alloc (y5 _) _) (Ob.made _ _ w.heap.size (y5 _) (by simp)) hga1 (by simp);have hlk:=(HM.out.later qa).look1 z1d z5j (z3f w1) HI.out;rw [HMO.out]at hlk;have c0:=yN qa c0;have cb:=yN qa cb;obtain⟨w3,hrun3,hm3,ht3⟩:=(HM.out.later qa).put z1d z5j (by unfold maxLen;omega) HI.out (.slice A1 k1 c1);have HM3:=zz hm3;have HT3:=zz ht3;clear hm3 ht3)
   |fail)
  go_end0
  refine⟨rfl,?_,z2Z qa HT3.out.grown⟩;have hub3:Ub w1 0 (.slice A1 k1 c1) (z3U b o (N:Int)):=by rw [HTB.out];exact(Ub.of_own (by simpa using hown1)).lower (yU _)
  exact Secs.put (fun x hx=>(HR.out x hx).keep fun _ _ h=>h.later qa) HM3.out HT3.out hub3 HI.out (z2S (HM.out.later qa))
 .subst h1;have HTB:Hid (z3U b o ((b.length:Nat):Int)=b.take b.length):=by unfold z3U;rw [Hid,Yb,yA (by omega),YG]
  have hmb:b.length<=b.length:=by omega
  have i1:¬ ((b.length:Nat):Int)<(b.length:Int):=by omega
  have i3:(b.length:Int)<=(c:Int):=by omega
  have i0:¬ ((b.length:Nat):Int)<0:=by omega
  have i9:(0:Int)<=((b.length:Nat):Int):=by omega
  go_enter func196,ntmps196
  go_wp2_with (first
   |(refine z1K _ rfl (.tmp 14) (.tmp 15) z0p rfl (Sl.alloc1 HU.out _) rfl rfl hmb ?_;intro A9 HP9)
   |(at_builtin;refine z02 _ rfl (.tmp 13) (.tmp 16) z0p rfl (Ob.made _ _ w.heap.size (y5 _) (by simp)) HP9 rfl rfl (by simp only [yW,yC];omega) (by simp) ?_;intro A1 k1 c1 w1 hown1 hga1 hat1;have qa:Below w.heap.size w w1:=z01 ((y7 _ _).alloc (y5 _) _) (Ob.made _ _ w.heap.size (y5 _) (by simp)) hga1 (by simp);have hlk:=(HM.out.later qa).look1 z1d z5j (z3f w1) HI.out;rw [HMO.out]at hlk;have c0:=yN qa c0;have cb:=yN qa cb;obtain⟨w3,hrun3,hm3,ht3⟩:=(HM.out.later qa).put z1d z5j (by unfold maxLen;omega) HI.out (.slice A1 k1 c1);have HM3:=zz hm3;have HT3:=zz ht3;clear hm3 ht3)
   |fail)
  go_end0
  refine⟨rfl,?_,z2Z qa HT3.out.grown⟩;have hub3:Ub w1 0 (.slice A1 k1 c1) (z3U b o ((b.length:Nat):Int)):=by rw [HTB.out];exact(Ub.of_own (by simpa using hown1)).lower (yU _)
  exact Secs.put (fun x hx=>(HR.out x hx).keep fun _ _ h=>h.later qa) HM3.out HT3.out hub3 HI.out (z2S (HM.out.later qa))
 .have HTB:Hid (z3U b o (N:Int)=b.take b.length):=by unfold z3U;rw [Hid,Yb,yA (by omega),YG]
  have hmb:b.length<=b.length:=by omega
  have i1:¬ (N:Int)<(b.length:Int):=by omega
  have i3:(b.length:Int)<=(c:Int):=by omega
  have i2:(b.length:Int)<(N:Int):=by omega
  have i6:¬ (N:Int)<=(b.length:Int):=by omega
  have i0:¬ (N:Int)<0:=by omega
  have i9:(0:Int)<=(N:Int):=by omega
  go_enter func196,ntmps196
  go_wp2_with (first
   |(refine z1K _ rfl (.tmp 14) (.tmp 15) z0p rfl (Sl.alloc1 HU.out _) rfl rfl hmb ?_;intro A9 HP9)
   |(at_builtin;refine z02 _ rfl (.tmp 13) (.tmp 16) z0p rfl (Ob.made _ _ w.heap.size (y5 _) (by simp)) HP9 rfl rfl (by simp only [yW,yC];omega) (by simp) ?_;intro A1 k1 c1 w1 hown1 hga1 hat1;have qa:Below w.heap.size w w1:=z01 ((y7 _ _).alloc (y5 _) _) (Ob.made _ _ w.heap.size (y5 _) (by simp)) hga1 (by simp);have hlk:=(HM.out.later qa).look1 z1d z5j (z3f w1) HI.out;rw [HMO.out]at hlk;have c0:=yN qa c0;have cb:=yN qa cb;obtain⟨w3,hrun3,hm3,ht3⟩:=(HM.out.later qa).put z1d z5j (by unfold maxLen;omega) HI.out (.slice A1 k1 c1);have HM3:=zz hm3;have HT3:=zz ht3;clear hm3 ht3)
   |fail)
  go_end0
  refine⟨rfl,?_,z2Z qa HT3.out.grown⟩;have hub3:Ub w1 0 (.slice A1 k1 c1) (z3U b o (N:Int)):=by rw [HTB.out];exact(Ub.of_own (by simpa using hown1)).lower (yU _)
  exact Secs.put (fun x hx=>(HR.out x hx).keep fun _ _ h=>h.later qa) HM3.out HT3.out hub3 HI.out (z2S (HM.out.later qa))
structure CpSt(w wr:World)(bm:Nat)(m:Int->Option Value)(f:SF)(n0:Nat)(left:Int->Bool)(cnt:Nat)(mo:Int->Option Value)(no:Nat):Prop where
 rg:RgV prog 3 wr bm (w.heap.size+1) m n0 left cnt
 out:MpV prog 3 wr w.heap.size mo no
 come:∀x,InI x->left x=true->mo x=none
 done:∀x,InI x->left x=false->SecV wr (mo x) (f x)
 num:no+cnt<=n0
 below:Below w.heap.size w wr
theorem zDM(bm n0:Nat)(f:SF)(w:World)(hs:Secs w bm f n0)(hf:FinK f n0):
 Calls prog 171 #[.map (some bm)] w fun e w'=>∃bo,e= .returned (.map (some bo))/\w.heap.size<=bo/\Secs w' bo f n0/\Below w.heap.size w w':=by
 obtain⟨m,hm,hr⟩:=hs;have hmm:= @run_makeMap prog;have hbl:=hm.lt;have hn0:=hf.bound;have e1:(w.alloc (.map #[] 0)).heap.size=w.heap.size+1:=by simp
 have HR:=zz hr;have HF:=zz hf;have HM:=zz (hm.alloc (.map #[] 0));have hLeft:Hid (∀a,((m a).isSome&&decide (-9223372036854775808<=a)&&decide (a<=9223372036854775807))=true↔InI a/\(m a).isSome=true):=fun a=>by
  unfold InI;simp only [Y9,yd];exact⟨fun h=>⟨⟨h.1.2,h.2⟩,h.1.1⟩,fun h=>⟨⟨h.2,h.1.1⟩,h.1.2⟩⟩
 clear hr hf hm;go_enter func171,ntmps171
 go_wp2_with (first
  |(at_range;refine z7j _ rfl _ 142 rfl z1d z5j rfl HM.out _ hLeft.out ?_;intro w0 hrg0 hg0 hs0)
  |fail)
 go_frame
 rw [e1]at hrg0 hs0 ⊢;have S0:CpSt w w0 bm m f n0 (fun a=>(m a).isSome&&decide (-9223372036854775808<=a)&&decide (a<=9223372036854775807)) n0 (fun _=>none) 0:=by
  refine⟨hrg0,(MpV.made _ _ w).at (hg0.block w.heap.size (by simp) (by simp)),fun _ _ _=>rfl,fun x hx hl=> ?_,by omega,((y7 _ _).alloc (y5 _) _).grown hg0 (by simp) (fun j hj=>by cases hj)⟩;have h1:(m x).isSome=false:=by
   cases h2:(m x).isSome with
   |false=>rfl
   |true=>have:=(hLeft.out x).2 ⟨hx,h2⟩;rw [hl]at this;cases this
  have h3:=HR.out x hx;have h4:=h3.some_iff;rw [h1]at h4;cases hfx:f x with
  |none=>trivial
  |some l=>rw [hfx]at h4;cases h4
 clear hrg0 hg0 hs0;go_loopw [4,5] (fun _ _ wr=>∃ (left:Int->Bool) (cnt:Nat) (mo:Int->Option Value) (no:Nat),CpSt w wr bm m f n0 left cnt mo no) (fun _ _ wr=>wr.rangeLeft bm (w.heap.size+1))
 case atStart=>exact⟨_,_,_,_,S0⟩
 case round=>
  clear S0;obtain⟨left,cnt,mo,no,hst⟩:=hrel;have HST:=zz hst;have hrg:=hst.rg;clear hst;go_wp2_with (first
   |(at_next;refine z85 _ rfl _ rfl z1d rfl hrg ?_ ?_)
   |fail)
  .intro hc0 hl0;go_wp2
   go_ret
   refine⟨_,rfl,y5 _,⟨mo,?_,fun x hx=>HST.out.done x hx (hl0 x)⟩,HST.out.below⟩;have h1:=HST.out.num;obtain⟨l,hl,hlo⟩:=HF.out;have h2:=HST.out.out;have h3:=h2.ge z1d hl.nodup fun x hx=>by
    obtain⟨y,hy,rfl⟩:=yP.1 hx;have hi:InI y.1:=by have:=hlo y hy;unfold SecOk at this;unfold InI;omega
    refine⟨hi,?_⟩;rw [(HST.out.done y.1 hi (hl0 y.1)).some_iff];exact(hl.has y.1).2 hx
   rw [yw,hl.len]at h3;rw [show no=n0 by omega]at h2;exact h2
  .intro x c w1 cnt1 hx hlx hmx hrg1 hlt hg1 hs1 hen;have hsec:=HR.out x hx;rw [hmx]at hsec;obtain⟨l,hfx⟩:∃l,f x=some l:=by
    cases hfx:f x with
    |none=>rw [hfx]at hsec;exact hsec.elim
    |some l=>exact⟨l,rfl⟩
   rw [hfx]at hsec;have hub0:Ub w 0 c l:=hsec;have q1:Below w.heap.size w w1:=HST.out.below.grown hg1 HST.out.below.size (fun j hj=>by cases hj;exact QM _);have hub:=hub0.later q1;obtain⟨A,cp,rfl,_⟩:=hub.bs.at;have hll:l.length<=512:=(HF.out.at hfx).2.2;have HU:=zz hub;have HX:=zz hx;have HFX:=zz hfx;have HLX:=zz hlx;have HRG:=zz hrg1;have HG1:=zz hg1;have HOUT:Hid (MpV prog 3 w1 w.heap.size mo no):=HST.out.out.at (hg1.block _ HST.out.out.lt (by simp));have hsz1:=q1.size;have hnum:=HST.out.num;clear hsec hub0 hub hmx hrg1 hlx hfx hx hg1 hs1;go_wp2_with (first
    |(at_builtin;refine z02 _ rfl (.tmp 16) (.tmp 17) z0p rfl (Ob.made _ _ w1.heap.size (y5 _) (by simp)) (Sl.alloc1 HU.out _) rfl rfl (by simp;omega) (by simp) ?_;intro A1 k1 c1 w2 hown1 hga hat1;have qa:Below w1.heap.size w1 w2:=z01 ((y7 _ _).alloc (y5 _) _) (Ob.made _ _ w1.heap.size (y5 _) (by simp)) hga (by simp);obtain⟨w3,hrun3,hm3,ht3⟩:=(HOUT.out.later qa).put z1d z5j (by unfold maxLen;omega) HX.out (.slice A1 k1 c1);have QA:=zz qa;have HM3:=zz hm3;have HT3:=zz ht3;clear qa hm3 ht3)
    |fail)
   go_roundw
   case rel=>
    have hg3:w1.grownBy w3 (some w.heap.size):=z2Z QA.out HT3.out.grown;have hmox:=HST.out.come x HX.out HLX.out;have hub2:Ub w2 0 (.slice A1 k1 c1) l:=(Ub.of_own (by simpa using hown1)).lower (yU _);have hkz:z0G w2 w.heap.size≠some (some 5):=by rw [z2S (HOUT.out.later QA.out)];simp
    have hkey:∀v l,Ub (wr) 0 v l->Ub w3 0 v l:=fun v l h=>Ub.other ((h.keep fun b hb=>HG1.out.block b (by obtain⟨_,cs,fz,hh⟩:=hb;exact lt_of_block hh) (fun e=>by
     injection e with e
     subst e;obtain⟨_,cs,fz,hh⟩:=hb;have:=HST.out.rg;obtain⟨D,lf,h1,_⟩:=this;obtain⟨es,clock,since,seen,c0,_,_,_,_,hr0,_⟩:=h1;rw [hr0]at hh;cases hh)).later QA.out) hkz HT3.out.grown
    refine⟨_,cnt1,_,_,⟨HRG.out.kept hg3 (fun e=>by have:=YF e;omega) (fun e=>by have:=YF e;omega),HM3.out,fun z hz hl=> ?_,fun z hz hl=> ?_,?_,(q1.grown hg3 hsz1 (fun j hj=>by cases hj;exact y5 _))⟩⟩
    .simp only [Y9,Zi,yV]at hl;rw [yA hl.2];exact HST.out.come z hz hl.1
    .by_cases hzx:z=x
     .subst hzx;simp only [YN,HFX.out];exact hub2.other hkz HT3.out.grown
     .simp only [hzx,yv];have hlz:left z=false:=by
       cases h:left z with
       |false=>rfl
       |true=>rw [h]at hl;simp [hzx]at hl
      exact(HST.out.done z hz hlz).keep hkey
    .unfold nPut;rw [hmox];simp only [ZB,yu,yv];omega
   case measure=>
    have hg3:w1.grownBy w3 (some w.heap.size):=z2Z QA.out HT3.out.grown;have hrg3:=HRG.out.kept hg3 (fun e=>by have:=YF e;omega) (fun e=>by have:=YF e;omega);rw [hrg3.left_eq,HST.out.rg.left_eq];exact hlt
theorem z2D{w w':World}(h:w.grownBy w' none):Below w.heap.size w w':=⟨h.os,h.tape,h.output,h.size,fun i hi=>h.block i hi (by simp)⟩
theorem Secs.row{w w':World}{b n:Nat}{f:SF}{row:Option Nat}(h:Secs w b f n)(hz:∀z,row=some z->b≠z/\z0G w z≠some (some 5))(hg:w.grownBy w' row):Secs w' b f n:=by
 cases row with
 |none=>exact h.later (z2D hg)
 |some z=>exact h.other (hz z rfl).1 (hz z rfl).2 hg
theorem PnIs.row{w w':World}{v:Value}{p:Pnd}{row:Option Nat}(h:PnIs w v p)(hz:∀z,row=some z->∀t∈z2j,z0G w z≠some (some t))(hg:w.grownBy w' row):PnIs w' v p:=by
 cases row with
 |none=>exact h.later (z2D hg)
 |some z=>exact h.other (hz z rfl) hg
theorem zIj:Elem prog 143 288 .nilFunc 1 8:=Elem.mk' underlying143 (by kernel_rfl) rfl (by omega)
theorem zGL(b o:List UInt8)(n:Int):z3U b o ((n.toNat:Nat):Int)=z3U b o n:=by unfold z3U;rw [Yb]
theorem zB8{w:World}{v:Value}{p:Pnd}{bm n0:Nat}{f:SF}{n:Int}(hp:PnIs w v p)(hpo:zIb p)(hs:Secs w bm f n0)(hf:FinK f n0)(hn:InI n){Q:Ending->World->Prop}
 (hQ:∀w',Secs w' bm (doP (f,n0) p n).1 (doP (f,n0) p n).2->w.grownBy w' (some bm)->Q (.returned (.tuple #[])) w'):
 ∃fn caps,v= .func (Fn.func fn) #[] caps/\∀args,args= #[.map (some bm),.int .i64 n]++caps->Calls prog fn args w Q:=by
 cases p with
 |wr a b=>
  obtain⟨ga,A,c,rfl,h1,h2,h3⟩:=hp;refine⟨_,_,rfl,fun args ha=> ?_⟩;subst ha;have ho:((f a).getD []).length<=512:=by
   cases hfa:f a with
   |none=>simp
   |some o=>exact(hf.at hfa).2.2
  have hi:InI a:=by have:=hpo.1;have:=hpo.2.1;unfold InI;omega
  refine(zIU ga (ga+1) A c a b bm n0 f n n.toNat w h1 h2 h3 hs hf.bound hi hpo.2.2 ho (by omega) (by unfold InI at hn;omega)).mono ?_;rintro e w' ⟨rfl,h4,h5⟩;rw [zGL]at h4;exact hQ w' h4 h5
 |fr a=>
  obtain⟨ga,rfl,h1⟩:=hp;refine⟨_,_,rfl,fun args ha=> ?_⟩;subst ha;have hi:InI a:=by have:=hpo.1;have:=hpo.2;unfold InI;omega
  refine(zF3 ga a bm n0 f n w h1 hs hi).mono ?_;rintro e w' ⟨rfl,h4,h5⟩;exact hQ w' h4 h5
theorem zHR(n:Int)(w:World)(h1:1<=n)(h2:n<=65536):
 Calls prog 34 #[.int .i64 n] w fun e w'=>∃h,e= .returned (.tuple #[.pointer (some ⟨h.g,0,none⟩),.int .i64 0])/\Dk w' h (Dsk.new n)/\(∀b,h.has b->w.heap.size<=b)/\Below w.heap.size w w':=by
 have hmm:= @run_makeMap prog;have i1:¬n<1:=by omega
 have i2:¬65536<n:=by omega
 go_enter func34,ntmps34
 go_wp2_with fail
 go_ret2
 have s1:(w.alloc (.map #[] 0)).heap.size=w.heap.size+1:=by simp
 have s2:((w.alloc (.map #[] 0)).alloc (.map #[] 0)).heap.size=w.heap.size+1+1:=by simp
 have q1:Below (w.heap.size+1) (w.alloc (.map #[] 0)) ((w.alloc (.map #[] 0)).alloc (.map #[] 0)):=by
  have:=(y7 (w.alloc (.map #[] 0)).heap.size (w.alloc (.map #[] 0))).alloc (y5 _) (.map #[] 0)
  rwa [s1]at this
 have m1:=Secs.made w;have m2:=Secs.made (w.alloc (.map #[] 0));rw [s1]at m2;have m1':Secs ((w.alloc (.map #[] 0)).alloc (.map #[] 0)) w.heap.size (fun _=>none) 0:=m1.later (by rw [s1];exact q1);have b3:=Blk.new ((w.alloc (.map #[] 0)).alloc (.map #[] 0)) 145 #[.int .i64 n,.int .i64 n,.map (some w.heap.size),.map (some (w.heap.size+1)),.slice none 0 0];rw [s2]at b3;have q3:=(y7 ((w.alloc (.map #[] 0)).alloc (.map #[] 0)).heap.size ((w.alloc (.map #[] 0)).alloc (.map #[] 0))).alloc (y5 _) (.cells #[.int .i64 n,.int .i64 n,.map (some w.heap.size),.map (some (w.heap.size+1)),.slice none 0 0] 145);refine⟨⟨w.heap.size+1+1,w.heap.size,w.heap.size+1,.slice none 0 0⟩,rfl,⟨b3,m1'.later q3,m2.later q3,by simp,[],Ya _ _ _ _,PnL.nil _⟩,fun b hb=> ?_,(((y7 _ _).alloc (y5 _) _).alloc (by simp) _).alloc (by simp;omega) _⟩;rcases hb with h|h|h|h
 .simp only at h;omega
 .simp only at h;omega
 .simp only at h;omega
 .cases h
theorem z4M{w:World}{g i:Nat}(u:Value):w.grownBy (w.setCell ⟨g,i,none⟩ u) (some g):=⟨rfl,rfl,rfl,by simp,fun k hk hne=>Yd w ⟨g,i,none⟩ u k (fun e=>hne (by rw [e]))⟩
theorem zEo{w w1:World}{g bv bg k1 c0 c1:Nat}{A0 A1:Option Addr}{vs:List Value}{D:Dsk}{pv:Value}{p:Pnd}{n:Int}{row:Obj}(hd:Dk w ⟨g,bv,bg,.slice A0 vs.length c0⟩ D)(hok:D.Ok)(hp:PnIs w pv p)(hpo:zIb p)(hn:InI n)
 (hown:Ow 288 (w.alloc row) 0 (.slice A0 vs.length c0) vs) (hpl:PnL w vs D.pend) (hown1:w1.ownsRow 0 288 1 (.slice A1 k1 c1) (vs.length+1) (vs++ [pv])) (hga:(w.alloc row).grownBy w1 (Value.slice A0 vs.length c0).ownBlock)
 (hat:(Value.slice A1 k1 c1).ownBlock=(Value.slice A0 vs.length c0).ownBlock∨(Value.slice A1 k1 c1).ownBlock=some (w.alloc row).heap.size) {fn:FuncId} {args:Array Value}
 (hv:∃caps,pv= .func (Fn.func fn) #[] caps/\args= #[.map (some bv),.int .i64 n]++caps):
 Calls prog fn args (w1.setCell ⟨g,4,none⟩ (.slice A1 k1 c1)) fun e w'=>e= .returned (.tuple #[])/\Dk w' ⟨g,bv,bg,.slice A1 k1 c1⟩ (D.put p n)/\Stp ⟨g,bv,bg,.slice A0 vs.length c0⟩ w ⟨g,bv,bg,.slice A1 k1 c1⟩ w':=by
 have qa:Below w.heap.size w (w.alloc row):=(y7 _ _).alloc (y5 _) _;have d1:=hd.later qa;have kz:∀z,(Value.slice A0 vs.length c0).ownBlock=some z->z0G (w.alloc row) z=some (some 288):=fun z hz=>z2T hown hz
 have kv:=d1.view.kind;have kg:=d1.ground.kind;simp only at kv kg;have row1:∀ {b m:Nat} {f:SF},Secs (w.alloc row) b f m->Secs w1 b f m:=fun hs=>hs.row (fun z hz=>⟨(fun e=>by subst e;have h1:=kz _ hz;rw [hs.kind]at h1;cases h1),(by rw [kz z hz];decide)⟩) hga
 have v1:=row1 d1.view;have g1:=row1 d1.ground;have b1:=d1.blk.kept hown hga (by decide);have p1:∀ {v:Value} {q:Pnd},PnIs (w.alloc row) v q->PnIs w1 v q:=fun h=>h.row (fun z hz t ht=>by rw [kz z hz];revert ht;simp only [z2j,y9,yH,yp];rintro(rfl|rfl|rfl)<;>decide) hga
 have kd1:z0G w1 g=some (some 145):=z0I b1;have gc:=z4M (w:=w1) (g:=g) (i:=4) (.slice A1 k1 c1);have v2:Secs (w1.setCell ⟨g,4,none⟩ (.slice A1 k1 c1)) bv D.view D.nv:=v1.other (fun e=>by have:=v1.kind;simp only at e this;rw [e,kd1]at this;cases this) (by rw [kd1];decide) gc;have g2:Secs (w1.setCell ⟨g,4,none⟩ (.slice A1 k1 c1)) bg D.ground D.ng:=g1.other (fun e=>by have:=g1.kind;simp only at e this;rw [e,kd1]at this;cases this) (by rw [kd1];decide) gc;have p2:∀ {v:Value} {q:Pnd},PnIs w1 v q->PnIs (w1.setCell ⟨g,4,none⟩ (.slice A1 k1 c1)) v q:=fun h=>h.other (fun t ht=>by rw [kd1];revert ht;simp only [z2j,y9,yH,yp];rintro(rfl|rfl|rfl)<;>decide) gc
 have b2:=b1.put 4 (.slice A1 k1 c1);have o2:Ow 288 (w1.setCell ⟨g,4,none⟩ (.slice A1 k1 c1)) 0 (.slice A1 k1 c1) (vs++ [pv]):=by
  unfold Ow;rw [y6];exact z3g hown1 b1 (by decide) 4 _
 have kv2:=v2.kind;have hQ:∀w3,Secs w3 bv (doP (D.view,D.nv) p n).1 (doP (D.view,D.nv) p n).2->(w1.setCell ⟨g,4,none⟩ (.slice A1 k1 c1)).grownBy w3 (some bv)->
  Ending.returned (.tuple #[])=Ending.returned (.tuple #[])/\Dk w3 ⟨g,bv,bg,.slice A1 k1 c1⟩ (D.put p n)/\Stp ⟨g,bv,bg,.slice A0 vs.length c0⟩ w ⟨g,bv,bg,.slice A1 k1 c1⟩ w3:=by
  intro w3 hs3 hg3;refine⟨rfl,?_,?_⟩
  .have hbg:bg≠bv:=fun e=>hd.ne e.symm
   refine⟨b2.grown hg3 (fun e=> ?_),hs3,g2.other hbg (by rw [kv2];decide) hg3,hd.ne,vs++ [pv],o2.other (fun e=> ?_) hg3,(PnL.keep (hpl.keep fun v q h=>p2 (p1 (h.later qa))) fun v q h=> ?_).snoc ?_⟩
   .injection e with e
    have e2:g=bv:=by first|exact e|exact e.symm
    exact absurd ((z0I b2).symm.trans ((congrArg (z0G _) e2).trans kv2)) (by simp)
   .have:=z2T o2 e;rw [kv2]at this;cases this
   .exact h.other (fun t ht=>by rw [kv2];simp) hg3
   .exact(p2 (p1 (hp.later qa))).other (fun t ht=>by rw [kv2];simp) hg3
  .refine⟨rfl,?_,fun b hb=> ?_⟩
   .have t1:Turn (Zn.has ⟨g,bv,bg,.slice A0 vs.length c0⟩) w w1:=(Turn.of_below qa).trans (Turn.of_grown (F:=Zn.has ⟨g,bv,bg,.slice A0 vs.length c0⟩) hga (fun z hz=> .inr (.inr (.inr hz)))) (fun b h=> .inl h);exact(t1.setCell (p:=⟨g,4,none⟩) (.inl (.inl rfl)) _).trans (Turn.of_grown (F:=Zn.has ⟨g,bv,bg,.slice A0 vs.length c0⟩) hg3 (fun z hz=>by injection hz with hz;exact .inr (.inl hz.symm))) (fun b h=> .inl h)
   .rcases hb with h|h|h|h
    .exact .inl (.inl h)
    .exact .inl (.inr (.inl h))
    .exact .inl (.inr (.inr (.inl h)))
    .simp only at h;rcases hat with h1|h1
     .exact .inl (.inr (.inr (.inr (by simp only;rw [<-h1];exact h))))
     .rw [h1]at h;injection h with h
      right;rw [<-h];simp
 obtain⟨fn',caps',hf,hcall⟩:=zB8 (w:=w1.setCell ⟨g,4,none⟩ (.slice A1 k1 c1)) (v:=pv) (n:=n) (p2 (p1 (hp.later qa))) hpo v2 hok.view hn
  (Q:=fun e w'=>e= .returned (.tuple #[])/\Dk w' ⟨g,bv,bg,.slice A1 k1 c1⟩ (D.put p n)/\Stp ⟨g,bv,bg,.slice A0 vs.length c0⟩ w ⟨g,bv,bg,.slice A1 k1 c1⟩ w') hQ
 obtain⟨caps,hpv,harg⟩:=hv;rw [hpv]at hf;injection hf with hf1 hf2 hf3
 injection hf1 with hf1
 subst hf1 hf3;exact hcall args harg
theorem zEn(h:Zn)(D:Dsk)(pv:Value)(p:Pnd)(n:Int)(w:World)(hd:Dk w h D)(hok:D.Ok)(hp:PnIs w pv p)(hpo:zIb p)(hn:InI n)(hlen:D.pend.length<=1000000000):
 Calls prog 169 #[.pointer (some ⟨h.g,0,none⟩),pv,.int .i64 n] w fun e w'=>e= .returned (.tuple #[])/\∃h',Dk w' h' (D.put p n)/\Stp h w h' w':=by
 obtain⟨g,bv,bg,sl⟩:=h;obtain⟨vs,hown,hpl⟩:=hd.pend;have hvl:=hpl.1;obtain⟨A0,c0,hsl,_⟩:=Ow.shape hown;simp only at hsl hown;subst hsl;have hd4:w.cell? ⟨g,4,none⟩=some (.slice A0 vs.length c0):=hd.blk.cell 4;have HD:=zz hd;have HO:=zz (Ow.later hown ((y7 _ _).alloc (y5 _) (.cells #[pv] 288)));have HOK:=zz hok;have HP:=zz hp;have HPL:=zz hpl;have HVL:=zz hvl;have hvb:vs.length<=1000000000:=by omega
 have hgl:g<w.heap.size:=hd.blk.lt;clear hd hok hp hpl hown hvl;cases p with
 |wr a b=>
  obtain⟨ga,_,_,rfl,_⟩:=HP.out;go_enter func169,ntmps169
  go_wp2_with (first
   |(at_builtin;refine z0A _ rfl (.tmp 10) (.tmp 12) zIj rfl HO.out (Sl.new1 (S:=fun _=>True) _ _ _ rfl trivial) rfl rfl (by intro y hy;simp at hy;subst hy;rfl) (by simp only [maxLen];omega) (by omega) (yU _) ?_;intro A1 k1 c1 w1 hown1 hga hat1;have hblk:=((HD.out.blk.alloc _).kept HO.out hga (by decide));have hd4:w1.cell? ⟨g,4,none⟩=some (.slice A0 vs.length c0):=hblk.cell 4;have hf4:=hblk.free 4;have hd2:w1.cell? ⟨g,2,none⟩=some (.map (some bv)):=hblk.cell 2)
   |fail)
  refine(zEo HD.out HOK.out HP.out hpo hn HO.out HPL.out hown1 hga hat1 ⟨_,rfl,rfl⟩).mono ?_;rintro e w3 ⟨rfl,hd3,hs3⟩;go_wp2_with fail
  go_end0
  exact⟨rfl,_,hd3,hs3⟩
 |fr a=>
  obtain⟨ga,rfl,_⟩:=HP.out;go_enter func169,ntmps169
  go_wp2_with (first
   |(at_builtin;refine z0A _ rfl (.tmp 10) (.tmp 12) zIj rfl HO.out (Sl.new1 (S:=fun _=>True) _ _ _ rfl trivial) rfl rfl (by intro y hy;simp at hy;subst hy;rfl) (by simp only [maxLen];omega) (by omega) (yU _) ?_;intro A1 k1 c1 w1 hown1 hga hat1;have hblk:=((HD.out.blk.alloc _).kept HO.out hga (by decide));have hd4:w1.cell? ⟨g,4,none⟩=some (.slice A0 vs.length c0):=hblk.cell 4;have hf4:=hblk.free 4;have hd2:w1.cell? ⟨g,2,none⟩=some (.map (some bv)):=hblk.cell 2)
   |fail)
  refine(zEo HD.out HOK.out HP.out hpo hn HO.out HPL.out hown1 hga hat1 ⟨_,rfl,rfl⟩).mono ?_;rintro e w3 ⟨rfl,hd3,hs3⟩;go_wp2_with fail
  go_end0
  exact⟨rfl,_,hd3,hs3⟩
theorem Dk.look{w:World}{h:Zn}{D:Dsk}(d:Dk w h D){a:Int}(ha:InI a):∃v,(Instr.lookup 142 (.map (some h.bv)) (.int .i64 a) true).run prog w= .ok (.tuple #[v,.bool (D.view a).isSome]) w/\
 ∀l,D.view a=some l->Ub w 0 v l:=by
 obtain⟨m,hm,hr⟩:=d.view;have hs:=hr a ha;refine⟨_,by rw [<-hs.some_iff];exact hm.look z1d z5j (z3f w) ha,fun l hl=> ?_⟩;rw [hl]at hs;cases hma:m a with
 |none=>rw [hma]at hs;exact hs.elim
 |some v=>rw [hma]at hs;exact hs
theorem Dk.len{w:World}{h:Zn}{D:Dsk}(d:Dk w h D)(n:Nat)(ty:TypeId):(Builtin.len_ #[142] ty #[.map (some h.bv)]).run prog (w.drewN n)= .ok (.int .i64 (D.nv:Int)) (w.drewN n):=by
 obtain⟨m,hm,hr⟩:=d.view;have h2:MpV prog 3 (w.drewN n) h.bv m D.nv:=hm.at rfl;exact h2.len z1d z5j ty
theorem z6q(h:Zn)(D:Dsk)(a:Int)(w:World)(hd:Dk w h D)(hok:D.Ok)(ha:InI a):
 Calls prog 162 #[.pointer (some ⟨h.g,0,none⟩),.int .i64 a] w fun e w'=>
  (∀l,D.view a=some l->∃A c,e= .returned (.tuple #[.slice A l.length c,.int .i64 0])/\Ob 5 w' w.heap.size (.slice A l.length c) l)/\
  (D.view a=none->e= .returned (.tuple #[.slice none 0 0,.int .i64 61]))/\Below w.heap.size w w':=by
 obtain⟨v,hlk,hv⟩:=hd.look ha;have hd2:w.cell? ⟨h.g,2,none⟩=some (.map (some h.bv)):=hd.blk.cell 2;have HV:=zz hv;have HOK:=zz hok;cases hva:D.view a with
 |none=>
  rw [hva]at hlk;simp only [ZB]at hlk;clear hd hv hok;go_enter func162,ntmps162
  go_wp2_with fail
  go_ret2
  exact⟨(fun l h=>by cases h),fun _=>rfl,y7 _ _⟩
 |some l=>
  rw [hva]at hlk;simp only [Q0]at hlk;have hub:=hv l hva;obtain⟨A,c,rfl,_⟩:=hub.bs.at;have HU:=zz hub;have hll:l.length<=512:=(hok.view.at hva).2.2;clear hd hv hok hub HV;go_enter func162,ntmps162
  go_wp2_with (first
   |(at_builtin;refine z02 _ rfl (.tmp 19) (.tmp 20) z0p rfl (Ob.made _ _ w.heap.size (y5 _) (by simp)) (Sl.alloc1 HU.out _) rfl rfl (by simp;omega) (by simp) ?_;intro A1 k1 c1 w1 hown1 hga1 hat1)
   |fail)
  go_ret2
  have q:Below w.heap.size w w1:=z01 ((y7 _ _).alloc (y5 _) _) (Ob.made _ _ w.heap.size (y5 _) (by simp)) hga1 (by simp);have ho:Ob 5 w1 w.heap.size (.slice A1 k1 c1) l:=by simpa using hown1
  obtain rfl:=ho.len;exact⟨fun l' h'=>(by cases h';exact⟨A1,c1,rfl,ho⟩),(fun h=>by cases h),q⟩
def Dsk.freeE(D:Dsk)(a:Int):Nat:=if(D.view a).isSome then 0 else 61
theorem zEv(h:Zn)(D:Dsk)(a:Int)(w:World)(hd:Dk w h D)(hok:D.Ok)(ha:InI a)(hlen:D.pend.length<=1000000000):
 Calls prog 149 #[.pointer (some ⟨h.g,0,none⟩),.int .i64 a] w fun e w'=>e= .returned (.int .i64 (D.freeE a:Int))/\∃h',Dk w' h' (D.free a)/\Stp h w h' w':=by
 obtain⟨v,hlk,hv⟩:=hd.look ha;have hd2:w.cell? ⟨h.g,2,none⟩=some (.map (some h.bv)):=hd.blk.cell 2;have HD:=zz hd;have HOK:=zz hok;cases hva:D.view a with
 |none=>
  rw [hva]at hlk;simp only [ZB]at hlk;have HF:Hid (D.free a=D):=by unfold Dsk.free;rw [Hid,hva];rfl
  have HFE:Hid (D.freeE a=61):=by unfold Dsk.freeE;rw [Hid,hva];rfl
  clear hd hv hok;go_enter func149,ntmps149
  go_wp2_with fail
  go_ret
  exact⟨by rw [HFE.out];rfl,h,by rw [HF.out];exact HD.out,Stp.refl _ _⟩
 |some l=>
  rw [hva]at hlk;simp only [Q0]at hlk;have HF:Hid (D.free a=D.put (.fr a) 0):=by unfold Dsk.free;rw [Hid,hva];rfl
  have HFE:Hid (D.freeE a=0):=by unfold Dsk.freeE;rw [Hid,hva];rfl
  have hpo:zIb (.fr a):=by have:=hok.view.at hva;exact⟨this.1,this.2.1⟩
  have HP:=zz hpo;clear hd hv hok hpo;go_enter func149,ntmps149
  go_wp2_with fail
  refine(zBH a w).mono ?_;rintro e w1 ⟨pv,rfl,hpn,hbl⟩;go_wp2_with fail
  refine(zEn h D pv (.fr a) 0 w1 (HD.out.later hbl) HOK.out hpn HP.out (by unfold InI;omega) hlen).mono ?_;rintro e w2 ⟨rfl,h',hd',hs'⟩;go_wp2_with fail
  go_ret
  exact⟨by rw [HFE.out];rfl,h',by rw [HF.out];exact hd',(Stp.below hbl).trans hs'⟩
theorem z8H(h:Zn)(D:Dsk)(a:Int)(S:Nat->Prop)(v0:Value)(b:List UInt8)(w:World)(hd:Dk w h D)(hok:D.Ok)(ha:InI a)(hb:Bs S w v0 b)(hbl:b.length<=1099511627776)(hlen:D.pend.length<=1000000000):
 Calls prog 159 #[.pointer (some ⟨h.g,0,none⟩),.int .i64 a,v0] w fun e w'=>e= .returned (.int .i64 (D.why a b:Int))/\∃h',Dk w' h' (D.write a b)/\Stp h w h' w':=by
 obtain⟨v,hlk,hv⟩:=hd.look ha;obtain⟨A,c,rfl,_⟩:=hb.at;have hd0:w.cell? ⟨h.g,0,none⟩=some (.int .i64 D.size):=hd.blk.cell 0;have hd1:w.cell? ⟨h.g,1,none⟩=some (.int .i64 D.limit):=hd.blk.cell 1;have hd2:w.cell? ⟨h.g,2,none⟩=some (.map (some h.bv)):=hd.blk.cell 2;have HD:=zz hd;have HOK:=zz hok;have HB:=zz hb;have HA:=zz ha;have hln:=fun n ty=>hd.len n ty
 have hwy:Hid (D.why a b=if a<0∨D.size<=a then 61 else if 512<b.length then 62 else if(D.view a).isNone/\D.limit<=(D.nv:Int)then 63 else 0):=rfl;have HWR:Hid (D.write a b=if D.why a b=0 then D.put (.wr a b) b.length else D):=rfl;clear hd hok hv hb ha;by_cases c1:a<0∨D.size<=a
 .have HW:Hid (D.why a b=61):=by rw [Hid,hwy.out,yB c1]
  have HE:Hid (D.write a b=D):=by rw [Hid,HWR.out,HW.out];rfl
  rcases Decidable.em (a<0)with h0|h0
  case' inl=>have hx:=h0
  case' inr=>have hx:D.size<=a:=c1.resolve_left h0
  all_goals
   clear c1;go_enter func159,ntmps159
   go_wp2_with fail
   go_ret
   exact⟨by rw [HW.out];rfl,h,by rw [HE.out];exact HD.out,Stp.refl _ _⟩
 .have c11:¬a<0:=fun e=>c1 (.inl e)
  have c12:¬D.size<=a:=fun e=>c1 (.inr e)
  by_cases c2:512<b.length
  .have HW:Hid (D.why a b=62):=by rw [Hid,hwy.out,yA c1,yB c2]
   have HE:Hid (D.write a b=D):=by rw [Hid,HWR.out,HW.out];rfl
   clear c1;go_enter func159,ntmps159
   go_wp2_with fail
   go_ret
   exact⟨by rw [HW.out];rfl,h,by rw [HE.out];exact HD.out,Stp.refl _ _⟩
  .obtain⟨U,hU⟩:∃U,(D.view a).isSome=U:=⟨_,rfl⟩;rw [hU]at hlk;by_cases c3:(D.view a).isNone/\D.limit<=(D.nv:Int)
   .have HW:Hid (D.why a b=63):=by rw [Hid,hwy.out,yA c1,yA c2,yB c3]
    have HE:Hid (D.write a b=D):=by rw [Hid,HWR.out,HW.out];rfl
    have hUf:U=false:=by rw [<-hU];have:=c3.1;cases h1:D.view a<;>simp_all
    subst hUf;have c31:=c3.2;clear c1 c3 hU;go_enter func159,ntmps159
    go_wp2_with fail
    go_quiet (fail)
    go_wp2_with fail
    go_ret
    exact⟨by rw [HW.out];rfl,h,by rw [HE.out];exact HD.out.later (below_drewN (y7 _ _) _),Stp.below (below_drewN (y7 _ _) _)⟩
   .have HW:Hid (D.why a b=0):=by rw [Hid,hwy.out,yA c1,yA c2,yA c3]
    have HE:Hid (D.write a b=D.put (.wr a b) b.length):=by rw [Hid,HWR.out,HW.out];rfl
    have HPO:Hid (zIb (.wr a b)):=by
     have:=zD5 HW.out;have h2:=HOK.out.size;exact⟨this.1,by omega,this.2.2⟩
    have hcase:U=true∨U=false/\¬D.limit<=(D.nv:Int):=by
     cases h1:D.view a with
     |none=>right;rw [<-hU,h1];exact⟨rfl,fun e=>c3 ⟨by rw [h1];rfl,e⟩⟩
     |some l=>left;rw [<-hU,h1];rfl
    clear c1 c3 hU;rcases hcase with rfl|⟨rfl,c31⟩
    all_goals
     go_enter func159,ntmps159
     go_wp2_with fail
     go_quiet (fail)
     have hq0:Below w.heap.size w (w.drewN nq):=below_drewN (y7 _ _) _;have HBW:Hid (Bs S (w.drewN nq) (.slice A b.length c) b):=HB.out;have HDW:Hid (Dk (w.drewN nq) h D):=HD.out.later hq0;generalize w.drewN nq=W at*;go_wp2_with (first
      |(at_builtin;refine z02 _ rfl (.tmp 48) (.tmp 49) z0p rfl (Ob.made _ _ W.heap.size (y5 _) (by simp)) (Sl.alloc1 HBW.out _) rfl rfl (by simp;omega) (by simp) ?_;intro A1 k1 c1 w1 hown1 hga1 hat1;have hob:Ob 5 w1 W.heap.size (.slice A1 k1 c1) b:=(by simpa using hown1);have hk1:=hob.len;subst hk1)
      |fail)
     have q1:Below W.heap.size W w1:=z01 ((y7 _ _).alloc (y5 _) _) (Ob.made _ _ W.heap.size (y5 _) (by simp)) hga1 (by simp);refine(zC2 a A1 c1 b w1 ((Ub.of_own hob).lower (yU _))).mono ?_;rintro e w2 ⟨pv,rfl,hpn,hbl2⟩;have q2:Below W.heap.size W w2:=q1.trans (hbl2.mono q1.size);go_wp2_with fail
     refine(zEn h D pv (.wr a b) b.length w2 (HDW.out.later q2) HOK.out hpn HPO.out (by unfold InI;omega) hlen).mono ?_;rintro e w3 ⟨rfl,h',hd',hs'⟩;go_wp2_with fail
     go_ret
     exact⟨by rw [HW.out];rfl,h',by rw [HE.out];exact hd',(Stp.below (hq0.trans (q2.mono hq0.size))).trans hs'⟩
theorem Dk.parts{w w':World}{h:Zn}{D:Dsk}(d:Dk w h D)(hg:w.grownBy w' (some h.g)):Secs w' h.bv D.view D.nv/\Secs w' h.bg D.ground D.ng/\∃vs,Ow 288 w' 0 h.pv vs/\PnL w' vs D.pend:=by
 have kd:=z0I d.blk;obtain⟨vs,h1,h2⟩:=d.pend;refine⟨d.view.other (fun e=> ?_) (by rw [kd];decide) hg,d.ground.other (fun e=> ?_) (by rw [kd];decide) hg,vs,h1.other (fun e=> ?_) hg,h2.keep fun v p hp=>hp.other (fun t ht=> ?_) hg⟩
 .have:=d.view.kind;rw [e,kd]at this;cases this
 .have:=d.ground.kind;rw [e,kd]at this;cases this
 .have:=z2T h1 e;rw [kd]at this;revert this;decide
 .rw [kd];revert ht;simp only [z2j,y9,yH,yp];rintro(rfl|rfl|rfl)<;>decide
theorem zEx(h:Zn)(D:Dsk)(w:World)(hd:Dk w h D)(hok:D.Ok):
 Calls prog 150 #[.pointer (some ⟨h.g,0,none⟩)] w fun e w'=>e= .returned (.tuple #[])/\∃h',Dk w' h' D.sync/\Stp h w h' w':=by
 obtain⟨g,bv,bg,sl⟩:=h;have hd2:w.cell? ⟨g,2,none⟩=some (.map (some bv)):=hd.blk.cell 2;have HD:=zz hd;have HOK:=zz hok;clear hd hok;go_enter func150,ntmps150
 go_wp2_with fail
 refine(zDM bv D.nv D.view w HD.out.view HOK.out.view).mono ?_;rintro e w1 ⟨bo,rfl,hbo,hs,hbl⟩;have hd1:=HD.out.later hbl;have HD1:=zz hd1;have HS:=zz hs;have c3:w1.cell? ⟨g,3,none⟩=some (.map (some bg)):=hd1.blk.cell 3;have c4:w1.cell? ⟨g,4,none⟩=some sl:=hd1.blk.cell 4;have f3:=hd1.blk.free 3;have f4:=hd1.blk.free 4;have HBL:=zz hbl;have hbv:=HD.out.view.lt;clear hd1 hs hbl;go_wp2_with fail
 go_end0
 have kd:=z0I HD1.out.blk;have p1:=HD1.out.parts (z4M (g:=g) (i:=3) (.map (some bo)));have b1:=HD1.out.blk.put 3 (.map (some bo));have gg:=z4M (w:=w1.setCell ⟨g,3,none⟩ (.map (some bo))) (g:=g) (i:=4) (.slice none 0 0);have kd1:=z0I b1;have hk:∀ {b n:Nat} {f:SF},Secs w1 b f n->Secs ((w1.setCell ⟨g,3,none⟩ (.map (some bo))).setCell ⟨g,4,none⟩ (.slice none 0 0)) b f n:=fun hs=>by
  have h1:=hs.other (z:=g) (fun e=>by have:=hs.kind;rw [e]at this;rw [kd]at this;cases this) (by rw [kd];decide) (z4M (g:=g) (i:=3) (.map (some bo)));exact h1.other (z:=g) (fun e=>by have:=h1.kind;rw [e]at this;rw [kd1]at this;cases this) (by rw [kd1];decide) gg
 refine⟨rfl,⟨g,bv,bo,.slice none 0 0⟩,⟨b1.put 4 _,hk HD1.out.view,hk HS.out,fun e=>by simp only at e hbv;omega,[],Ya _ _ _ _,PnL.nil _⟩,rfl,((Turn.of_below HBL.out).setCell (.inl (.inl rfl)) _).setCell (.inl (.inl rfl)) _,fun b hb=> ?_⟩;rcases hb with h|h|h|h
 .exact .inl (.inl h)
 .exact .inl (.inr (.inl h))
 .right;simp only at h;omega
 .cases h
def pcs(l:List (Int×Int)):List Value:=l.flatMap fun x=> [.int .i64 x.1,.int .i64 x.2]
theorem zFd(l:List (Int×Int)):(pcs l).length=l.length*2:=by
 induction l with
 |nil=>rfl
 |cons r rs ih=>simp only [pcs,yb,y6,y8,yW]at ih ⊢;omega
theorem zCc{l:List (Int×Int)}{j:Nat}(h:j<l.length):(pcs l)[j*2]? =some (.int .i64 l[j].1)/\(pcs l)[j*2+1]? =some (.int .i64 l[j].2):=by
 induction l generalizing j with
 |nil=>simp at h
 |cons r rs ih=>
  rcases j with _|j
  .simp [pcs]
  .have:=ih (j:=j) (by simpa using h);simp only [pcs,yb]at this ⊢;rw [show(j+1)*2=j*2+1+1 by omega];simpa using this
def Sv(S:Nat->Prop)(w:World)(v:Value)(l:List (Int×Int)):Prop:=Sl S w 2 v l.length (pcs l)
theorem Sv.at{S:Nat->Prop}{w:World}{v:Value}{l:List (Int×Int)}(h:Sv S w v l):∃A c,v= .slice A l.length c/\
 (0<l.length->∃b o,A=some ⟨b,o,none⟩/\b<w.heap.size/\∀j (hj:j<l.length),w.cell? ⟨b,o+j*2,none⟩=some (.int .i64 l[j].1)/\w.cell? ⟨b,o+j*2+1,none⟩=some (.int .i64 l[j].2)):=by
 obtain⟨_,A,c,h2,h3,h4,h5,h6⟩:=h;refine⟨A,c,h2,fun hn=> ?_⟩;obtain⟨b,o,ha,hs,hc⟩:=h6 hn;have h0:=hc _ _ (zCc hn).1;refine⟨b,o,ha,Yc w _ h0,fun j hj=>⟨hc _ _ (zCc hj).1,?_⟩⟩;rw [Z4];exact hc _ _ (zCc hj).2
def zHx(r:Nat×List UInt8):Value:= .agg #[.int .u64 (r.1:Int),.string (st r.2)]
theorem zDR(q:Nat)(t:List UInt8)(w:World)(hq:q<U64)(ht:t.length<=65536):
 Calls prog 158 #[.agg #[.int .u64 (q:Int),.string (st t)]] w fun e w'=>∃A k c,e= .returned (.slice A k c)/\Ob 5 w' w.heap.size (.slice A k c) (zAz q t)/\Below w.heap.size w w':=by
 have hb0:=Blk.new w 154 #[.int .u64 (q:Int),.string (st t)];have HQ:=zz hq;go_enter func158,ntmps158
 go_wp2_with fail
 refine(z5U _).mono ?_;rintro e w1 ⟨rfl,hw1,hbl1,hsz1⟩;have hb1:=hb0.later hbl1;have q1:Below w.heap.size w w1:=((y7 w.heap.size w).alloc (y5 _) _).trans (hbl1.mono (by simp));generalize hG:(w.alloc (.cells #[.int .u64 (q:Int),.string (st t)] 154)).heap.size=G at*;have hG':w.heap.size<G:=by rw [<-hG];simp
 have hG1:G<w1.heap.size:=by omega
 have HW1:=zz hw1;have d0:w1.cell? ⟨w.heap.size,0,none⟩=some (.int .u64 (q:Int)):=hb1.cell 0;clear hw1 hb0 hq hG hbl1 hsz1;go_wp2_with fail
 refine(z9n G G G [] [q] _ _ (HW1.out.alloc _) (by simp;omega) (fun _=>y5 _) (by simp;omega) (by intro y hy;simp at hy;subst hy;exact HQ.out) (by simp) (Sl.new1 w1 _ _ (by simp) ⟨by omega,by simp⟩)).mono ?_;rintro e w2 ⟨rfl,hw2,hg2⟩;simp only [yb,YZ,yf,yz]at hw2;have hb2:=(hb1.alloc (.cells #[.int .u64 (q:Int)] 27)).grown hg2 (by simp;omega);have q2:Below w.heap.size w w2:=(q1.alloc (by omega) _).trans (z0T hg2 (by omega) (by simp;omega));have hs2:=q2.size;have hg2s:w1.heap.size+1<=w2.heap.size:=by have:=hg2.size;simpa using this
 have HW2:=zz hw2;have hv10:=z09 HQ.out;have d1:w2.cell? ⟨w.heap.size,1,none⟩=some (.string (st t)):=hb2.cell 1;clear hw2 hb1 hg2 HW1 d0;go_wp2_with fail
 refine(z5V G G (z0C q) [t] _ _ (HW2.out.alloc _) (by simp;omega) (y5 _) (by intro y hy;simp at hy;subst hy;exact ht) (by simp;omega) (Sl.new1 w2 _ _ (by simp) ⟨by omega,by simp⟩)).mono ?_;rintro e w3 ⟨rfl,hw3,hg3⟩;simp only [yb,YZ,yf]at hw3;have q3:Below w.heap.size w w3:=(q2.alloc (by omega) _).trans (z0T hg3 (by omega) (by simp;omega));have hs3:=q3.size;have HW3:Hid (Wr w3 G G (zAz q t)):=hw3;have hl3:=z3T ht;clear hw3 hb2 hg3 HW2 d1;go_wp2_with fail
 refine(z4W G G (zAz q t) w3 HW3.out (by unfold zAz;unfold z0y at hl3;rw [y6];omega)).mono ?_;rintro e w4 ⟨A4,k4,c4,rfl,hown4,hbl4⟩;go_wp2_with fail
 go_ret
 exact⟨A4,k4,c4,rfl,hown4.lower hs3,q3.trans (hbl4.mono hs3)⟩
def zC8(q:Nat)(t:List UInt8)(w:World)(e:Ending)(w':World):Prop:=
 (t.length<=32768->∃A k c,e= .returned (.tuple #[.slice A k c,.int .i64 0])/\Ob 5 w' w.heap.size (.slice A k c) (z7Q q t))/\
 (32768<t.length->e= .returned (.tuple #[.slice none 0 0,.int .i64 70]))/\Below w.heap.size w w'
theorem z6O(q:Nat)(t:List UInt8)(w:World)(hq:q<U64)(hb:BitsOk w)(ht:t.length<=1099511627776):
 Calls prog 120 #[.agg #[.int .u64 (q:Int),.string (st t)]] w (zC8 q t w):=by
 have hb0:=Blk.new w 154 #[.int .u64 (q:Int),.string (st t)];have HQ:=zz hq;have d1:(w.alloc (.cells #[.int .u64 (q:Int),.string (st t)] 154)).cell? ⟨w.heap.size,1,none⟩=some (.string (st t)):=hb0.cell 1;have q0:Below w.heap.size w (w.alloc (.cells #[.int .u64 (q:Int),.string (st t)] 154)):=(y7 _ _).alloc (y5 _) _;by_cases hl:32768<t.length
 .go_enter func120,ntmps120
  go_wp2_with fail
  go_ret2
  exact⟨fun h=>(by omega),fun _=>rfl,q0⟩
 .have hb':=zz (hb.later q0);have hF:=zz (zHv HQ.out (show t.length<=32768 by omega));clear hb;have c0:(w.alloc (.cells #[.int .u64 (q:Int),.string (st t)] 154)).cell? ⟨w.heap.size,0,none⟩=some (.int .u64 (q:Int)):=hb0.cell 0;go_enter func120,ntmps120
  go_wp2_with fail
  refine(zDR q t _ HQ.out (by omega)).mono ?_;rintro e w1 ⟨A1,k1,c1,rfl,hown1,hbl1⟩;have HO1:=zz hown1;have HB1:=zz (hb'.out.later hbl1);have q1:=q0.trans (hbl1.mono q0.size);have hs1:=q1.size;clear hown1 hbl1;go_wp2_with fail
  refine(zCp _ _ (zAz q t) w1 HB1.out (by have:=hF.out;omega) HO1.out.bs).mono ?_;rintro e w2 ⟨A2,k2,c2,rfl,hown2,hbl2⟩;obtain rfl:=hown2.len;have HO2:Hid (Ob 5 w2 w1.heap.size (.slice A2 (zDy q t).length c2) (zDy q t)):=hown2;have HB2:=zz (HB1.out.later hbl2);have q2:=q1.trans (hbl2.mono hs1);have hs2:=q2.size;have HL:(zDy q t).length<=32804:=by rw [zCi];have:=hF.out;omega
  have hwr:IntKind.u64.wrap ((zDy q t).length:Int)=((zDy q t).length:Int):=z1a (by omega) (by unfold U64;omega);rw [show zAz q t++beB (z4c (zAz q t)).toNat 4=zDy q t from rfl];clear hown2 hbl2 HO1 HB1;have HR:Hid (beB (zDy q t).length 4++zDy q t=z7Q q t):=rfl;generalize zDy q t=sl at*;go_wp2_with fail
  refine(zFs (fun _=>True) _ [] sl.length 4 w2 (by omega) (by omega) (by unfold U64;omega) (fun _=>by omega) HB2.out (by simp) (Bs.nilv _ _)).mono ?_;rintro e w3 ⟨A3,k3,c3,rfl,hown3,hbl3⟩;rw [yz]at hown3;have HO3:=zz (HO2.out.later hbl3);have q3:=q2.trans (hbl3.mono hs2);have hs3:=hbl3.size;clear hbl3;go_wp2_with (at_builtin;go_loud (refine z02 _ rfl (.tmp 21) (.tmp 22) z0p rfl hown3 HO3.out.bs rfl rfl (by rw [z18];omega) hs3 ?_);intro A4 k4 c4 w4 hown4 hg4 hat4)
  go_ret2
  rw [HR.out]at hown4;exact⟨fun _=>⟨A4,k4,c4,rfl,hown4.lower hs2⟩,fun h=>(by omega),q3.grown hg4 (by omega) (fun k hk=>by have:=(hown3.lt k hk).1;omega)⟩
def zE0:Option ((Nat×List UInt8)×Nat)->Value
 |some (r,n)=> .tuple #[zHx r,.int .i64 (n:Int),.bool true]
 |none=> .tuple #[zHx (0,[]),.int .i64 0,.bool false]
theorem z66:z1W prog 154 2:=⟨⟨_,underlying154⟩,by kernel_rfl⟩
theorem Blk.put2{w:World}{g:Nat}{t:TypeId}{a b:Value}(h:Blk w g t #[a,b])(x y:Value):Blk ((w.setCell ⟨g,0,none⟩ x).setCell ⟨g,1,none⟩ y) g t #[x,y]:=(h.put 0 x).put 1 y
theorem z8f(A:Option Addr)(k c:Nat)(w:World)(hk:k<4):
 Calls prog 145 #[.slice A k c] w fun e w'=>e= .returned (zE0 none)/\Below w.heap.size w w':=by
 have q0:Below w.heap.size w (w.alloc (.cells #[.int .u64 0,.string (st [])] 154)):=(y7 _ _).alloc (y5 _) _;have hb0:=Blk.new w 154 #[.int .u64 0,.string (st [])];go_enter func145,ntmps145
 go_wp2_with fail
 refine(zF8 A k c 4 _ (by omega) (by omega) hk).mono ?_;rintro e w1 ⟨rfl,rfl⟩;go_wp2_with fail
 exact bodyPost_ret (z1G rfl _ _ w.heap.size rfl hb0 z66) rfl ⟨rfl,q0⟩
theorem Ob.cases{e:TypeId}{w:World}{B:Nat}{A:Option Addr}{k c:Nat}{l:List UInt8}(h:Ob e w B (.slice A k c) l):(A=none/\l= []/\c=0)∨∃g,A=some ⟨g,0,none⟩:=by
 rcases h.2 with⟨hv,hn⟩|⟨g,cap,cur,hv,_⟩
 .injection hv with hA _ hc
  exact .inl ⟨hA,yX hn,hc⟩
 .injection hv with hA _ hc
  exact .inr ⟨g,hA⟩
theorem zFX{l:List UInt8}{er:Nat}(h:z27 l= .error er):er=20∨er=21:=by
 unfold z27 at h
 split at h
 .cases h;exact .inl rfl
 .split at h
  .cases h
  .cases h;exact .inr rfl
theorem zFY{l f:List UInt8}(h:z27 l= .ok f):f.length<=l.length:=by
 unfold z27 at h
 split at h
 .cases h
 .split at h
  .cases h;rw [yC];omega
  .cases h
def zHw(f:List UInt8)(n:Nat):Option ((Nat×List UInt8)×Nat):=
 if(z0S (z16 f 0).2.1 (z16 f 0).2.2).2.2=0/\(z0S (z16 f 0).2.1 (z16 f 0).2.2).2.1= []/\(z0S (z16 f 0).2.1 (z16 f 0).2.2).1.length<=32768
 then some (((z16 f 0).1,(z0S (z16 f 0).2.1 (z16 f 0).2.2).1),4+n)else none
def zDx(m:List UInt8)(n:Nat):Option ((Nat×List UInt8)×Nat):=match z27 (m.take n)with
 | .error _=>none
 | .ok f=>zHw f n
theorem zFv{l:List UInt8}(h:¬ (l.length<4∨(l.drop 4).length<deB (l.take 4))):z1h l=zDx (l.drop 4) (deB (l.take 4)):=by
 unfold z1h zDx zHw;rw [yA h];cases z27 ((l.drop 4).take (deB (l.take 4)))<;>rfl
theorem zAV:z27 []= .error 20:=by unfold z27;rw [yB (by simp)]
theorem zDv{l:List UInt8}{e:Nat}:z2w l e=0↔e=0/\l= []:=by
 unfold z2w;constructor
 .intro h
  split at h
  .cases h
  .rename_i h2;subst h;refine⟨rfl,?_⟩;rcases l with _|⟨b,l⟩
   .rfl
   .exact absurd ⟨rfl,by simp⟩ h2
 .rintro⟨rfl,rfl⟩;rfl
theorem zCf(l:List UInt8){e:Nat}(he:e<=1000):(z16 l e).1<U64/\(z16 l e).2.1.length<=l.length/\(z16 l e).2.2<=1000:=by
 unfold z16
 split
 .exact⟨by simp [U64],y5 _,he⟩
 .split
  .rename_i er hg;exact⟨by simp [U64],y5 _,(z6N hg).1⟩
  .rename_i x n hg;exact⟨(z2R hg).1,by rw [yI];omega,yU _⟩
theorem zAd(l:List UInt8){e:Nat}(he:e<=1000):(z0S l e).1.length<=65536/\(z0S l e).2.1.length<=l.length/\(z0S l e).2.2<=1000:=by
 unfold z0S
 split
 .exact⟨by simp,y5 _,he⟩
 .split
  .rename_i er hg;exact⟨by simp,y5 _,(z6N hg).1⟩
  .rename_i x n hg
   split
   .exact⟨by simp,y5 _,(show 32<=1000 by decide)⟩
   .split
    .exact⟨by simp,y5 _,(show 30<=1000 by decide)⟩
    .exact⟨by simp only [yC];omega,by simp only [yI];omega,yU _⟩
theorem zCk(S:Nat->Prop)(v0:Value)(l:List UInt8)(w:World)(hl:l.length<=1099511627776)(hr:Bs S w v0 l):
 Calls prog 145 #[v0] w fun e w'=>e= .returned (zE0 (z1h l))/\Below w.heap.size w w':=by
 have HR:Hid (Bs (fun b=>b<w.heap.size) w v0 l):=(Sl.lt hr (by omega)).more (fun _ h=>h.2);by_cases h4:l.length<4
 .obtain⟨A,c,rfl,_⟩:=hr.at;have e:z1h l=none:=by unfold z1h;rw [yB (.inl h4)]
  rw [e];exact z8f A l.length c w h4
 have q0:Below w.heap.size w (w.alloc (.cells #[.int .u64 0,.string (st [])] 154)):=(y7 _ _).alloc (y5 _) _;have hb0:=Blk.new w 154 #[.int .u64 0,.string (st [])];have hr0:Hid (Bs (fun b=>b<w.heap.size) (w.alloc (.cells #[.int .u64 0,.string (st [])] 154)) v0 l):=Sl.alloc HR.out (fun _ h=>h) _;have hd4:deB (l.take 4)<4294967296:=yE (z4o l 4) (by decide);have hdl:(l.drop 4).length<=1099511627776:=by rw [yI];omega
 go_enter func145,ntmps145
 go_wp2_with fail
 refine(zF7 _ v0 l 4 _ (by omega) (by omega) (by omega) hl hr0.out).mono ?_;rintro e w1 ⟨A1,k1,c1,rfl,hown1,hbl1⟩;obtain rfl:=hown1.len;have hb1:=hb0.later hbl1;have q1:=q0.trans (hbl1.mono q0.size);have hs1:=q1.size;have hwr:IntKind.u64.wrap ((l.drop 4).length:Int)=((l.drop 4).length:Int):=z1a (by omega) (by unfold U64;omega);have HO1:=zz hown1;have d0:w1.cell? ⟨w.heap.size,0,none⟩=some (.int .u64 0):=hb1.cell 0;have d1:w1.cell? ⟨w.heap.size,1,none⟩=some (.string (st [])):=hb1.cell 1;have f0:=hb1.free 0;have f1:=hb1.free 1;have HB1:=zz hb1;clear hown1 hb1 hb0 hbl1 hr0;by_cases hn:(l.drop 4).length<deB (l.take 4)
 .have HN:Hid (z1h l=none):=by unfold z1h;rw [Hid,yB (.inr hn)]
  generalize deB (l.take 4)=n at*;generalize l.drop 4=m at*;have t0:decide (m.length<n)=true:=by rw [yd];exact hn
  clear hn;go_wp2_with fail
  exact bodyPost_ret (z1G rfl _ _ w.heap.size rfl (HB1.out.put2 _ _) z66) rfl ⟨by rw [HN.out];rfl,(q1.setCell (by simp) _).setCell (by simp) _⟩
 .have hnm:deB (l.take 4)<=(l.drop 4).length:=by omega
  have HG:Hid (z1h l=zDx (l.drop 4) (deB (l.take 4))):=zFv (by omega);generalize deB (l.take 4)=n at*;generalize l.drop 4=m at*;have t0:decide (m.length<n)=false:=by rw [yj];exact hn
  clear hn;rcases HO1.out.cases with⟨rfl,rfl,rfl⟩|⟨g1,rfl⟩
  .obtain rfl:n=0:=by simpa using hnm
   have HN:Hid (z1h l=none):=by rw [Hid,HG.out,zDx,List.take_nil,zAV]
   clear HG;go_wp2_with fail
   refine(z9L _ _ [] w1 (by simp) (Bs.nilv (fun _=>True) _)).mono ?_;rintro e w2 ⟨_,her,hbl2⟩;obtain rfl:=her _ zAV;have hb2:=HB1.out.later hbl2;have e0:w2.cell? ⟨w.heap.size,0,none⟩=some (.int .u64 0):=hb2.cell 0;have e1:w2.cell? ⟨w.heap.size,1,none⟩=some (.string (st [])):=hb2.cell 1;have g0:=hb2.free 0;have g1:=hb2.free 1;have q2:=q1.trans (hbl2.mono hs1);clear her;go_wp2_with fail
   exact bodyPost_ret (z1G rfl _ _ w.heap.size rfl (hb2.put2 _ _) z66) rfl ⟨by rw [HN.out];rfl,(q2.setCell (by simp) _).setCell (by simp) _⟩
  .have hpre:=zz (Bs.pre HO1.out.bs hnm);have hcp:m.length<=c1:=by
    obtain⟨_,c',hv,h,_⟩:=HO1.out.bs.at;injection hv with _ _ hv
    omega
   have hml:(m.take n).length<=1099511627776:=by rw [yC];omega
   have HNM:=zz hnm;go_wp2_with fail
   refine(z9L _ _ (m.take n) w1 hml hpre.out).mono ?_;rintro e w2 ⟨hok,her,hbl2⟩;have hb2:=HB1.out.later hbl2;have q2:=q1.trans (hbl2.mono hs1);have hs2:=q2.size;cases ho:z27 (m.take n)with
   |error er=>
    obtain rfl:=her _ ho;have HN:Hid (z1h l=none):=by rw [Hid,HG.out,zDx,ho]
    have e0:w2.cell? ⟨w.heap.size,0,none⟩=some (.int .u64 0):=hb2.cell 0;have e1:w2.cell? ⟨w.heap.size,1,none⟩=some (.string (st [])):=hb2.cell 1;have g0:=hb2.free 0;have g1:=hb2.free 1;have t1:((er:Int) != 0)=true:=by
     rw [Yn];rcases zFX ho with rfl|rfl<;>decide
    clear her hok HG ho;go_wp2_with fail
    exact bodyPost_ret (z1G rfl _ _ w.heap.size rfl (hb2.put2 _ _) z66) rfl ⟨by rw [HN.out];rfl,(q2.setCell (by simp) _).setCell (by simp) _⟩
   |ok f=>
    obtain⟨A2,k2,c2,rfl,hown2⟩:=hok _ ho;have hfl:f.length<=1099511627776:=yD (zFY ho) hml;have HG:Hid (z1h l=zHw f n):=by rw [Hid,HG.out,zDx,ho]
    have HO2:=zz hown2;have HB2:=zz hb2;have hmf:=z0N prog;have hwn:IntKind.i64.wrap (4+(n:Int))=4+(n:Int):=YB _ (by omega);have hwn2:IntKind.i64.wrap (n:Int)=(n:Int):=YB _ (by omega);clear her hok ho hown2 hpre hb2 d0 d1 f0 f1;go_wp2_with fail
    refine(zCh _ _ f w2 hfl HO2.out.bs).mono ?_;rintro e w3 ⟨g,rfl,hg3,hr3,hbl3⟩;have HB3:=zz (HB2.out.later hbl3);have q3:=q2.trans (hbl3.mono hs2);have hs3:=q3.size;have hne:g≠w.heap.size:=by have:=HB2.out.lt;omega
    have HR3:=zz hr3;clear hr3;go_wp2_with fail
    refine(zHz g w2.heap.size f 0 w3 HR3.out hbl3.size hfl).mono ?_;rintro e w4 ⟨rfl,hr4,hgr4⟩;have hle4:=zCf f (e:=0) (by omega);obtain⟨X,hX⟩:∃X,z16 f 0=X:=⟨_,rfl⟩;rw [hX]at hr4 hle4;rw [hX];obtain⟨q,r4,e4⟩:=X;simp only at hr4 hle4 ⊢;have HB4:=zz (HB3.out.grown hgr4 (by simpa using hne));have q4:=q3.trans (z0T hgr4 (by omega) hs3);have hs4:=q4.size;have HR4:=zz hr4;have hw4:w2.heap.size<=w4.heap.size:=yD hbl3.size hgr4.size;clear hr4 hgr4;go_wp2_with fail
    refine(z7W g w2.heap.size r4 e4 w4 HR4.out hw4 (by omega)).mono ?_;rintro e w5 ⟨rfl,hr5,hgr5⟩;have hle5:=zAd r4 hle4.2.2;obtain⟨Y,hY⟩:∃Y,z0S r4 e4=Y:=⟨_,rfl⟩;rw [hY]at hr5 hle5;rw [hY];obtain⟨t,r5,e5⟩:=Y;simp only at hr5 hle5 ⊢;have HB5:=zz (HB4.out.grown hgr5 (by simpa using hne));have q5:=q4.trans (z0T hgr5 (by omega) hs4);have hs5:=q5.size;have HR5:=zz (hr5.later ((y7 _ _).alloc (y5 _) (.cells #[.int .u64 (q:Int),.string (st t)] 154)));have HG2:Hid (z1h l=if e5=0/\r5= []/\t.length<=32768 then some ((q,t),4+n)else none):=by rw [Hid,HG.out,zHw];simp only [hX,hY]
    have hnb:=Blk.new w5 154 #[.int .u64 (q:Int),.string (st t)];have q6:=q5.alloc hs5 (.cells #[.int .u64 (q:Int),.string (st t)] 154);have hb6:=HB5.out.alloc (.cells #[.int .u64 (q:Int),.string (st t)] 154);have hws5:w.heap.size≠w5.heap.size:=by have:=HB5.out.lt;omega
    have HRL:=zz (show r5.length<=1099511627776 by omega);clear hr5 hgr5 HG hX hY hle4 hle5;go_wp2_with fail
    refine(zIl g w2.heap.size r5 e5 _ HR5.out HRL.out).mono ?_;rintro e w6 ⟨rfl,rfl⟩;have d0:(w5.alloc (.cells #[.int .u64 (q:Int),.string (st t)] 154)).cell? ⟨w.heap.size,0,none⟩=some (.int .u64 0):=hb6.cell 0;have d1:(w5.alloc (.cells #[.int .u64 (q:Int),.string (st t)] 154)).cell? ⟨w.heap.size,1,none⟩=some (.string (st [])):=hb6.cell 1;have f0:=hb6.free 0;have f1:=hb6.free 1;have HZ:=zz (zDv (l:=r5) (e:=e5));by_cases hE:z2w r5 e5=0
    .have hz:=HZ.out.1 hE;rw [hE];by_cases ht:t.length<=32768
     .have HN:Hid (z1h l=some ((q,t),4+n)):=by rw [Hid,HG2.out,yB ⟨hz.1,hz.2,ht⟩]
      clear hz hE HG2;go_wp2_with fail
      exact bodyPost_ret (z1G rfl _ _ w.heap.size rfl (hb6.put2 _ _) z66) rfl ⟨by rw [HN.out];rfl,(q6.setCell (by simp) _).setCell (by simp) _⟩
     .have HN:Hid (z1h l=none):=by rw [Hid,HG2.out,yA (fun h=>ht h.2.2)]
      clear hz hE HG2;go_wp2_with fail
      exact bodyPost_ret (z1G rfl _ _ w.heap.size rfl (hb6.put2 _ _) z66) rfl ⟨by rw [HN.out];rfl,(q6.setCell (by simp) _).setCell (by simp) _⟩
    .have HN:Hid (z1h l=none):=by rw [Hid,HG2.out,yA (fun h=>hE (HZ.out.2 ⟨h.1,h.2.1⟩))]
     have t1:((z2w r5 e5:Int) != 0)=true:=by rw [Yn];omega
     generalize z2w r5 e5=ee at*;clear hE HG2 HZ;go_wp2_with fail
     exact bodyPost_ret (z1G rfl _ _ w.heap.size rfl (hb6.put2 _ _) z66) rfl ⟨by rw [HN.out];rfl,(q6.setCell (by simp) _).setCell (by simp) _⟩
def z2l:Option (List UInt8)->Option (Nat×List UInt8)
 |some s=>z7c s
 |none=>none
def zEL(f:SF)(a:Int)(w:World)(e:Ending)(w':World):Prop:=
 ∃ (r:Nat×List UInt8) (ok:Bool),e= .returned (.tuple #[zHx r,.bool ok])/\z2l (f a)=(if ok then some r else none)/\Below w.heap.size w w'
theorem z9g{f:SF}{a:Int}(r:Nat×List UInt8){w w':World}(h:z2l (f a)=none)(hb:Below w.heap.size w w'):zEL f a w (.returned (.tuple #[zHx r,.bool false])) w':=⟨r,false,rfl,h,hb⟩
theorem zK8{f:SF}{a:Int}(r:Nat×List UInt8){w w':World}(h:z2l (f a)=some r)(hb:Below w.heap.size w w'):zEL f a w (.returned (.tuple #[zHx r,.bool true])) w':=⟨r,true,rfl,h,hb⟩
theorem zAk{W:World}{g:Nat}{t:TypeId}{a b:Value}(h:Blk W g t #[a,b])(x y:Value):Blk ((W.setCell ⟨g,0,none⟩ x).setCell ⟨g,1,none⟩ y).drew g t #[x,y]:=(h.put 0 x).put 1 y
theorem z5O{B:Nat}{w W:World}(h:Below B w W){g:Nat}(hg:B<=g)(x y:Value):Below B w ((W.setCell ⟨g,0,none⟩ x).setCell ⟨g,1,none⟩ y).drew:=((h.setCell (p:=⟨g,0,none⟩) hg x).setCell (p:=⟨g,1,none⟩) hg y).drew
theorem zGH{f:SF}{a:Int}{s:List UInt8}(hv:f a=some s):z2l (f a)=z7c s:=by rw [hv];rfl
theorem zDh(h:Zn)(D:Dsk)(a:Int)(w:World)(hd:Dk w h D)(hok:D.Ok)(ha:InI a):
 Calls prog 137 #[.pointer (some ⟨h.g,0,none⟩),.int .i64 a] w (zEL D.view a w):=by
 have HD:=zz hd;have HOK:=zz hok;have b0:=Blk.new w 154 #[.int .u64 0,.string ⟨#[]⟩];have q0:=(y7 w.heap.size w).alloc (y5 _) (.cells #[.int .u64 0,.string ⟨#[]⟩] 154);have HB0:=zz b0;have HQ0:=zz q0;have HL0:Hid (Below w.heap.size w (w.alloc (.cells #[.int .u64 0,.string ⟨#[]⟩] 154))):=q0;clear hd hok b0 q0;go_enter func137,ntmps137
 go_wp2_with fail
 refine(z6q h D a _ (HD.out.later HL0.out) HOK.out ha).mono ?_;rintro e w1 ⟨hs,hn,hb1⟩;have HB1:=zz hb1;cases hv:D.view a with
 |none=>
  obtain rfl:=hn hv;have HT:Hid (z2l (D.view a)=none):=by rw [Hid,hv];rfl
  clear hs hn hb1 hv;go_wp2_with fail
  refine(zCk (fun _=>True) _ [] _ (by simp) Sl.nil).mono ?_;rintro e w2 ⟨rfl,hb2⟩;have hr:z1h []=none:=rfl;rw [hr];unfold zE0 zHx;have B0:=zz ((HB0.out.later HB1.out).later hb2);have Q2:=zz ((HQ0.out.trans (HB1.out.mono HQ0.out.size)).trans (hb2.mono (yD HQ0.out.size HB1.out.size)));have hlt:w.heap.size<w2.heap.size:=B0.out.lt;have B0a:=B0.out.alloc (.cells #[.int .u64 ((0:Nat):Int),.string (st [])] 154);have c0:(w2.alloc (.cells #[.int .u64 ((0:Nat):Int),.string (st [])] 154)).cell? ⟨w.heap.size,0,none⟩=some (.int .u64 0):=B0a.cell 0;have c1:(w2.alloc (.cells #[.int .u64 ((0:Nat):Int),.string (st [])] 154)).cell? ⟨w.heap.size,1,none⟩=some (.string ⟨#[]⟩):=B0a.cell 1;have cf0:(w2.alloc (.cells #[.int .u64 ((0:Nat):Int),.string (st [])] 154)).frozen? ⟨w.heap.size,0,none⟩=false:=B0a.free 0;have cf1:(w2.alloc (.cells #[.int .u64 ((0:Nat):Int),.string (st [])] 154)).frozen? ⟨w.heap.size,1,none⟩=false:=B0a.free 1;have B8:=Blk.new w2 154 #[.int .u64 ((0:Nat):Int),.string (st [])];have d0:(w2.alloc (.cells #[.int .u64 ((0:Nat):Int),.string (st [])] 154)).cell? ⟨w2.heap.size,0,none⟩=some (.int .u64 ((0:Nat):Int)):=B8.cell 0;have d1:(w2.alloc (.cells #[.int .u64 ((0:Nat):Int),.string (st [])] 154)).cell? ⟨w2.heap.size,1,none⟩=some (.string (st [])):=B8.cell 1;have df0:(w2.alloc (.cells #[.int .u64 ((0:Nat):Int),.string (st [])] 154)).frozen? ⟨w2.heap.size,0,none⟩=false:=B8.free 0;have df1:(w2.alloc (.cells #[.int .u64 ((0:Nat):Int),.string (st [])] 154)).frozen? ⟨w2.heap.size,1,none⟩=false:=B8.free 1;have BW:=zz B0a;have QW:=zz (Q2.out.alloc Q2.out.size (.cells #[.int .u64 ((0:Nat):Int),.string (st [])] 154));clear hb2 B0a B8;go_wp2_with fail
  generalize hW:w2.alloc _=W at*;have n8:¬w.heap.size=w2.heap.size:=by omega
  have n8':¬w2.heap.size=w.heap.size:=by omega
  go_region
  go_wp2_with fail
  refine bodyPost_ret (z0L rfl _ _ w.heap.size rfl (zAk BW.out _ _) z66) rfl ?_;exact z9g (0,[]) HT.out (z5O QW.out (y5 _) _ _)
 |some s=>
  obtain⟨A,c,rfl,hob⟩:=hs s hv;have HOB:=zz hob;have hsl:s.length<=512:=(HOK.out.view.at hv).2.2;have HTV:=zz (zGH hv);clear hs hn hb1 hv hob;go_wp2_with fail
  refine(zCk _ _ s _ (by omega) HOB.out.bs).mono ?_;rintro e w2 ⟨rfl,hb2⟩;have B0:=zz ((HB0.out.later HB1.out).later hb2);have Q2:=zz ((HQ0.out.trans (HB1.out.mono HQ0.out.size)).trans (hb2.mono (yD HQ0.out.size HB1.out.size)));have hlt:w.heap.size<w2.heap.size:=B0.out.lt;have n8:¬w.heap.size=w2.heap.size:=by omega
  have n8':¬w2.heap.size=w.heap.size:=by omega
  clear hb2;cases hg:z1h s with
  |none=>
   have HT:Hid (z2l (D.view a)=none):=by rw [Hid,HTV.out];unfold z7c;rw [hg]
   unfold zE0 zHx;have B0a:=B0.out.alloc (.cells #[.int .u64 ((0:Nat):Int),.string (st [])] 154);have c0:(w2.alloc (.cells #[.int .u64 ((0:Nat):Int),.string (st [])] 154)).cell? ⟨w.heap.size,0,none⟩=some (.int .u64 0):=B0a.cell 0;have c1:(w2.alloc (.cells #[.int .u64 ((0:Nat):Int),.string (st [])] 154)).cell? ⟨w.heap.size,1,none⟩=some (.string ⟨#[]⟩):=B0a.cell 1;have cf0:(w2.alloc (.cells #[.int .u64 ((0:Nat):Int),.string (st [])] 154)).frozen? ⟨w.heap.size,0,none⟩=false:=B0a.free 0;have cf1:(w2.alloc (.cells #[.int .u64 ((0:Nat):Int),.string (st [])] 154)).frozen? ⟨w.heap.size,1,none⟩=false:=B0a.free 1;have B8:=Blk.new w2 154 #[.int .u64 ((0:Nat):Int),.string (st [])];have d0:(w2.alloc (.cells #[.int .u64 ((0:Nat):Int),.string (st [])] 154)).cell? ⟨w2.heap.size,0,none⟩=some (.int .u64 ((0:Nat):Int)):=B8.cell 0;have d1:(w2.alloc (.cells #[.int .u64 ((0:Nat):Int),.string (st [])] 154)).cell? ⟨w2.heap.size,1,none⟩=some (.string (st [])):=B8.cell 1;have df0:(w2.alloc (.cells #[.int .u64 ((0:Nat):Int),.string (st [])] 154)).frozen? ⟨w2.heap.size,0,none⟩=false:=B8.free 0;have df1:(w2.alloc (.cells #[.int .u64 ((0:Nat):Int),.string (st [])] 154)).frozen? ⟨w2.heap.size,1,none⟩=false:=B8.free 1;have BW:=zz B0a;have QW:=zz (Q2.out.alloc Q2.out.size (.cells #[.int .u64 ((0:Nat):Int),.string (st [])] 154));clear B0a B8 hg;go_wp2_with fail
   generalize hW:w2.alloc _=W at*;go_region
   go_wp2_with fail
   refine bodyPost_ret (z0L rfl _ _ w.heap.size rfl (zAk BW.out _ _) z66) rfl ?_;exact z9g (0,[]) HT.out (z5O QW.out (y5 _) _ _)
  |some x=>
   obtain⟨⟨q,t⟩,n⟩:=x;unfold zE0 zHx;have HN:Hid (z2l (D.view a)=if n=s.length/\0<q then some (q,t)else none):=by rw [Hid,HTV.out];unfold z7c;rw [hg]
   have B0a:=B0.out.alloc (.cells #[.int .u64 (q:Int),.string (st t)] 154);have c0:(w2.alloc (.cells #[.int .u64 (q:Int),.string (st t)] 154)).cell? ⟨w.heap.size,0,none⟩=some (.int .u64 0):=B0a.cell 0;have c1:(w2.alloc (.cells #[.int .u64 (q:Int),.string (st t)] 154)).cell? ⟨w.heap.size,1,none⟩=some (.string ⟨#[]⟩):=B0a.cell 1;have cf0:(w2.alloc (.cells #[.int .u64 (q:Int),.string (st t)] 154)).frozen? ⟨w.heap.size,0,none⟩=false:=B0a.free 0;have cf1:(w2.alloc (.cells #[.int .u64 (q:Int),.string (st t)] 154)).frozen? ⟨w.heap.size,1,none⟩=false:=B0a.free 1;have B8:=Blk.new w2 154 #[.int .u64 (q:Int),.string (st t)];have d0:(w2.alloc (.cells #[.int .u64 (q:Int),.string (st t)] 154)).cell? ⟨w2.heap.size,0,none⟩=some (.int .u64 (q:Int)):=B8.cell 0;have d1:(w2.alloc (.cells #[.int .u64 (q:Int),.string (st t)] 154)).cell? ⟨w2.heap.size,1,none⟩=some (.string (st t)):=B8.cell 1;have df0:(w2.alloc (.cells #[.int .u64 (q:Int),.string (st t)] 154)).frozen? ⟨w2.heap.size,0,none⟩=false:=B8.free 0;have df1:(w2.alloc (.cells #[.int .u64 (q:Int),.string (st t)] 154)).frozen? ⟨w2.heap.size,1,none⟩=false:=B8.free 1;have BW:=zz B0a;have QW:=zz (Q2.out.alloc Q2.out.size (.cells #[.int .u64 (q:Int),.string (st t)] 154));clear B0a B8 hg;by_cases hns:n=s.length
   .subst hns;by_cases hq:0<q
    .have HT:Hid (z2l (D.view a)=some (q,t)):=by rw [Hid,HN.out,yB ⟨rfl,hq⟩]
     have hqi:(0:Int)<(q:Int):=by omega
     have hqd:decide (0<q)=true:=by simpa using hq
     clear hq;go_wp2_with fail
     generalize hW:w2.alloc _=W at*;go_region
     go_wp2_with fail
     refine bodyPost_ret (z0L rfl _ _ w.heap.size rfl (zAk BW.out _ _) z66) rfl ?_;exact zK8 (q,t) HT.out (z5O QW.out (y5 _) _ _)
    .obtain rfl:q=0:=by omega
     have HT:Hid (z2l (D.view a)=none):=by rw [Hid,HN.out,yA (by omega)]
     clear hq;go_wp2_with fail
     generalize hW:w2.alloc _=W at*;go_region
     go_wp2_with fail
     refine bodyPost_ret (z0L rfl _ _ w.heap.size rfl (zAk BW.out _ _) z66) rfl ?_;exact z9g (0,t) HT.out (z5O QW.out (y5 _) _ _)
   .have HT:Hid (z2l (D.view a)=none):=by rw [Hid,HN.out,yA (fun h=>hns h.1)]
    have hnb:((n:Int)==(s.length:Int))=false:=by simp;omega
    clear hns;go_wp2_with fail
    generalize hW:w2.alloc _=W at*;go_region
    go_wp2_with fail
    refine bodyPost_ret (z0L rfl _ _ w.heap.size rfl (zAk BW.out _ _) z66) rfl ?_;exact z9g (q,t) HT.out (z5O QW.out (y5 _) _ _)
def z9s(f:SF)(a:Int):Nat->Nat×Int×List UInt8
 |0=>(0,1,[])
 |i+1=>z5x f a (z9s f a i) (i:Int)
theorem z44(f:SF)(a:Int)(x:Nat×Int×List UInt8)(i:Int):z5x f a x i=match z2l (f (a+i))with|some (q,t)=>if x.1<q then(q,i,t)else x|none=>x:=by
 unfold z5x z2l;cases f (a+i)with
 |none=>rfl
 |some s=>rfl
structure Mk(w:World)(g:Nat)(h:Zn)(a:Int)(num:Nat)(last:Int):Prop where
 blk:Blk w g 246 #[.pointer (some ⟨h.g,0,none⟩),.int .i64 a,.int .u64 (num:Int),.int .i64 last]
structure MbSt(w wr:World)(h:Zn)(a:Int)(x:Nat×Int×List UInt8):Prop where
 blk:Blk wr w.heap.size 246 #[.pointer (some ⟨h.g,0,none⟩),.int .i64 a,.int .u64 (x.1:Int),.int .i64 x.2.1]
 below:Below w.heap.size w wr
theorem MbSt.to{w wr w':World}{h:Zn}{a:Int}{x:Nat×Int×List UInt8}(s:MbSt w wr h a x)(hb:Below wr.heap.size wr w'):MbSt w w' h a x:=⟨s.blk.later hb,s.below.trans (hb.mono s.below.size)⟩
theorem mb_put{w W:World}{h:Zn}{a:Int}{x:Nat×Int×List UInt8}(s:MbSt w W h a x)(n:Nat){q:Nat}{i:Int}{t:List UInt8}:
 MbSt w (((W.drewN n).setCell ⟨w.heap.size,2,none⟩ (.int .u64 (q:Int))).setCell ⟨w.heap.size,3,none⟩ (.int .i64 i)).drew h a (q,i,t):=by
 have s2:=s.to (below_drewN (y7 _ _) n);exact⟨(s2.blk.put 2 (.int .u64 (q:Int))).put 3 (.int .i64 i),((s2.below.setCell (p:=⟨w.heap.size,2,none⟩) (y5 _) _).setCell (p:=⟨w.heap.size,3,none⟩) (y5 _) _).drew⟩
def zIa(h:Zn)(D:Dsk)(a:Int)(w:World)(e:Ending)(w':World):Prop:=
 ∃g,e= .returned (.tuple #[.pointer (some ⟨g,0,none⟩),.string (st (z1q D.view a).2.2),.int .i64 (zJp (z1q D.view a):Nat)])/\
  Mk w' g h a (z1q D.view a).1 (z1q D.view a).2.1/\w.heap.size<=g/\Below w.heap.size w w'
theorem z8S(f:SF)(a:Int):∀i,(z9s f a i).1=0->(z9s f a i).2.2= []
 |0,_=>rfl
 |i+1,h=>by
  have ih:=z8S f a i;rw [z9s,z44]at h ⊢;cases ht:z2l (f (a+(i:Int)))with
  |none=>rw [ht]at h;exact ih h
  |some x=>
   obtain⟨q,t⟩:=x;rw [ht]at h;simp only at h ⊢;by_cases hq:(z9s f a i).1<q
   .rw [yB hq]at h;simp only at h;omega
   .rw [yA hq]at h ⊢;exact ih h
theorem zIr{h:Zn}{D:Dsk}{a:Int}{w wr:World}{b:List UInt8}{n:Nat}(s:MbSt w wr h a (z9s D.view a 2))(hb:(z9s D.view a 2).2.2=b)(hn:zJp (z9s D.view a 2)=n){ev:Int}(he:ev=(n:Int)):
 zIa h D a w (.returned (.tuple #[.pointer (some ⟨w.heap.size,0,none⟩),.string (st b),.int .i64 ev])) wr:=by
 subst hb hn he;exact⟨w.heap.size,rfl,⟨s.blk⟩,y5 _,s.below⟩
theorem zFV(h:Zn)(D:Dsk)(a:Int)(w:World)(hd:Dk w h D)(hok:D.Ok)(h0:0<=a)(h1:a<=65534):
 Calls prog 102 #[.pointer (some ⟨h.g,0,none⟩),.int .i64 a] w (zIa h D a w):=by
 have HD:=zz hd;have HOK:=zz hok;have n0:¬a<0:=by omega
 have n1:¬65534<a:=by omega
 have S0:Hid (MbSt w (w.alloc (.cells #[.pointer (some ⟨h.g,0,none⟩),.int .i64 a,.int .u64 0,.int .i64 1] 246)) h a (z9s D.view a 0)):=⟨Blk.new _ _ _,(y7 _ _).alloc (y5 _) _⟩;clear hd hok;go_enter func102,ntmps102
 go_wp2_with fail
 go_loopw [8,22] (fun bv iv wr=>∃i:Nat,iv= .int .i64 (i:Int)/\i<=2/\bv= .string (st (z9s D.view a i).2.2)/\Hid (MbSt w wr h a (z9s D.view a i))) (fun _ iv _=>2-(intOf iv).toNat)
 case atStart=>exact⟨0,rfl,by omega,rfl,S0⟩
 case round=>
  clear S0;obtain⟨i,rfl,hi,rfl,HST⟩:=hrel;by_cases hil:i<2
  .have hai:InI (a+(i:Int)):=by unfold InI;omega
   have HUP:Hid (z9s D.view a (i+1)=z5x D.view a (z9s D.view a i) (i:Int)):=rfl;obtain⟨x,hx⟩:∃x,z9s D.view a i=x:=⟨_,rfl⟩;rw [hx]at HUP HST;rw [hx];obtain⟨num,last,body⟩:=x;clear hx;go_wp2_with fail
   refine(zDh h D _ _ (HD.out.later HST.out.below) HOK.out hai).mono ?_;rintro e w1 ⟨⟨q,t⟩,ok,rfl,ht,hb1⟩;have s1:=HST.out.to hb1;have HS2:=zz (s1.to ((y7 _ _).alloc (y5 _) (.cells #[.int .u64 (q:Int),.string (st t)] 154)));have B8:=Blk.new w1 154 #[.int .u64 (q:Int),.string (st t)];have d0:(w1.alloc (.cells #[.int .u64 (q:Int),.string (st t)] 154)).cell? ⟨w1.heap.size,0,none⟩=some (.int .u64 (q:Int)):=B8.cell 0;have d1:(w1.alloc (.cells #[.int .u64 (q:Int),.string (st t)] 154)).cell? ⟨w1.heap.size,1,none⟩=some (.string (st t)):=B8.cell 1;have df0:(w1.alloc (.cells #[.int .u64 (q:Int),.string (st t)] 154)).frozen? ⟨w1.heap.size,0,none⟩=false:=B8.free 0;have df1:(w1.alloc (.cells #[.int .u64 (q:Int),.string (st t)] 154)).frozen? ⟨w1.heap.size,1,none⟩=false:=B8.free 1;have m0:(w1.alloc (.cells #[.int .u64 (q:Int),.string (st t)] 154)).cell? ⟨w.heap.size,0,none⟩=some (.pointer (some ⟨h.g,0,none⟩)):=HS2.out.blk.cell 0;have m1:(w1.alloc (.cells #[.int .u64 (q:Int),.string (st t)] 154)).cell? ⟨w.heap.size,1,none⟩=some (.int .i64 a):=HS2.out.blk.cell 1;have m2:(w1.alloc (.cells #[.int .u64 (q:Int),.string (st t)] 154)).cell? ⟨w.heap.size,2,none⟩=some (.int .u64 (num:Int)):=HS2.out.blk.cell 2;have m3:(w1.alloc (.cells #[.int .u64 (q:Int),.string (st t)] 154)).cell? ⟨w.heap.size,3,none⟩=some (.int .i64 last):=HS2.out.blk.cell 3;have mf0:(w1.alloc (.cells #[.int .u64 (q:Int),.string (st t)] 154)).frozen? ⟨w.heap.size,0,none⟩=false:=HS2.out.blk.free 0;have mf1:(w1.alloc (.cells #[.int .u64 (q:Int),.string (st t)] 154)).frozen? ⟨w.heap.size,1,none⟩=false:=HS2.out.blk.free 1;have mf2:(w1.alloc (.cells #[.int .u64 (q:Int),.string (st t)] 154)).frozen? ⟨w.heap.size,2,none⟩=false:=HS2.out.blk.free 2;have mf3:(w1.alloc (.cells #[.int .u64 (q:Int),.string (st t)] 154)).frozen? ⟨w.heap.size,3,none⟩=false:=HS2.out.blk.free 3;have hlt:w.heap.size<w1.heap.size:=s1.blk.lt;have n8:¬w.heap.size=w1.heap.size:=by omega
   have n8':¬w1.heap.size=w.heap.size:=by omega
   have HT:=zz ht;clear B8 s1 hb1 ht;unfold zHx;cases ok with
   |false=>
    have HU:Hid (z9s D.view a (i+1)=(num,last,body)):=by rw [Hid,HUP.out,z44,HT.out];rfl
    go_wp2_with fail
    generalize hW:w1.alloc _=W at*;go_quiet (fail)
    go_wp2_with fail
    go_roundw
    case rel=>exact⟨i+1,by go_num,by omega,by rw [HU.out],by rw [HU.out];exact HS2.out.to (below_drewN (y7 _ _) _)⟩
    case measure=>simp [intOf];omega
   |true=>
    by_cases hq:num<q
    .have HU:Hid (z9s D.view a (i+1)=(q,(i:Int),t)):=by rw [Hid,HUP.out,z44,HT.out];simp [hq]
     have hqd:decide (num<q)=true:=by simpa using hq
     clear hq;go_wp2_with fail
     generalize hW:w1.alloc _=W at*;go_quiet (fail)
     go_wp2_with fail
     go_region
     go_wp2_with fail
     go_roundw
     case rel=>exact⟨i+1,by go_num,by omega,by rw [HU.out],by rw [HU.out];exact mb_put HS2.out nq⟩
     case measure=>simp [intOf];omega
    .have HU:Hid (z9s D.view a (i+1)=(num,last,body)):=by rw [Hid,HUP.out,z44,HT.out];simp [hq]
     have hqd:decide (num<q)=false:=by simpa using hq
     clear hq;go_wp2_with fail
     generalize hW:w1.alloc _=W at*;go_quiet (fail)
     go_wp2_with fail
     go_roundw
     case rel=>exact⟨i+1,by go_num,by omega,by rw [HU.out],by rw [HU.out];exact HS2.out.to (below_drewN (y7 _ _) _)⟩
     case measure=>simp [intOf];omega
  .obtain rfl:i=2:=by omega
   have HE:=z8S D.view a 2;obtain⟨x,hx⟩:∃x,z9s D.view a 2=x:=⟨_,rfl⟩;have HX:=zz hx;rw [hx]at HE HST ⊢;obtain⟨num,last,body⟩:=x;simp only at HE HST;have m0:(wr).cell? ⟨w.heap.size,0,none⟩=some (.pointer (some ⟨h.g,0,none⟩)):=HST.out.blk.cell 0;have m1:(wr).cell? ⟨w.heap.size,1,none⟩=some (.int .i64 a):=HST.out.blk.cell 1;have m2:(wr).cell? ⟨w.heap.size,2,none⟩=some (.int .u64 (num:Int)):=HST.out.blk.cell 2;have m3:(wr).cell? ⟨w.heap.size,3,none⟩=some (.int .i64 last):=HST.out.blk.cell 3;have mf0:(wr).frozen? ⟨w.heap.size,0,none⟩=false:=HST.out.blk.free 0;have mf1:(wr).frozen? ⟨w.heap.size,1,none⟩=false:=HST.out.blk.free 1;have mf2:(wr).frozen? ⟨w.heap.size,2,none⟩=false:=HST.out.blk.free 2;have mf3:(wr).frozen? ⟨w.heap.size,3,none⟩=false:=HST.out.blk.free 3;have HEE:=zz HE;clear HE hx;by_cases hn0:num=0
   .subst hn0;go_wp2_with fail
    go_ret3
    exact zIr (by rw [HX.out];exact HST.out) (by rw [HX.out];exact HEE.out (by trivial)) (by rw [HX.out];rfl) rfl
   .have hnb:((num:Int)==0)=false:=by simp;omega
    go_wp2_with fail
    go_ret3
    exact zIr (by rw [HX.out];exact HST.out) (by rw [HX.out]) (by rw [HX.out];exact yA hn0) rfl
theorem Dk.other{w w':World}{h:Zn}{D:Dsk}(d:Dk w h D){z:Nat}{t:TypeId}(hz:z0G w z=some (some t))(ht:t∉ [145,288,3,78,5])(hg:w.grownBy w' (some z)):Dk w' h D:=by
 simp only [y9,yH,yp,not_or]at ht;obtain⟨t1,t2,t3,t4,t5⟩:=ht;obtain⟨vs,h1,h2⟩:=d.pend;have ne:∀ {b:Nat} {k:Option TypeId},z0G w b=some k->k≠some t->b≠z:=fun hb hk e=>by subst e;rw [hz]at hb;injection hb with hb;exact hk hb.symm
 refine⟨d.blk.grown hg (fun e=> ?_),d.view.other (ne d.view.kind (by simp)) (by rw [hz];simpa using t5) hg,d.ground.other (ne d.ground.kind (by simp)) (by rw [hz];simpa using t5) hg,d.ne,vs,h1.other (fun e=> ?_) hg,h2.keep fun v p hp=>hp.other (fun s hs=> ?_) hg⟩
 .injection e with e
  subst e;have:=z0I d.blk;rw [hz]at this;injection this with this
  injection this with this
  exact t1 this
 .have:=z2T h1 e;rw [hz]at this;injection this with this
  injection this with this
  exact t2 this
 .rw [hz];intro e;injection e with e
  injection e with e
  subst e;simp only [z2j,y9,yH,yp]at hs;rcases hs with h|h|h
  .exact t3 h
  .exact t4 h
  .exact t5 h
structure Mtp(h:Zn)(gm:Nat)(w:World)(h':Zn)(w':World):Prop where
 g:h'.g=h.g
 turn:Turn (fun b=>h.has b∨b=gm) w w'
 has:∀b,h'.has b->h.has b∨w.heap.size<=b
theorem Mtp.of_stp{h h':Zn}{g:Nat}{w w':World}(s:Stp h w h' w'):Mtp h g w h' w':=⟨s.g,s.turn.mono fun b hb _=> .inl hb,s.has⟩
theorem Mk.later{w w':World}{g:Nat}{h:Zn}{a:Int}{num:Nat}{last:Int}(m:Mk w g h a num last)(hb:Below w.heap.size w w'):Mk w' g h a num last:=⟨m.blk.later hb⟩
end
section
open Go Tryz
theorem c15:∀b,b<256->∀t,t<5->b / 16<=4->b%16<=4->((b / 16+16*t+b)&&& 15=(b / 16+b)&&& 15):=by decide+kernel
end
section
open Go Go.RowKit Tryz
def flipAt(l:List Bool)(k:Nat):List Bool:=l.set k (!(l.getD k false))
def hasB(l:List Bool)(p:Int):Bool:=decide (0<=p)&&decide (p<l.length)&&l.getD p.toNat false
def zIg(l:List Bool)(p:Int):List Bool×Nat:=if p<0∨(l.length:Int)<=p∨hasB l p=true then(l,92)else(flipAt l p.toNat,0)
end
end Go.Proofs.YthnlcbamjehpdaaGreatDoor
