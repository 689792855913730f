/- Part 4. -/
import Derived.Test.YtdkobefpnjbgnaaGreatDoorMovePutsJ3
import Derived.StillTailTactics
import Derived.BigRegion
import Derived.IntWalk
import Derived.Laws.EntriesVeiled
import Derived.Lib.TrailingZeros
namespace Go.Proofs.YtdkobefpnjbgnaaGreatDoor
set_option linter.unusedVariables false
set_option maxHeartbeats 16000000
set_option maxRecDepth 100000
section
open Go Go.RowKit
def z0E(w:World)(b:Nat):Option (Option TypeId):=match w.heap[b]? with
 |some (.cells _ t _)=>some (some t)
 |some (.map _ _)=>some none
 |_=>none
theorem z0F{w:World}{g:Nat}{t:TypeId}{cs:Array Value}(h:Blk w g t cs):z0E w g=some (some t):=by unfold Blk at h;unfold z0E;rw [h]
theorem z1E{w:World}{base:Nat}{e:TypeId}{size n:Nat}{v:Value}{xs:List Value}(h:w.ownsRow base e size v n xs){b:Nat}(hb:v.ownBlock=some b):z0E w b=some (some e):=by
 rcases h.2 with⟨rfl,_⟩|⟨g,cap,cur,rfl,_,hh,_⟩
 ·cases hb
 ·simp only [Value.ownBlock,Option.some.injEq]at hb;subst hb;unfold z0E;rw [hh]
theorem z2Z{w:World}{b:Nat}{t:Option TypeId}(h:z0E w b=some t):b<w.heap.size:=by
 rcases Nat.lt_or_ge b w.heap.size with h1|h1
 ·exact h1
 ·unfold z0E at h;rw [Array.getElem?_eq_none h1]at h;cases h
theorem zGz(w:World)(t:TypeId)(cs:Array Value):z0E (w.alloc (.cells cs t)) w.heap.size=some (some t):=z0F (Blk.new w t cs)
theorem zIp{w w':World}{b:Nat}{t:Option TypeId}(h:w'.heap[b]? =w.heap[b]?)(hk:z0E w b=some t):z0E w' b=some t:=by unfold z0E at hk ⊢;rw [h];exact hk
def KSl(e:TypeId)(size:Nat)(w:World)(v:Value)(n:Nat)(xs:List Value):Prop:=Sl (fun b=>z0E w b=some (some e)) w size v n xs
section
variable {e:TypeId} {size n:Nat} {w w':World} {v:Value} {xs:List Value}
theorem KSl.keep(h:KSl e size w v n xs)(hk:∀b,z0E w b=some (some e)→w'.heap[b]? =w.heap[b]?):KSl e size w' v n xs:=by
 obtain⟨h1,A,c,h2,h3,h4,h5,h6⟩:=h;refine⟨h1,A,c,h2,h3,h4,h5,fun hl=> ?_⟩;obtain⟨b,o,hA,hs,hc⟩:=h6 hl;have hb:=hk b hs;refine⟨b,o,hA,zIp hb hs,fun j u hu=> ?_⟩;rw [World.cell?_of_block (a:=⟨b,o+j,none⟩) hb];exact hc j u hu
theorem KSl.later(h:KSl e size w v n xs)(hb:Below w.heap.size w w'):KSl e size w' v n xs:=h.keep fun b hk=>hb.block b (z2Z hk)
theorem KSl.of_own{base:Nat}(hsz:0<size)(h:w.ownsRow base e size v n xs):KSl e size w v n xs:=by
 have hs:=Sl.of_own hsz h;rcases h.2 with⟨rfl,hn⟩|⟨g,cap,cur,rfl,hB,hh,_⟩
 ·obtain⟨h1,A,c,h2,h3,h4,h5,h6⟩:=hs;exact⟨h1,A,c,h2,h3,h4,h5,fun hl=>by omega⟩
 ·obtain⟨h1,A,c,h2,h3,h4,h5,h6⟩:=hs;refine⟨h1,A,c,h2,h3,h4,h5,fun hl=> ?_⟩;obtain⟨b,o,hA,_,hc⟩:=h6 hl;injection h2 with hA2
  rw [hA]at hA2;injection hA2 with hA2
  injection hA2 with hb
  subst hb;exact⟨g,o,hA,z0F (t:=e) (cs:=cur) hh,hc⟩
theorem KSl.lt(h:KSl e size w v n xs):Sl (fun b=>b<w.heap.size) w size v n xs:=Sl.more h fun _ hk=>z2Z hk
theorem KSl.new(w:World)(e:TypeId)(size:Nat)(hsz:0<size)(cs:Array Value)(n:Nat)(hn:0<n)(hm:n≤maxLen)(hc:cs.size=n*size){g:Nat}(hg:g=w.heap.size):
 KSl e size (w.alloc (.cells cs e)) (.slice (some ⟨g,0,none⟩) n n) n cs.toList:=by
 subst hg;refine⟨by simpa using hc,_,n,rfl,Nat.le_refl _,hm,(fun h=>by cases h),fun _=>⟨_,0,rfl,zGz _ _ _,fun j u hu=> ?_⟩⟩;rw [World.cell?_alloc_new,Nat.zero_add];simpa using hu
end
theorem z1J:Tryz.prog.underlying 3=some (.int .i64):=Tryz.underlying3
theorem z5N:Tryz.prog.underlying 161=some (.map 3 25):=Tryz.underlying161
theorem z32(w:World):(zeroValue 25).run Tryz.prog w= .ok (.slice none 0 0) w:=by kernel_rfl
theorem z23{P:Program}{k:TypeId}{w:World}{b n:Nat}{f:Int→Option Value}(h:MpV P k w b f n):z0E w b=some none:=by
 obtain⟨es,c,hb⟩:=h.isMap;unfold z0E;rw [hb]
theorem zAx{w:World}{B b:Nat}(h:UbS w B b):z0E w b=some (some 5):=by
 obtain⟨_,cs,fz,hh⟩:=h;unfold z0E;rw [hh]
theorem Ub.other{w w':World}{B:Nat}{v:Value}{l:List UInt8}(h:Ub w B v l){z:Nat}(hz:z0E w z≠some (some 5))(hg:w.grownBy w' (some z)):Ub w' B v l:=
 h.keep fun b hb=>hg.block b (by obtain⟨_,cs,fz,hh⟩:=hb;exact lt_of_block hh) (fun e=>by
  injection e with e
  subst e;exact hz (zAx hb))
theorem MpV.other{P:Program}{k:TypeId}{w w':World}{b n:Nat}{f:Int→Option Value}(h:MpV P k w b f n){z:Nat}(hz:b≠z)(hg:w.grownBy w' (some z)):MpV P k w' b f n:=
 h.at (hg.block b h.lt (fun e=>hz (by injection e)))
theorem Ow.other{e:TypeId}{w w':World}{B:Nat}{v:Value}{xs:List Value}(h:Ow e w B v xs){z:Nat}(hz:v.ownBlock≠some z)(hg:w.grownBy w' (some z)):Ow e w' B v xs:=by
 obtain⟨h1,h2⟩:=h;refine⟨h1,?_⟩;rcases h2 with h2|⟨g,cap,cur,hv,hB,hh,r⟩
 ·exact .inl h2
 ·refine .inr ⟨g,cap,cur,hv,hB,?_,r⟩;exact(hg.block g (lt_of_block hh) (fun e=>hz (by rw [hv];exact e))).trans hh
def SecV(w:World)(v:Option Value)(l:Option (List UInt8)):Prop:=match v,l with
 |none,none=>True
 |some v,some l=>Ub w 0 v l
 |_,_=>False
def Secs(w:World)(b:Nat)(f:SF)(n:Nat):Prop:=∃m,MpV Tryz.prog 3 w b m n∧∀a,InI a→SecV w (m a) (f a)
theorem SecV.keep{w w':World}{v:Option Value}{l:Option (List UInt8)}(h:SecV w v l)(hk:∀v l,Ub w 0 v l→Ub w' 0 v l):SecV w' v l:=by
 unfold SecV at h ⊢;cases v<;>cases l<;>simp_all
theorem SecV.some_iff{w:World}{v:Option Value}{l:Option (List UInt8)}(h:SecV w v l):v.isSome=l.isSome:=by
 unfold SecV at h;cases v<;>cases l<;>simp_all
theorem Secs.later{w w':World}{b n:Nat}{f:SF}(h:Secs w b f n)(hb:Below w.heap.size w w'):Secs w' b f n:=by
 obtain⟨m,h1,h2⟩:=h;exact⟨m,h1.later hb,fun a ha=>(h2 a ha).keep fun _ _ h=>h.later hb⟩
theorem Secs.other{w w':World}{b n:Nat}{f:SF}(h:Secs w b f n){z:Nat}(hz:b≠z)(hz2:z0E w z≠some (some 5))(hg:w.grownBy w' (some z)):Secs w' b f n:=by
 obtain⟨m,h1,h2⟩:=h;exact⟨m,h1.other hz hg,fun a ha=>(h2 a ha).keep fun _ _ h=>h.other hz2 hg⟩
theorem Secs.kind{w:World}{b n:Nat}{f:SF}(h:Secs w b f n):z0E w b=some none:=by
 obtain⟨m,h1,_⟩:=h;exact z23 h1
theorem Secs.lt{w:World}{b n:Nat}{f:SF}(h:Secs w b f n):b<w.heap.size:=by
 obtain⟨m,h1,_⟩:=h;exact h1.lt
theorem Secs.made(w:World):Secs (w.alloc (.map #[] 0)) w.heap.size (fun _=>none) 0:=⟨_,MpV.made _ _ w,fun _ _=>trivial⟩
structure Turn(F:Nat→Prop)(w w':World):Prop where
 os:w'.os=w.os
 tape:w'.tape=w.tape
 output:w'.output=w.output
 size:w.heap.size≤w'.heap.size
 block:∀b,b<w.heap.size→¬F b→w'.heap[b]? =w.heap[b]?
theorem Turn.refl(F:Nat→Prop)(w:World):Turn F w w:=⟨rfl,rfl,rfl,Nat.le_refl _,fun _ _ _=>rfl⟩
theorem Turn.of_below{F:Nat→Prop}{w w':World}(h:Below w.heap.size w w'):Turn F w w':=⟨h.os,h.tape,h.output,h.size,fun b hb _=>h.block b hb⟩
theorem Turn.of_grown{F:Nat→Prop}{w w':World}{row:Option Nat}(h:w.grownBy w' row)(hr:∀z,row=some z→F z):Turn F w w':=
 ⟨h.os,h.tape,h.output,h.size,fun b hb hF=>h.block b hb (fun e=>hF (hr b e.symm))⟩
theorem Turn.trans{F F':Nat→Prop}{w w1 w2:World}(h:Turn F w w1)(k:Turn F' w1 w2)(hF:∀b,F' b→F b∨w.heap.size≤b):Turn F w w2:=
 ⟨k.os.trans h.os,k.tape.trans h.tape,k.output.trans h.output,Nat.le_trans h.size k.size,fun b hb hn=>
   (k.block b (Nat.lt_of_lt_of_le hb h.size) (fun e=>by rcases hF b e with h1|h1;exact hn h1;omega)).trans (h.block b hb hn)⟩
theorem Turn.mono{F F':Nat→Prop}{w w':World}(h:Turn F w w')(hF:∀b,F b→b<w.heap.size→F' b):Turn F' w w':=⟨h.os,h.tape,h.output,h.size,fun b hb hn=>h.block b hb (fun e=>hn (hF b e hb))⟩
theorem Turn.below{F:Nat→Prop}{B:Nat}{w0 w w':World}(h:Below B w0 w)(k:Turn F w w')(hB:B≤w.heap.size)(hF:∀b,F b→B≤b):Below B w0 w':=
 ⟨k.os.trans h.os,k.tape.trans h.tape,k.output.trans h.output,Nat.le_trans h.size k.size,fun b hb=>
   (k.block b (Nat.lt_of_lt_of_le hb hB) (fun e=>by have:=hF b e;omega)).trans (h.block b hb)⟩
theorem Turn.setCell{F:Nat→Prop}{w w':World}(h:Turn F w w'){p:Addr}(hp:F p.block∨w.heap.size≤p.block)(u:Value):Turn F w (w'.setCell p u):=
 ⟨h.os,h.tape,h.output,by simpa using h.size,fun b hb hn=>(Below.heap_setCell w' p u b (fun e=>by subst e;rcases hp with h1|h1;exact hn h1;omega)).trans (h.block b hb hn)⟩
theorem Turn.alloc{F:Nat→Prop}{w w':World}(h:Turn F w w')(o:Obj):Turn F w (w'.alloc o):=
 h.trans (F':=fun _=>False) (Turn.of_below ((Below.refl _ _).alloc (Nat.le_refl _) o)) (fun _ h=>h.elim)
theorem Turn.drew{F:Nat→Prop}{w w':World}(h:Turn F w w'):Turn F w w'.drew:=⟨h.os,h.tape,h.output,h.size,h.block⟩
theorem Blk.turn{F:Nat→Prop}{w w':World}{g:Nat}{t:TypeId}{cs:Array Value}(h:Blk w g t cs)(k:Turn F w w')(hF:¬F g):Blk w' g t cs:=(k.block g h.lt hF).trans h
structure Zn where
 g:Nat
 bv:Nat
 bg:Nat
 pv:Value
def Zn.has(h:Zn)(b:Nat):Prop:=b=h.g∨b=h.bv∨b=h.bg∨h.pv.ownBlock=some b
def PnIs(w:World)(v:Value):Pnd→Prop
 | .wr a b=>∃ga A c,v= .func (Fn.func 203) #[] #[.pointer (some ⟨ga+1,0,none⟩),.pointer (some ⟨ga,0,none⟩)]∧Blk w ga 3 #[.int .i64 a]∧Blk w (ga+1) 25 #[.slice A b.length c]∧Ub w 0 (.slice A b.length c) b
 | .fr a=>∃ga,v= .func (Fn.func 194) #[] #[.pointer (some ⟨ga,0,none⟩)]∧Blk w ga 3 #[.int .i64 a]
def z2O:List TypeId:= [3,25,5]
theorem PnIs.later{w w':World}{v:Value}{p:Pnd}(h:PnIs w v p)(hb:Below w.heap.size w w'):PnIs w' v p:=by
 cases p with
 |wr a b=>
  obtain⟨ga,A,c,h1,h2,h3,h4⟩:=h;exact⟨ga,A,c,h1,h2.later hb,h3.later hb,h4.later hb⟩
 |fr a=>
  obtain⟨ga,h1,h2⟩:=h;exact⟨ga,h1,h2.later hb⟩
theorem PnIs.other{w w':World}{v:Value}{p:Pnd}(h:PnIs w v p){z:Nat}(hz:∀t∈z2O,z0E w z≠some (some t))(hg:w.grownBy w' (some z)):PnIs w' v p:=by
 have key:∀ {g:Nat} {t:TypeId} {cs:Array Value},Blk w g t cs→t∈z2O→Blk w' g t cs:=fun hb ht=>hb.grown hg (fun e=>by
  injection e with e
  subst e;exact hz _ ht (z0F hb))
 cases p with
 |wr a b=>
  obtain⟨ga,A,c,h1,h2,h3,h4⟩:=h;exact⟨ga,A,c,h1,key h2 (by simp [z2O]),key h3 (by simp [z2O]),h4.other (hz _ (by simp [z2O])) hg⟩
 |fr a=>
  obtain⟨ga,h1,h2⟩:=h;exact⟨ga,h1,key h2 (by simp [z2O])⟩
def PnL(w:World)(vs:List Value)(ps:List Pnd):Prop:=vs.length=ps.length∧∀ (i:Nat) v p,vs[i]? =some v→ps[i]? =some p→PnIs w v p
theorem PnL.keep{w w':World}{vs:List Value}{ps:List Pnd}(h:PnL w vs ps)(hk:∀v p,PnIs w v p→PnIs w' v p):PnL w' vs ps:=⟨h.1,fun i v p h1 h2=>hk v p (h.2 i v p h1 h2)⟩
theorem PnL.nil(w:World):PnL w [] []:=⟨rfl,fun i v p h=>by simp at h⟩
theorem PnL.snoc{w:World}{vs:List Value}{ps:List Pnd}(h:PnL w vs ps){v:Value}{p:Pnd}(hv:PnIs w v p):PnL w (vs++ [v]) (ps++ [p]):=by
 refine⟨by rw [List.length_append,List.length_append,h.1];rfl,fun i u q h1 h2=> ?_⟩;rcases Nat.lt_or_ge i vs.length with hi|hi
 ·rw [List.getElem?_append_left hi]at h1;rw [List.getElem?_append_left (by rw [←h.1];exact hi)]at h2;exact h.2 i u q h1 h2
 ·rw [List.getElem?_append_right hi]at h1;rw [List.getElem?_append_right (by rw [←h.1];exact hi)]at h2;rw [h.1]at h1;rcases Nat.eq_zero_or_pos (i-ps.length)with h0|h0
  ·rw [h0]at h1 h2;simp only [List.getElem?_cons_zero,Option.some.injEq]at h1 h2;subst h1 h2;exact hv
  ·rw [List.getElem?_eq_none (by simp;omega)]at h1;cases h1
structure Dk(w:World)(h:Zn)(D:Dsk):Prop where
 blk:Blk w h.g 164 #[.int .i64 D.size,.int .i64 D.limit,.map (some h.bv),.map (some h.bg),h.pv]
 view:Secs w h.bv D.view D.nv
 ground:Secs w h.bg D.ground D.ng
 ne:h.bv≠h.bg
 pend:∃vs,Ow 291 w 0 h.pv vs∧PnL w vs D.pend
theorem Dk.later{w w':World}{h:Zn}{D:Dsk}(d:Dk w h D)(hb:Below w.heap.size w w'):Dk w' h D:=by
 obtain⟨vs,h1,h2⟩:=d.pend;exact⟨d.blk.later hb,d.view.later hb,d.ground.later hb,d.ne,vs,h1.later hb,h2.keep fun _ _ h=>h.later hb⟩
theorem Dk.kinds{w:World}{h:Zn}{D:Dsk}(d:Dk w h D){b:Nat}(hb:h.has b):z0E w b=some (some 164)∨z0E w b=some none∨z0E w b=some (some 291):=by
 obtain⟨vs,h1,_⟩:=d.pend;rcases hb with rfl|rfl|rfl|hb
 ·exact .inl (z0F d.blk)
 ·exact .inr (.inl d.view.kind)
 ·exact .inr (.inl d.ground.kind)
 ·exact .inr (.inr (z1E h1 hb))
theorem Dk.lt{w:World}{h:Zn}{D:Dsk}(d:Dk w h D){b:Nat}(hb:h.has b):b<w.heap.size:=by
 obtain⟨vs,h1,_⟩:=d.pend;rcases hb with rfl|rfl|rfl|hb
 ·exact d.blk.lt
 ·exact d.view.lt
 ·exact d.ground.lt
 ·rcases h1.2 with⟨h2,_⟩|⟨g,cap,cur,h2,_,hh,_⟩
  ·rw [h2]at hb;cases hb
  ·rw [h2]at hb;simp only [Value.ownBlock,Option.some.injEq]at hb;subst hb;exact lt_of_block hh
structure Stp(h:Zn)(w:World)(h':Zn)(w':World):Prop where
 g:h'.g=h.g
 turn:Turn h.has w w'
 has:∀b,h'.has b→h.has b∨w.heap.size≤b
theorem Stp.refl(h:Zn)(w:World):Stp h w h w:=⟨rfl,Turn.refl _ _,fun _ h=> .inl h⟩
theorem Stp.below{h:Zn}{w w':World}(hb:Below w.heap.size w w'):Stp h w h w':=⟨rfl,Turn.of_below hb,fun _ h=> .inl h⟩
theorem Stp.trans{h h1 h2:Zn}{w w1 w2:World}(a:Stp h w h1 w1)(b:Stp h1 w1 h2 w2):Stp h w h2 w2:=
 ⟨b.g.trans a.g,a.turn.trans b.turn a.has,fun x hx=>by
   rcases b.has x hx with h3|h3
   ·exact a.has x h3
   ·exact .inr (Nat.le_trans a.turn.size h3)⟩
theorem Stp.blk{h h':Zn}{w w':World}{D:Dsk}(s:Stp h w h' w')(d:Dk w h D){g:Nat}{t:TypeId}{cs:Array Value}(hb:Blk w g t cs)(h1:t≠164)(h2:t≠291):Blk w' g t cs:=
 hb.turn s.turn fun e=>by
  have hk:=z0F hb;rcases d.kinds e with h3|h3|h3
  ·rw [hk]at h3;injection h3 with h3;injection h3 with h3;exact h1 h3
  ·rw [hk]at h3;injection h3 with h3;cases h3
  ·rw [hk]at h3;injection h3 with h3;injection h3 with h3;exact h2 h3
theorem Stp.ub{h h':Zn}{w w':World}{D:Dsk}(s:Stp h w h' w')(d:Dk w h D){B:Nat}{v:Value}{l:List UInt8}(hb:Ub w B v l):Ub w' B v l:=
 hb.keep fun b hb=>s.turn.block b (by obtain⟨_,cs,fz,hh⟩:=hb;exact lt_of_block hh) fun e=>by
  have hk:=zAx hb;rcases d.kinds e with h3|h3|h3
  ·rw [hk]at h3;revert h3;decide
  ·rw [hk]at h3;injection h3 with h3;cases h3
  ·rw [hk]at h3;revert h3;decide
theorem zB2(a:Int)(A:Option Addr)(c:Nat)(b:List UInt8)(w:World)(hu:Ub w 0 (.slice A b.length c) b):
 Calls Tryz.prog 193 #[.int .i64 a,.slice A b.length c] w fun e w'=>∃v,e= .returned v∧PnIs w' v (.wr a b)∧Below w.heap.size w w':=by
 have hmf:=z0K Tryz.prog;have b1:Blk ((w.alloc (.cells #[.int .i64 a] 3)).alloc (.cells #[.slice A b.length c] 25)) w.heap.size 3 #[.int .i64 a]:=(Blk.new _ _ _).alloc _;have b2:Blk ((w.alloc (.cells #[.int .i64 a] 3)).alloc (.cells #[.slice A b.length c] 25)) (w.heap.size+1) 25 #[.slice A b.length c]:=by
  have:=Blk.new (w.alloc (.cells #[.int .i64 a] 3)) 25 #[.slice A b.length c];simpa using this
 have q:Below w.heap.size w ((w.alloc (.cells #[.int .i64 a] 3)).alloc (.cells #[.slice A b.length c] 25)):=((Below.refl _ _).alloc (Nat.le_refl _) _).alloc (by simp) _;have HU:=zz (hu.later q);clear hu;go_enter Tryz.func193,Tryz.ntmps193
 go_wp2_with fail
 go_ret
 exact⟨_,rfl,⟨_,A,c,rfl,b1,b2,HU.out⟩,q⟩
theorem zBA(a:Int)(w:World):
 Calls Tryz.prog 177 #[.int .i64 a] w fun e w'=>∃v,e= .returned v∧PnIs w' v (.fr a)∧Below w.heap.size w w':=by
 have hmf:=z0K Tryz.prog;go_enter Tryz.func177,Tryz.ntmps177
 go_wp2_with fail
 go_ret
 exact⟨_,rfl,⟨_,rfl,Blk.new _ _ _⟩,(Below.refl _ _).alloc (Nat.le_refl _) _⟩
theorem zDu(ga:Nat)(a:Int)(bm n0:Nat)(f:SF)(n:Int)(w:World)(hga:Blk w ga 3 #[.int .i64 a])(hs:Secs w bm f n0)(ha:InI a):
 Calls Tryz.prog 194 #[.map (some bm),.int .i64 n,.pointer (some ⟨ga,0,none⟩)] w fun e w'=>e= .returned (.tuple #[])∧Secs w' bm (f.del a) (f.nDel n0 a)∧w.grownBy w' (some bm):=by
 obtain⟨m,hm,hr⟩:=hs;obtain⟨w',hrun,hm',ht⟩:=hm.del z1J z5N ha 0;have c0:w.cell? ⟨ga,0,none⟩=some (.int .i64 a):=hga.cell 0;have HR:=zz hr;have HM:=zz hm';have HT:=zz ht;have HK:=zz (z23 hm);have HI:=zz ha;have HN:Hid (nDel m n0 a=f.nDel n0 a):=by
  unfold nDel SF.nDel;rw [Hid,(hr a ha).some_iff]
 clear hr hm' ht hm hga ha;go_enter Tryz.func194,Tryz.ntmps194
 go_wp2_with fail
 go_end0
 refine⟨rfl,⟨_,by rw [←HN.out];exact HM.out,fun x hx=> ?_⟩,HT.out.grown⟩;unfold SF.del;by_cases hxa:x=a
 ·simp only [hxa,if_true];trivial
 ·simp only [hxa,if_false];exact(HR.out x hx).keep fun _ _ h=>h.other (by rw [HK.out];simp) HT.out.grown
theorem z2A{w w1 w2:World}{z:Nat}(h:Below w.heap.size w w1)(k:w1.grownBy w2 (some z)):w.grownBy w2 (some z):=
 ⟨k.os.trans h.os,k.tape.trans h.tape,k.output.trans h.output,Nat.le_trans h.size k.size,fun i hi hne=>(k.block i (Nat.lt_of_lt_of_le hi h.size) hne).trans (h.block i hi)⟩
theorem Secs.put{w w3:World}{bm n0:Nat}{m:Int→Option Value}{f:SF}{a:Int}{v:Value}{l:List UInt8}(hr:∀x,InI x→SecV w (m x) (f x))(hm3:MpV Tryz.prog 3 w3 bm (fun x=>if x=a then some v else m x) (nPut m n0 a))(ht:w.mapTurned w3 bm)
 (hv:Ub w 0 v l) (ha:InI a) (hk:z0E w bm=some none):Secs w3 bm (f.put a l) (f.nPut n0 a):=by
 have e:nPut m n0 a=f.nPut n0 a:=by unfold nPut SF.nPut;rw [(hr a ha).some_iff]
 refine⟨_,e▸hm3,fun x hx=> ?_⟩;unfold SF.put;by_cases hxa:x=a
 ·simp only [hxa,if_true];exact hv.other (by rw [hk];simp) ht.grown
 ·simp only [hxa,if_false];exact(hr x hx).keep fun _ _ h=>h.other (by rw [hk];simp) ht.grown
theorem SecV.get{w:World}{v:Option Value}{l:Option (List UInt8)}(h:SecV w v l):∃A c,v.getD (.slice none 0 0)= .slice A (l.getD []).length c∧Ub w 0 (.slice A (l.getD []).length c) (l.getD []):=by
 unfold SecV at h;cases v with
 |none=>
  cases l with
  |none=>exact⟨none,0,rfl,Sl.nil⟩
  |some l=>exact h.elim
 |some v=>
  cases l with
  |none=>exact h.elim
  |some l=>
   obtain⟨A,c,rfl,_⟩:=Ub.bs h |>.at;exact⟨A,c,rfl,h⟩
theorem z89{P:Program}(w:World){t e:TypeId}{z:Value}{bytes:Nat}(E:Elem P t e z 1 bytes){A:Option Addr}{m c:Nat}(_:True)(hmc:(m:Int)≤(c:Int))(n:Nat):
 (Instr.sliceAt t (.slice A n c) none (some (.int .i64 (m:Int))) none).run P w= .ok (.slice (if c=0 then A else A.map (·.add 0)) m c) w:=by
 obtain⟨i,hi0,hz,hs,hby⟩:=E.info;simp [Instr.sliceAt,Instr.slice,Instr.sliceBounds,Instr.sliceBound,run_underlying E.under,sizeOf,typeInfo,hi0,asIntOf];intro h;omega
theorem z13{P:Program}(w:World){ops:Array Oper}{rest:List Oper}{o:Oper}{a:Act}{Q:Exit→Act→World→Prop}(hgd:o.guard=none)(x hi:Operand){t e:TypeId}{z:Value}{bytes:Nat}(E:Elem P t e z 1 bytes)
 (ho:o.op= .slice t x none (some hi) none) {S:Nat→Prop} {l:List UInt8} {A:Option Addr} {c m:Nat} (hb:Bs S w (.slice A l.length c) l) (hx:a.eval x= .slice A l.length c) (hh:a.eval hi= .int .i64 (m:Int)) (hm:m≤l.length)
 (h:∀A',Bs S w (.slice A' m c) (l.take m)→wpList P ops Q rest (a.put o.dst (.slice A' m c)) w):wpList P ops Q (o::rest) a w:=by
 refine wpList_plain hgd fun K hK=> ?_
 obtain⟨i,hi0,hz,hs,hby⟩:=E.info;obtain⟨A1,c1,hv,h3,h4,h5,h6⟩:=hb.at;injection hv with hA _ hc
 subst hA hc;have hl:(l.take m).length=m:=by rw [List.length_take];omega
 have hh':True:=trivial;have key:∀A',(c=0→A'=A)→(c≠0→A'=A.map (·.add 0))→Bs S w (.slice A' m c) (l.take m):=by
  intro A' g1 g2;have:=Bs.mk_ (S:=S) (w:=w) (l:=l.take m) (A:=A') (c:=c) (by omega) h4 (fun e0=>by
   by_cases hc0:c=0
   ·exact hc0
   ·have:=g2 hc0;rw [e0]at this;cases A with
    |none=>exact h5 rfl
    |some ad=>cases this) (fun hn=>by
   obtain⟨b,o',hA,hS,hcell⟩:=h6 (by omega);refine⟨b,o',?_,hS,fun j hj=> ?_⟩
   ·rw [g2 (by omega),hA];simp [z0U]
   ·rw [hcell j (by omega),List.getElem_take])
  rwa [hl]at this
 have hrun:=z89 (P:=P) w E (A:=A) hh' (show(m:Int)≤(c:Int) by omega) l.length;unfold Oper.wp;simp [execOp,ho,hx,hh,hrun,Result.andThen];refine hK _ _ (h _ (key _ (fun e=>if_pos e) (fun e=>if_neg e)))
theorem zHO(ga gb:Nat)(A:Option Addr)(c:Nat)(a:Int)(b:List UInt8)(bm n0:Nat)(f:SF)(n:Int)(N:Nat)(w:World)(hga:Blk w ga 3 #[.int .i64 a])(hgb:Blk w gb 25 #[.slice A b.length c])(hub:Ub w 0 (.slice A b.length c) b)
 (hs:Secs w bm f n0) (hn0:n0≤65536) (ha:InI a) (hb:b.length≤512) (ho:((f a).getD []).length≤512) (hcase:(n<0∧N=0)∨n=(N:Int)) (hN:N≤9223372036854775807):
 Calls Tryz.prog 203 #[.map (some bm),.int .i64 n,.pointer (some ⟨gb,0,none⟩),.pointer (some ⟨ga,0,none⟩)] w fun e w'=>e= .returned (.tuple #[])∧Secs w' bm (f.put a (z3D b ((f a).getD []) (N:Int))) (f.nPut n0 a)∧w.grownBy w' (some bm):=by
 obtain⟨m,hm,hr⟩:=hs;obtain⟨Ao,co,hmo,huo⟩:=(hr a ha).get;obtain⟨o,hoe⟩:∃o,(f a).getD []=o:=⟨_,rfl⟩;rw [hoe]at hmo huo ho ⊢;have c0:w.cell? ⟨ga,0,none⟩=some (.int .i64 a):=hga.cell 0;have cb:w.cell? ⟨gb,0,none⟩=some (.slice A b.length c):=hgb.cell 0;obtain⟨_,_,hv0,hlc,hcm,_,hA⟩:=hub.bs.at;injection hv0 with hA0 _ hc0
 subst hA0 hc0;obtain⟨_,_,hv0,hloc,hocm,_,hAo⟩:=huo.bs.at;injection hv0 with hA0 _ hc0
 subst hA0 hc0;have hgaL:=hga.lt;have hgbL:=hgb.lt;have HU:=zz hub;have HUO:=zz huo;have HR:=zz hr;have HM:=zz hm;have HI:=zz ha;have HMO:=zz hmo;have HAO:=zz hAo;have hr3:N<b.length∧N<o.length∨N<b.length∧¬N<o.length∨N=b.length∨b.length<N:=by omega
 clear hub huo hr hm ha hmo hga hgb hA hAo hoe;have hgl:=hgaL;have c00:=c0;have hmax:(if n<0 then(0:Int)else n)=(N:Int):=by
  rcases hcase with⟨h0,rfl⟩|rfl
  ·rw [if_pos h0];rfl
  ·rw [if_neg (by omega)]
 clear hcase;rcases hr3 with⟨h1,h2⟩|⟨h1,h2⟩|h1|h1
 ·have HTB:Hid (z3D b o (N:Int)=b.take N++o.drop N):=by unfold z3D;rw [Hid,Int.toNat_natCast,if_pos h1]
  obtain⟨bo,oo,rfl,_,_⟩:=HAO.out (by omega);have hkc:¬co=N:=by omega
  have HC:Hid (Bs (UbS w 0) w (.slice (some ⟨bo,oo+N,none⟩) (o.length-N) (co-N)) (o.drop N)):=by
   have:=Bs.cut HUO.out (show N≤o.length by omega);rw [if_neg hkc]at this;exact this
  have hmb:N≤b.length:=by omega
  have i1:(N:Int)<(b.length:Int):=by omega
  have i2:¬ (b.length:Int)<(N:Int):=by omega
  have i3:(N:Int)≤(b.length:Int):=by omega
  have i4:(N:Int)≤(c:Int):=by omega
  have i5:(N:Int)<(o.length:Int):=by omega
  have i6:(N:Int)≤(o.length:Int):=by omega
  have i7:(o.length:Int)≤(co:Int):=by omega
  have i0:¬ (N:Int)<0:=by omega
  have i9:(0:Int)≤(N:Int):=by omega
  go_enter Tryz.func203,Tryz.ntmps203
  go_wp2_with (first
   |(refine z13 _ rfl (.tmp 14) (.tmp 15) z0Z rfl (Sl.alloc1 HU.out _) rfl rfl hmb ?_;intro A9 HP9)
   |(at_builtin;refine z03 _ rfl (.tmp 13) (.tmp 16) z0Z rfl (Ob.made _ _ w.heap.size (Nat.le_refl _) (by simp)) HP9 rfl rfl (by simp only [List.length_nil,List.length_take];omega) (by simp) ?_;intro A1 k1 c1 w1 hown1 hga1 hat1;have qa:Below w.heap.size w w1:=z02 ((Below.refl _ _).alloc (Nat.le_refl _) _) (Ob.made _ _ w.heap.size (Nat.le_refl _) (by simp)) hga1 (by simp);have hlk:=(HM.out.later qa).look1 z1J z5N (z32 w1) HI.out;rw [HMO.out]at hlk;have c0:=cell_later qa c0;have cb:=cell_later qa cb)
   |(at_builtin;refine z03 _ rfl (.tmp 31) (.tmp 34) z0Z rfl hown1 (Bs.later HC.out qa) rfl rfl (by simp only [List.nil_append,List.length_take,List.length_drop];omega) qa.size ?_;intro A2 k2 c2 w2 hown2 hga2 hat2;have qb:Below w.heap.size w w2:=z02 qa hown1 hga2 qa.size;have c0:=(qb.cell (p:=⟨ga,0,none⟩) hgl).trans c00;obtain⟨w3,hrun3,hm3,ht3⟩:=(HM.out.later qb).put z1J z5N (by unfold maxLen;omega) HI.out (.slice A2 k2 c2);have HM3:=zz hm3;have HT3:=zz ht3;clear hm3 ht3)
   |fail)
  go_end0
  refine⟨rfl,?_,z2A qb HT3.out.grown⟩;have hub3:Ub w2 0 (.slice A2 k2 c2) (z3D b o (N:Int)):=by rw [HTB.out];exact(Ub.of_own (by simpa using hown2)).lower (Nat.zero_le _)
  exact Secs.put (fun x hx=>(HR.out x hx).keep fun _ _ h=>h.later qb) HM3.out HT3.out hub3 HI.out (z23 (HM.out.later qb))
 ·have HTB:Hid (z3D b o (N:Int)=b.take N):=by unfold z3D;rw [Hid,Int.toNat_natCast,if_pos h1,List.drop_eq_nil_of_le (by omega),List.append_nil]
  have hmb:N≤b.length:=by omega
  have i1:(N:Int)<(b.length:Int):=by omega
  have i2:¬ (b.length:Int)<(N:Int):=by omega
  have i3:(N:Int)≤(b.length:Int):=by omega
  have i4:(N:Int)≤(c:Int):=by omega
  have i5:¬ (N:Int)<(o.length:Int):=by omega
  have i0:¬ (N:Int)<0:=by omega
  have i9:(0:Int)≤(N:Int):=by omega
  go_enter Tryz.func203,Tryz.ntmps203
  go_wp2_with (first
   |(refine z13 _ rfl (.tmp 14) (.tmp 15) z0Z rfl (Sl.alloc1 HU.out _) rfl rfl hmb ?_;intro A9 HP9)
   |(at_builtin;refine z03 _ rfl (.tmp 13) (.tmp 16) z0Z rfl (Ob.made _ _ w.heap.size (Nat.le_refl _) (by simp)) HP9 rfl rfl (by simp only [List.length_nil,List.length_take];omega) (by simp) ?_;intro A1 k1 c1 w1 hown1 hga1 hat1;have qa:Below w.heap.size w w1:=z02 ((Below.refl _ _).alloc (Nat.le_refl _) _) (Ob.made _ _ w.heap.size (Nat.le_refl _) (by simp)) hga1 (by simp);have hlk:=(HM.out.later qa).look1 z1J z5N (z32 w1) HI.out;rw [HMO.out]at hlk;have c0:=cell_later qa c0;have cb:=cell_later qa cb;obtain⟨w3,hrun3,hm3,ht3⟩:=(HM.out.later qa).put z1J z5N (by unfold maxLen;omega) HI.out (.slice A1 k1 c1);have HM3:=zz hm3;have HT3:=zz ht3;clear hm3 ht3)
   |fail)
  go_end0
  refine⟨rfl,?_,z2A qa HT3.out.grown⟩;have hub3:Ub w1 0 (.slice A1 k1 c1) (z3D b o (N:Int)):=by rw [HTB.out];exact(Ub.of_own (by simpa using hown1)).lower (Nat.zero_le _)
  exact Secs.put (fun x hx=>(HR.out x hx).keep fun _ _ h=>h.later qa) HM3.out HT3.out hub3 HI.out (z23 (HM.out.later qa))
 ·subst h1;have HTB:Hid (z3D b o ((b.length:Nat):Int)=b.take b.length):=by unfold z3D;rw [Hid,Int.toNat_natCast,if_neg (by omega),List.take_length]
  have hmb:b.length≤b.length:=by omega
  have i1:¬ ((b.length:Nat):Int)<(b.length:Int):=by omega
  have i3:(b.length:Int)≤(c:Int):=by omega
  have i0:¬ ((b.length:Nat):Int)<0:=by omega
  have i9:(0:Int)≤((b.length:Nat):Int):=by omega
  go_enter Tryz.func203,Tryz.ntmps203
  go_wp2_with (first
   |(refine z13 _ rfl (.tmp 14) (.tmp 15) z0Z rfl (Sl.alloc1 HU.out _) rfl rfl hmb ?_;intro A9 HP9)
   |(at_builtin;refine z03 _ rfl (.tmp 13) (.tmp 16) z0Z rfl (Ob.made _ _ w.heap.size (Nat.le_refl _) (by simp)) HP9 rfl rfl (by simp only [List.length_nil,List.length_take];omega) (by simp) ?_;intro A1 k1 c1 w1 hown1 hga1 hat1;have qa:Below w.heap.size w w1:=z02 ((Below.refl _ _).alloc (Nat.le_refl _) _) (Ob.made _ _ w.heap.size (Nat.le_refl _) (by simp)) hga1 (by simp);have hlk:=(HM.out.later qa).look1 z1J z5N (z32 w1) HI.out;rw [HMO.out]at hlk;have c0:=cell_later qa c0;have cb:=cell_later qa cb;obtain⟨w3,hrun3,hm3,ht3⟩:=(HM.out.later qa).put z1J z5N (by unfold maxLen;omega) HI.out (.slice A1 k1 c1);have HM3:=zz hm3;have HT3:=zz ht3;clear hm3 ht3)
   |fail)
  go_end0
  refine⟨rfl,?_,z2A qa HT3.out.grown⟩;have hub3:Ub w1 0 (.slice A1 k1 c1) (z3D b o ((b.length:Nat):Int)):=by rw [HTB.out];exact(Ub.of_own (by simpa using hown1)).lower (Nat.zero_le _)
  exact Secs.put (fun x hx=>(HR.out x hx).keep fun _ _ h=>h.later qa) HM3.out HT3.out hub3 HI.out (z23 (HM.out.later qa))
 ·have HTB:Hid (z3D b o (N:Int)=b.take b.length):=by unfold z3D;rw [Hid,Int.toNat_natCast,if_neg (by omega),List.take_length]
  have hmb:b.length≤b.length:=by omega
  have i1:¬ (N:Int)<(b.length:Int):=by omega
  have i3:(b.length:Int)≤(c:Int):=by omega
  have i2:(b.length:Int)<(N:Int):=by omega
  have i6:¬ (N:Int)≤(b.length:Int):=by omega
  have i0:¬ (N:Int)<0:=by omega
  have i9:(0:Int)≤(N:Int):=by omega
  go_enter Tryz.func203,Tryz.ntmps203
  go_wp2_with (first
   |(refine z13 _ rfl (.tmp 14) (.tmp 15) z0Z rfl (Sl.alloc1 HU.out _) rfl rfl hmb ?_;intro A9 HP9)
   |(at_builtin;refine z03 _ rfl (.tmp 13) (.tmp 16) z0Z rfl (Ob.made _ _ w.heap.size (Nat.le_refl _) (by simp)) HP9 rfl rfl (by simp only [List.length_nil,List.length_take];omega) (by simp) ?_;intro A1 k1 c1 w1 hown1 hga1 hat1;have qa:Below w.heap.size w w1:=z02 ((Below.refl _ _).alloc (Nat.le_refl _) _) (Ob.made _ _ w.heap.size (Nat.le_refl _) (by simp)) hga1 (by simp);have hlk:=(HM.out.later qa).look1 z1J z5N (z32 w1) HI.out;rw [HMO.out]at hlk;have c0:=cell_later qa c0;have cb:=cell_later qa cb;obtain⟨w3,hrun3,hm3,ht3⟩:=(HM.out.later qa).put z1J z5N (by unfold maxLen;omega) HI.out (.slice A1 k1 c1);have HM3:=zz hm3;have HT3:=zz ht3;clear hm3 ht3)
   |fail)
  go_end0
  refine⟨rfl,?_,z2A qa HT3.out.grown⟩;have hub3:Ub w1 0 (.slice A1 k1 c1) (z3D b o (N:Int)):=by rw [HTB.out];exact(Ub.of_own (by simpa using hown1)).lower (Nat.zero_le _)
  exact Secs.put (fun x hx=>(HR.out x hx).keep fun _ _ h=>h.later qa) HM3.out HT3.out hub3 HI.out (z23 (HM.out.later qa))
structure CpSt(w wr:World)(bm:Nat)(m:Int→Option Value)(f:SF)(n0:Nat)(left:Int→Bool)(cnt:Nat)(mo:Int→Option Value)(no:Nat):Prop where
 rg:RgV Tryz.prog 3 wr bm (w.heap.size+1) m n0 left cnt
 out:MpV Tryz.prog 3 wr w.heap.size mo no
 come:∀x,InI x→left x=true→mo x=none
 done:∀x,InI x→left x=false→SecV wr (mo x) (f x)
 num:no+cnt≤n0
 below:Below w.heap.size w wr
theorem zCh(bm n0:Nat)(f:SF)(w:World)(hs:Secs w bm f n0)(hf:FinK f n0):
 Calls Tryz.prog 178 #[.map (some bm)] w fun e w'=>∃bo,e= .returned (.map (some bo))∧w.heap.size≤bo∧Secs w' bo f n0∧Below w.heap.size w w':=by
 obtain⟨m,hm,hr⟩:=hs;have hmm:= @run_makeMap Tryz.prog;have hbl:=hm.lt;have hn0:=hf.bound;have e1:(w.alloc (.map #[] 0)).heap.size=w.heap.size+1:=by simp
 have HR:=zz hr;have HF:=zz hf;have HM:=zz (hm.alloc (.map #[] 0));have hLeft:Hid (∀a,((m a).isSome&&decide (-9223372036854775808≤a)&&decide (a≤9223372036854775807))=true↔InI a∧(m a).isSome=true):=fun a=>by
  unfold InI;simp only [Bool.and_eq_true,decide_eq_true_eq];exact⟨fun h=>⟨⟨h.1.2,h.2⟩,h.1.1⟩,fun h=>⟨⟨h.2,h.1.1⟩,h.1.2⟩⟩
 clear hr hf hm;go_enter Tryz.func178,Tryz.ntmps178
 go_wp2_with (first
  |(at_range;refine z6x _ rfl _ 161 rfl z1J z5N rfl HM.out _ hLeft.out ?_;intro w0 hrg0 hg0 hs0)
  |fail)
 go_frame
 rw [e1]at hrg0 hs0 ⊢;have S0:CpSt w w0 bm m f n0 (fun a=>(m a).isSome&&decide (-9223372036854775808≤a)&&decide (a≤9223372036854775807)) n0 (fun _=>none) 0:=by
  refine⟨hrg0,(MpV.made _ _ w).at (hg0.block w.heap.size (by simp) (by simp)),fun _ _ _=>rfl,fun x hx hl=> ?_,by omega,((Below.refl _ _).alloc (Nat.le_refl _) _).grown hg0 (by simp) (fun j hj=>by cases hj)⟩;have h1:(m x).isSome=false:=by
   cases h2:(m x).isSome with
   |false=>rfl
   |true=>have:=(hLeft.out x).2 ⟨hx,h2⟩;rw [hl]at this;cases this
  have h3:=HR.out x hx;have h4:=h3.some_iff;rw [h1]at h4;cases hfx:f x with
  |none=>trivial
  |some l=>rw [hfx]at h4;cases h4
 clear hrg0 hg0 hs0;go_loopw [4,5] (fun _ _ wr=>∃ (left:Int→Bool) (cnt:Nat) (mo:Int→Option Value) (no:Nat),CpSt w wr bm m f n0 left cnt mo no) (fun _ _ wr=>wr.rangeLeft bm (w.heap.size+1))
 case atStart=>exact⟨_,_,_,_,S0⟩
 case round=>
  clear S0;obtain⟨left,cnt,mo,no,hst⟩:=hrel;have HST:=zz hst;have hrg:=hst.rg;clear hst;go_wp2_with (first
   |(at_next;refine z7H _ rfl _ rfl z1J rfl hrg ?_ ?_)
   |fail)
  ·intro hc0 hl0;go_wp2
   go_ret
   refine⟨_,rfl,Nat.le_refl _,⟨mo,?_,fun x hx=>HST.out.done x hx (hl0 x)⟩,HST.out.below⟩;have h1:=HST.out.num;obtain⟨l,hl,hlo⟩:=HF.out;have h2:=HST.out.out;have h3:=h2.ge z1J hl.nodup fun x hx=>by
    obtain⟨y,hy,rfl⟩:=List.mem_map.1 hx;have hi:InI y.1:=by have:=hlo y hy;unfold SecOk at this;unfold InI;omega
    refine⟨hi,?_⟩;rw [(HST.out.done y.1 hi (hl0 y.1)).some_iff];exact(hl.has y.1).2 hx
   rw [List.length_map,hl.len]at h3;rw [show no=n0 by omega]at h2;exact h2
  ·intro x c w1 cnt1 hx hlx hmx hrg1 hlt hg1 hs1 hen;have hsec:=HR.out x hx;rw [hmx]at hsec;obtain⟨l,hfx⟩:∃l,f x=some l:=by
    cases hfx:f x with
    |none=>rw [hfx]at hsec;exact hsec.elim
    |some l=>exact⟨l,rfl⟩
   rw [hfx]at hsec;have hub0:Ub w 0 c l:=hsec;have q1:Below w.heap.size w w1:=HST.out.below.grown hg1 HST.out.below.size (fun j hj=>by cases hj;exact Nat.le_succ _);have hub:=hub0.later q1;obtain⟨A,cp,rfl,_⟩:=hub.bs.at;have hll:l.length≤512:=(HF.out.at hfx).2.2;have HU:=zz hub;have HX:=zz hx;have HFX:=zz hfx;have HLX:=zz hlx;have HRG:=zz hrg1;have HG1:=zz hg1;have HOUT:Hid (MpV Tryz.prog 3 w1 w.heap.size mo no):=HST.out.out.at (hg1.block _ HST.out.out.lt (by simp));have hsz1:=q1.size;have hnum:=HST.out.num;clear hsec hub0 hub hmx hrg1 hlx hfx hx hg1 hs1;go_wp2_with (first
    |(at_builtin;refine z03 _ rfl (.tmp 16) (.tmp 17) z0Z rfl (Ob.made _ _ w1.heap.size (Nat.le_refl _) (by simp)) (Sl.alloc1 HU.out _) rfl rfl (by simp;omega) (by simp) ?_;intro A1 k1 c1 w2 hown1 hga hat1;have qa:Below w1.heap.size w1 w2:=z02 ((Below.refl _ _).alloc (Nat.le_refl _) _) (Ob.made _ _ w1.heap.size (Nat.le_refl _) (by simp)) hga (by simp);obtain⟨w3,hrun3,hm3,ht3⟩:=(HOUT.out.later qa).put z1J z5N (by unfold maxLen;omega) HX.out (.slice A1 k1 c1);have QA:=zz qa;have HM3:=zz hm3;have HT3:=zz ht3;clear qa hm3 ht3)
    |fail)
   go_roundw
   case rel=>
    have hg3:w1.grownBy w3 (some w.heap.size):=z2A QA.out HT3.out.grown;have hmox:=HST.out.come x HX.out HLX.out;have hub2:Ub w2 0 (.slice A1 k1 c1) l:=(Ub.of_own (by simpa using hown1)).lower (Nat.zero_le _);have hkz:z0E w2 w.heap.size≠some (some 5):=by rw [z23 (HOUT.out.later QA.out)];simp
    have hkey:∀v l,Ub (wr) 0 v l→Ub w3 0 v l:=fun v l h=>Ub.other ((h.keep fun b hb=>HG1.out.block b (by obtain⟨_,cs,fz,hh⟩:=hb;exact lt_of_block hh) (fun e=>by
     injection e with e
     subst e;obtain⟨_,cs,fz,hh⟩:=hb;have:=HST.out.rg;obtain⟨D,lf,h1,_⟩:=this;obtain⟨es,clock,since,seen,c0,_,_,_,_,hr0,_⟩:=h1;rw [hr0]at hh;cases hh)).later QA.out) hkz HT3.out.grown
    refine⟨_,cnt1,_,_,⟨HRG.out.kept hg3 (fun e=>by have:=Option.some.inj e;omega) (fun e=>by have:=Option.some.inj e;omega),HM3.out,fun z hz hl=> ?_,fun z hz hl=> ?_,?_,(q1.grown hg3 hsz1 (fun j hj=>by cases hj;exact Nat.le_refl _))⟩⟩
    ·simp only [Bool.and_eq_true,Bool.not_eq_true',beq_eq_false_iff_ne]at hl;rw [if_neg hl.2];exact HST.out.come z hz hl.1
    ·by_cases hzx:z=x
     ·subst hzx;simp only [if_true,HFX.out];exact hub2.other hkz HT3.out.grown
     ·simp only [hzx,if_false];have hlz:left z=false:=by
       cases h:left z with
       |false=>rfl
       |true=>rw [h]at hl;simp [hzx]at hl
      exact(HST.out.done z hz hlz).keep hkey
    ·unfold nPut;rw [hmox];simp only [Option.isSome_none,Bool.false_eq_true,if_false];omega
   case measure=>
    have hg3:w1.grownBy w3 (some w.heap.size):=z2A QA.out HT3.out.grown;have hrg3:=HRG.out.kept hg3 (fun e=>by have:=Option.some.inj e;omega) (fun e=>by have:=Option.some.inj e;omega);rw [hrg3.left_eq,HST.out.rg.left_eq];exact hlt
theorem z1p{w w':World}(h:w.grownBy w' none):Below w.heap.size w w':=⟨h.os,h.tape,h.output,h.size,fun i hi=>h.block i hi (by simp)⟩
theorem Secs.row{w w':World}{b n:Nat}{f:SF}{row:Option Nat}(h:Secs w b f n)(hz:∀z,row=some z→b≠z∧z0E w z≠some (some 5))(hg:w.grownBy w' row):Secs w' b f n:=by
 cases row with
 |none=>exact h.later (z1p hg)
 |some z=>exact h.other (hz z rfl).1 (hz z rfl).2 hg
theorem PnIs.row{w w':World}{v:Value}{p:Pnd}{row:Option Nat}(h:PnIs w v p)(hz:∀z,row=some z→∀t∈z2O,z0E w z≠some (some t))(hg:w.grownBy w' row):PnIs w' v p:=by
 cases row with
 |none=>exact h.later (z1p hg)
 |some z=>exact h.other (hz z rfl) hg
theorem zIC:Elem Tryz.prog 162 291 .nilFunc 1 8:=Elem.mk' Tryz.underlying162 (by kernel_rfl) rfl (by omega)
theorem zE0(b o:List UInt8)(n:Int):z3D b o ((n.toNat:Nat):Int)=z3D b o n:=by unfold z3D;rw [Int.toNat_natCast]
theorem zB5{w:World}{v:Value}{p:Pnd}{bm n0:Nat}{f:SF}{n:Int}(hp:PnIs w v p)(hpo:zIV p)(hs:Secs w bm f n0)(hf:FinK f n0)(hn:InI n){Q:Ending→World→Prop}
 (hQ:∀w',Secs w' bm (doP (f,n0) p n).1 (doP (f,n0) p n).2→w.grownBy w' (some bm)→Q (.returned (.tuple #[])) w'):
 ∃fn caps,v= .func (Fn.func fn) #[] caps∧∀args,args= #[.map (some bm),.int .i64 n]++caps→Calls Tryz.prog fn args w Q:=by
 cases p with
 |wr a b=>
  obtain⟨ga,A,c,rfl,h1,h2,h3⟩:=hp;refine⟨_,_,rfl,fun args ha=> ?_⟩;subst ha;have ho:((f a).getD []).length≤512:=by
   cases hfa:f a with
   |none=>simp
   |some o=>exact(hf.at hfa).2.2
  have hi:InI a:=by have:=hpo.1;have:=hpo.2.1;unfold InI;omega
  refine(zHO ga (ga+1) A c a b bm n0 f n n.toNat w h1 h2 h3 hs hf.bound hi hpo.2.2 ho (by omega) (by unfold InI at hn;omega)).mono ?_;rintro e w' ⟨rfl,h4,h5⟩;rw [zE0]at h4;exact hQ w' h4 h5
 |fr a=>
  obtain⟨ga,rfl,h1⟩:=hp;refine⟨_,_,rfl,fun args ha=> ?_⟩;subst ha;have hi:InI a:=by have:=hpo.1;have:=hpo.2;unfold InI;omega
  refine(zDu ga a bm n0 f n w h1 hs hi).mono ?_;rintro e w' ⟨rfl,h4,h5⟩;exact hQ w' h4 h5
theorem zHd(n:Int)(w:World)(h1:1≤n)(h2:n≤65536):
 Calls Tryz.prog 53 #[.int .i64 n] w fun e w'=>∃h,e= .returned (.tuple #[.pointer (some ⟨h.g,0,none⟩),.int .i64 0])∧Dk w' h (Dsk.new n)∧(∀b,h.has b→w.heap.size≤b)∧Below w.heap.size w w':=by
 have hmm:= @run_makeMap Tryz.prog;have i1:¬n<1:=by omega
 have i2:¬65536<n:=by omega
 go_enter Tryz.func53,Tryz.ntmps53
 go_wp2_with fail
 go_ret2
 have s1:(w.alloc (.map #[] 0)).heap.size=w.heap.size+1:=by simp
 have s2:((w.alloc (.map #[] 0)).alloc (.map #[] 0)).heap.size=w.heap.size+1+1:=by simp
 have q1:Below (w.heap.size+1) (w.alloc (.map #[] 0)) ((w.alloc (.map #[] 0)).alloc (.map #[] 0)):=by
  have:=(Below.refl (w.alloc (.map #[] 0)).heap.size (w.alloc (.map #[] 0))).alloc (Nat.le_refl _) (.map #[] 0)
  rwa [s1]at this
 have m1:=Secs.made w;have m2:=Secs.made (w.alloc (.map #[] 0));rw [s1]at m2;have m1':Secs ((w.alloc (.map #[] 0)).alloc (.map #[] 0)) w.heap.size (fun _=>none) 0:=m1.later (by rw [s1];exact q1);have b3:=Blk.new ((w.alloc (.map #[] 0)).alloc (.map #[] 0)) 164 #[.int .i64 n,.int .i64 n,.map (some w.heap.size),.map (some (w.heap.size+1)),.slice none 0 0];rw [s2]at b3;have q3:=(Below.refl ((w.alloc (.map #[] 0)).alloc (.map #[] 0)).heap.size ((w.alloc (.map #[] 0)).alloc (.map #[] 0))).alloc (Nat.le_refl _) (.cells #[.int .i64 n,.int .i64 n,.map (some w.heap.size),.map (some (w.heap.size+1)),.slice none 0 0] 164);refine⟨⟨w.heap.size+1+1,w.heap.size,w.heap.size+1,.slice none 0 0⟩,rfl,⟨b3,m1'.later q3,m2.later q3,by simp,[],World.ownsRow_nil _ _ _ _,PnL.nil _⟩,fun b hb=> ?_,(((Below.refl _ _).alloc (Nat.le_refl _) _).alloc (by simp) _).alloc (by simp;omega) _⟩;rcases hb with h|h|h|h
 ·simp only at h;omega
 ·simp only at h;omega
 ·simp only at h;omega
 ·cases h
theorem z3g{w:World}{g i:Nat}(u:Value):w.grownBy (w.setCell ⟨g,i,none⟩ u) (some g):=⟨rfl,rfl,rfl,by simp,fun k hk hne=>Below.heap_setCell w ⟨g,i,none⟩ u k (fun e=>hne (by rw [e]))⟩
theorem zFE{w w1:World}{g bv bg k1 c0 c1:Nat}{A0 A1:Option Addr}{vs:List Value}{D:Dsk}{pv:Value}{p:Pnd}{n:Int}{row:Obj}(hd:Dk w ⟨g,bv,bg,.slice A0 vs.length c0⟩ D)(hok:D.Ok)(hp:PnIs w pv p)(hpo:zIV p)(hn:InI n)
 (hown:Ow 291 (w.alloc row) 0 (.slice A0 vs.length c0) vs) (hpl:PnL w vs D.pend) (hown1:w1.ownsRow 0 291 1 (.slice A1 k1 c1) (vs.length+1) (vs++ [pv])) (hga:(w.alloc row).grownBy w1 (Value.slice A0 vs.length c0).ownBlock)
 (hat:(Value.slice A1 k1 c1).ownBlock=(Value.slice A0 vs.length c0).ownBlock∨(Value.slice A1 k1 c1).ownBlock=some (w.alloc row).heap.size) {fn:FuncId} {args:Array Value}
 (hv:∃caps,pv= .func (Fn.func fn) #[] caps∧args= #[.map (some bv),.int .i64 n]++caps):
 Calls Tryz.prog fn args (w1.setCell ⟨g,4,none⟩ (.slice A1 k1 c1)) fun e w'=>e= .returned (.tuple #[])∧Dk w' ⟨g,bv,bg,.slice A1 k1 c1⟩ (D.put p n)∧Stp ⟨g,bv,bg,.slice A0 vs.length c0⟩ w ⟨g,bv,bg,.slice A1 k1 c1⟩ w':=by
 have qa:Below w.heap.size w (w.alloc row):=(Below.refl _ _).alloc (Nat.le_refl _) _;have d1:=hd.later qa;have kz:∀z,(Value.slice A0 vs.length c0).ownBlock=some z→z0E (w.alloc row) z=some (some 291):=fun z hz=>z1E hown hz
 have kv:=d1.view.kind;have kg:=d1.ground.kind;simp only at kv kg;have row1:∀ {b m:Nat} {f:SF},Secs (w.alloc row) b f m→Secs w1 b f m:=fun hs=>hs.row (fun z hz=>⟨(fun e=>by subst e;have h1:=kz _ hz;rw [hs.kind]at h1;cases h1),(by rw [kz z hz];decide)⟩) hga
 have v1:=row1 d1.view;have g1:=row1 d1.ground;have b1:=d1.blk.kept hown hga (by decide);have p1:∀ {v:Value} {q:Pnd},PnIs (w.alloc row) v q→PnIs w1 v q:=fun h=>h.row (fun z hz t ht=>by rw [kz z hz];revert ht;simp only [z2O,List.mem_cons,List.not_mem_nil,or_false];rintro(rfl|rfl|rfl)<;>decide) hga
 have kd1:z0E w1 g=some (some 164):=z0F b1;have gc:=z3g (w:=w1) (g:=g) (i:=4) (.slice A1 k1 c1);have v2:Secs (w1.setCell ⟨g,4,none⟩ (.slice A1 k1 c1)) bv D.view D.nv:=v1.other (fun e=>by have:=v1.kind;simp only at e this;rw [e,kd1]at this;cases this) (by rw [kd1];decide) gc;have g2:Secs (w1.setCell ⟨g,4,none⟩ (.slice A1 k1 c1)) bg D.ground D.ng:=g1.other (fun e=>by have:=g1.kind;simp only at e this;rw [e,kd1]at this;cases this) (by rw [kd1];decide) gc;have p2:∀ {v:Value} {q:Pnd},PnIs w1 v q→PnIs (w1.setCell ⟨g,4,none⟩ (.slice A1 k1 c1)) v q:=fun h=>h.other (fun t ht=>by rw [kd1];revert ht;simp only [z2O,List.mem_cons,List.not_mem_nil,or_false];rintro(rfl|rfl|rfl)<;>decide) gc
 have b2:=b1.put 4 (.slice A1 k1 c1);have o2:Ow 291 (w1.setCell ⟨g,4,none⟩ (.slice A1 k1 c1)) 0 (.slice A1 k1 c1) (vs++ [pv]):=by
  unfold Ow;rw [List.length_append];exact z1m hown1 b1 (by decide) 4 _
 have kv2:=v2.kind;have hQ:∀w3,Secs w3 bv (doP (D.view,D.nv) p n).1 (doP (D.view,D.nv) p n).2→(w1.setCell ⟨g,4,none⟩ (.slice A1 k1 c1)).grownBy w3 (some bv)→
  Ending.returned (.tuple #[])=Ending.returned (.tuple #[])∧Dk w3 ⟨g,bv,bg,.slice A1 k1 c1⟩ (D.put p n)∧Stp ⟨g,bv,bg,.slice A0 vs.length c0⟩ w ⟨g,bv,bg,.slice A1 k1 c1⟩ w3:=by
  intro w3 hs3 hg3;refine⟨rfl,?_,?_⟩
  ·have hbg:bg≠bv:=fun e=>hd.ne e.symm
   refine⟨b2.grown hg3 (fun e=> ?_),hs3,g2.other hbg (by rw [kv2];decide) hg3,hd.ne,vs++ [pv],o2.other (fun e=> ?_) hg3,(PnL.keep (hpl.keep fun v q h=>p2 (p1 (h.later qa))) fun v q h=> ?_).snoc ?_⟩
   ·injection e with e
    have e2:g=bv:=by first|exact e|exact e.symm
    exact absurd ((z0F b2).symm.trans ((congrArg (z0E _) e2).trans kv2)) (by simp)
   ·have:=z1E o2 e;rw [kv2]at this;cases this
   ·exact h.other (fun t ht=>by rw [kv2];simp) hg3
   ·exact(p2 (p1 (hp.later qa))).other (fun t ht=>by rw [kv2];simp) hg3
  ·refine⟨rfl,?_,fun b hb=> ?_⟩
   ·have t1:Turn (Zn.has ⟨g,bv,bg,.slice A0 vs.length c0⟩) w w1:=(Turn.of_below qa).trans (Turn.of_grown (F:=Zn.has ⟨g,bv,bg,.slice A0 vs.length c0⟩) hga (fun z hz=> .inr (.inr (.inr hz)))) (fun b h=> .inl h);exact(t1.setCell (p:=⟨g,4,none⟩) (.inl (.inl rfl)) _).trans (Turn.of_grown (F:=Zn.has ⟨g,bv,bg,.slice A0 vs.length c0⟩) hg3 (fun z hz=>by injection hz with hz;exact .inr (.inl hz.symm))) (fun b h=> .inl h)
   ·rcases hb with h|h|h|h
    ·exact .inl (.inl h)
    ·exact .inl (.inr (.inl h))
    ·exact .inl (.inr (.inr (.inl h)))
    ·simp only at h;rcases hat with h1|h1
     ·exact .inl (.inr (.inr (.inr (by simp only;rw [←h1];exact h))))
     ·rw [h1]at h;injection h with h
      right;rw [←h];simp
 obtain⟨fn',caps',hf,hcall⟩:=zB5 (w:=w1.setCell ⟨g,4,none⟩ (.slice A1 k1 c1)) (v:=pv) (n:=n) (p2 (p1 (hp.later qa))) hpo v2 hok.view hn
  (Q:=fun e w'=>e= .returned (.tuple #[])∧Dk w' ⟨g,bv,bg,.slice A1 k1 c1⟩ (D.put p n)∧Stp ⟨g,bv,bg,.slice A0 vs.length c0⟩ w ⟨g,bv,bg,.slice A1 k1 c1⟩ w') hQ
 obtain⟨caps,hpv,harg⟩:=hv;rw [hpv]at hf;injection hf with hf1 hf2 hf3
 injection hf1 with hf1
 subst hf1 hf3;exact hcall args harg
theorem zFr(h:Zn)(D:Dsk)(pv:Value)(p:Pnd)(n:Int)(w:World)(hd:Dk w h D)(hok:D.Ok)(hp:PnIs w pv p)(hpo:zIV p)(hn:InI n)(hlen:D.pend.length≤1000000000):
 Calls Tryz.prog 176 #[.pointer (some ⟨h.g,0,none⟩),pv,.int .i64 n] w fun e w'=>e= .returned (.tuple #[])∧∃h',Dk w' h' (D.put p n)∧Stp h w h' w':=by
 obtain⟨g,bv,bg,sl⟩:=h;obtain⟨vs,hown,hpl⟩:=hd.pend;have hvl:=hpl.1;obtain⟨A0,c0,hsl,_⟩:=Ow.shape hown;simp only at hsl hown;subst hsl;have hd4:w.cell? ⟨g,4,none⟩=some (.slice A0 vs.length c0):=hd.blk.cell 4;have HD:=zz hd;have HO:=zz (Ow.later hown ((Below.refl _ _).alloc (Nat.le_refl _) (.cells #[pv] 291)));have HOK:=zz hok;have HP:=zz hp;have HPL:=zz hpl;have HVL:=zz hvl;have hvb:vs.length≤1000000000:=by omega
 have hgl:g<w.heap.size:=hd.blk.lt;clear hd hok hp hpl hown hvl;cases p with
 |wr a b=>
  obtain⟨ga,_,_,rfl,_⟩:=HP.out;go_enter Tryz.func176,Tryz.ntmps176
  go_wp2_with (first
   |(at_builtin;refine z05 _ rfl (.tmp 10) (.tmp 12) zIC rfl HO.out (Sl.new1 (S:=fun _=>True) _ _ _ rfl trivial) rfl rfl (by intro y hy;simp at hy;subst hy;rfl) (by simp only [maxLen];omega) (by omega) (Nat.zero_le _) ?_;intro A1 k1 c1 w1 hown1 hga hat1;have hblk:=((HD.out.blk.alloc _).kept HO.out hga (by decide));have hd4:w1.cell? ⟨g,4,none⟩=some (.slice A0 vs.length c0):=hblk.cell 4;have hf4:=hblk.free 4;have hd2:w1.cell? ⟨g,2,none⟩=some (.map (some bv)):=hblk.cell 2)
   |fail)
  refine(zFE HD.out HOK.out HP.out hpo hn HO.out HPL.out hown1 hga hat1 ⟨_,rfl,rfl⟩).mono ?_;rintro e w3 ⟨rfl,hd3,hs3⟩;go_wp2_with fail
  go_end0
  exact⟨rfl,_,hd3,hs3⟩
 |fr a=>
  obtain⟨ga,rfl,_⟩:=HP.out;go_enter Tryz.func176,Tryz.ntmps176
  go_wp2_with (first
   |(at_builtin;refine z05 _ rfl (.tmp 10) (.tmp 12) zIC rfl HO.out (Sl.new1 (S:=fun _=>True) _ _ _ rfl trivial) rfl rfl (by intro y hy;simp at hy;subst hy;rfl) (by simp only [maxLen];omega) (by omega) (Nat.zero_le _) ?_;intro A1 k1 c1 w1 hown1 hga hat1;have hblk:=((HD.out.blk.alloc _).kept HO.out hga (by decide));have hd4:w1.cell? ⟨g,4,none⟩=some (.slice A0 vs.length c0):=hblk.cell 4;have hf4:=hblk.free 4;have hd2:w1.cell? ⟨g,2,none⟩=some (.map (some bv)):=hblk.cell 2)
   |fail)
  refine(zFE HD.out HOK.out HP.out hpo hn HO.out HPL.out hown1 hga hat1 ⟨_,rfl,rfl⟩).mono ?_;rintro e w3 ⟨rfl,hd3,hs3⟩;go_wp2_with fail
  go_end0
  exact⟨rfl,_,hd3,hs3⟩
theorem Dk.look{w:World}{h:Zn}{D:Dsk}(d:Dk w h D){a:Int}(ha:InI a):∃v,(Instr.lookup 161 (.map (some h.bv)) (.int .i64 a) true).run Tryz.prog w= .ok (.tuple #[v,.bool (D.view a).isSome]) w∧
 ∀l,D.view a=some l→Ub w 0 v l:=by
 obtain⟨m,hm,hr⟩:=d.view;have hs:=hr a ha;refine⟨_,by rw [←hs.some_iff];exact hm.look z1J z5N (z32 w) ha,fun l hl=> ?_⟩;rw [hl]at hs;cases hma:m a with
 |none=>rw [hma]at hs;exact hs.elim
 |some v=>rw [hma]at hs;exact hs
theorem Dk.len{w:World}{h:Zn}{D:Dsk}(d:Dk w h D)(n:Nat)(ty:TypeId):(Builtin.len_ #[161] ty #[.map (some h.bv)]).run Tryz.prog (w.drewN n)= .ok (.int .i64 (D.nv:Int)) (w.drewN n):=by
 obtain⟨m,hm,hr⟩:=d.view;have h2:MpV Tryz.prog 3 (w.drewN n) h.bv m D.nv:=hm.at rfl;exact h2.len z1J z5N ty
theorem z4w(h:Zn)(D:Dsk)(a:Int)(w:World)(hd:Dk w h D)(hok:D.Ok)(ha:InI a):
 Calls Tryz.prog 169 #[.pointer (some ⟨h.g,0,none⟩),.int .i64 a] w fun e w'=>
  (∀l,D.view a=some l→∃A c,e= .returned (.tuple #[.slice A l.length c,.int .i64 0])∧Ob 5 w' w.heap.size (.slice A l.length c) l)∧
  (D.view a=none→e= .returned (.tuple #[.slice none 0 0,.int .i64 61]))∧Below w.heap.size w w':=by
 obtain⟨v,hlk,hv⟩:=hd.look ha;have hd2:w.cell? ⟨h.g,2,none⟩=some (.map (some h.bv)):=hd.blk.cell 2;have HV:=zz hv;have HOK:=zz hok;cases hva:D.view a with
 |none=>
  rw [hva]at hlk;simp only [Option.isSome_none]at hlk;clear hd hv hok;go_enter Tryz.func169,Tryz.ntmps169
  go_wp2_with fail
  go_ret2
  exact⟨(fun l h=>by cases h),fun _=>rfl,Below.refl _ _⟩
 |some l=>
  rw [hva]at hlk;simp only [Option.isSome_some]at hlk;have hub:=hv l hva;obtain⟨A,c,rfl,_⟩:=hub.bs.at;have HU:=zz hub;have hll:l.length≤512:=(hok.view.at hva).2.2;clear hd hv hok hub HV;go_enter Tryz.func169,Tryz.ntmps169
  go_wp2_with (first
   |(at_builtin;refine z03 _ rfl (.tmp 19) (.tmp 20) z0Z rfl (Ob.made _ _ w.heap.size (Nat.le_refl _) (by simp)) (Sl.alloc1 HU.out _) rfl rfl (by simp;omega) (by simp) ?_;intro A1 k1 c1 w1 hown1 hga1 hat1)
   |fail)
  go_ret2
  have q:Below w.heap.size w w1:=z02 ((Below.refl _ _).alloc (Nat.le_refl _) _) (Ob.made _ _ w.heap.size (Nat.le_refl _) (by simp)) hga1 (by simp);have ho:Ob 5 w1 w.heap.size (.slice A1 k1 c1) l:=by simpa using hown1
  obtain rfl:=ho.len;exact⟨fun l' h'=>(by cases h';exact⟨A1,c1,rfl,ho⟩),(fun h=>by cases h),q⟩
def Dsk.freeE(D:Dsk)(a:Int):Nat:=if(D.view a).isSome then 0 else 61
theorem zEC(h:Zn)(D:Dsk)(a:Int)(w:World)(hd:Dk w h D)(hok:D.Ok)(ha:InI a)(hlen:D.pend.length≤1000000000):
 Calls Tryz.prog 156 #[.pointer (some ⟨h.g,0,none⟩),.int .i64 a] w fun e w'=>e= .returned (.int .i64 (D.freeE a:Int))∧∃h',Dk w' h' (D.free a)∧Stp h w h' w':=by
 obtain⟨v,hlk,hv⟩:=hd.look ha;have hd2:w.cell? ⟨h.g,2,none⟩=some (.map (some h.bv)):=hd.blk.cell 2;have HD:=zz hd;have HOK:=zz hok;cases hva:D.view a with
 |none=>
  rw [hva]at hlk;simp only [Option.isSome_none]at hlk;have HF:Hid (D.free a=D):=by unfold Dsk.free;rw [Hid,hva];rfl
  have HFE:Hid (D.freeE a=61):=by unfold Dsk.freeE;rw [Hid,hva];rfl
  clear hd hv hok;go_enter Tryz.func156,Tryz.ntmps156
  go_wp2_with fail
  go_ret
  exact⟨by rw [HFE.out];rfl,h,by rw [HF.out];exact HD.out,Stp.refl _ _⟩
 |some l=>
  rw [hva]at hlk;simp only [Option.isSome_some]at hlk;have HF:Hid (D.free a=D.put (.fr a) 0):=by unfold Dsk.free;rw [Hid,hva];rfl
  have HFE:Hid (D.freeE a=0):=by unfold Dsk.freeE;rw [Hid,hva];rfl
  have hpo:zIV (.fr a):=by have:=hok.view.at hva;exact⟨this.1,this.2.1⟩
  have HP:=zz hpo;clear hd hv hok hpo;go_enter Tryz.func156,Tryz.ntmps156
  go_wp2_with fail
  refine(zBA a w).mono ?_;rintro e w1 ⟨pv,rfl,hpn,hbl⟩;go_wp2_with fail
  refine(zFr h D pv (.fr a) 0 w1 (HD.out.later hbl) HOK.out hpn HP.out (by unfold InI;omega) hlen).mono ?_;rintro e w2 ⟨rfl,h',hd',hs'⟩;go_wp2_with fail
  go_ret
  exact⟨by rw [HFE.out];rfl,h',by rw [HF.out];exact hd',(Stp.below hbl).trans hs'⟩
theorem z7m(h:Zn)(D:Dsk)(a:Int)(S:Nat→Prop)(v0:Value)(b:List UInt8)(w:World)(hd:Dk w h D)(hok:D.Ok)(ha:InI a)(hb:Bs S w v0 b)(hbl:b.length≤1099511627776)(hlen:D.pend.length≤1000000000):
 Calls Tryz.prog 167 #[.pointer (some ⟨h.g,0,none⟩),.int .i64 a,v0] w fun e w'=>e= .returned (.int .i64 (D.why a b:Int))∧∃h',Dk w' h' (D.write a b)∧Stp h w h' w':=by
 obtain⟨v,hlk,hv⟩:=hd.look ha;obtain⟨A,c,rfl,_⟩:=hb.at;have hd0:w.cell? ⟨h.g,0,none⟩=some (.int .i64 D.size):=hd.blk.cell 0;have hd1:w.cell? ⟨h.g,1,none⟩=some (.int .i64 D.limit):=hd.blk.cell 1;have hd2:w.cell? ⟨h.g,2,none⟩=some (.map (some h.bv)):=hd.blk.cell 2;have HD:=zz hd;have HOK:=zz hok;have HB:=zz hb;have HA:=zz ha;have hln:=fun n ty=>hd.len n ty
 have hwy:Hid (D.why a b=if a<0∨D.size≤a then 61 else if 512<b.length then 62 else if(D.view a).isNone∧D.limit≤(D.nv:Int)then 63 else 0):=rfl;have HWR:Hid (D.write a b=if D.why a b=0 then D.put (.wr a b) b.length else D):=rfl;clear hd hok hv hb ha;by_cases c1:a<0∨D.size≤a
 ·have HW:Hid (D.why a b=61):=by rw [Hid,hwy.out,if_pos c1]
  have HE:Hid (D.write a b=D):=by rw [Hid,HWR.out,HW.out];rfl
  rcases Decidable.em (a<0)with h0|h0
  case' inl=>have hx:=h0
  case' inr=>have hx:D.size≤a:=c1.resolve_left h0
  all_goals
   clear c1;go_enter Tryz.func167,Tryz.ntmps167
   go_wp2_with fail
   go_ret
   exact⟨by rw [HW.out];rfl,h,by rw [HE.out];exact HD.out,Stp.refl _ _⟩
 ·have c11:¬a<0:=fun e=>c1 (.inl e)
  have c12:¬D.size≤a:=fun e=>c1 (.inr e)
  by_cases c2:512<b.length
  ·have HW:Hid (D.why a b=62):=by rw [Hid,hwy.out,if_neg c1,if_pos c2]
   have HE:Hid (D.write a b=D):=by rw [Hid,HWR.out,HW.out];rfl
   clear c1;go_enter Tryz.func167,Tryz.ntmps167
   go_wp2_with fail
   go_ret
   exact⟨by rw [HW.out];rfl,h,by rw [HE.out];exact HD.out,Stp.refl _ _⟩
  ·obtain⟨U,hU⟩:∃U,(D.view a).isSome=U:=⟨_,rfl⟩;rw [hU]at hlk;by_cases c3:(D.view a).isNone∧D.limit≤(D.nv:Int)
   ·have HW:Hid (D.why a b=63):=by rw [Hid,hwy.out,if_neg c1,if_neg c2,if_pos c3]
    have HE:Hid (D.write a b=D):=by rw [Hid,HWR.out,HW.out];rfl
    have hUf:U=false:=by rw [←hU];have:=c3.1;cases h1:D.view a<;>simp_all
    subst hUf;have c31:=c3.2;clear c1 c3 hU;go_enter Tryz.func167,Tryz.ntmps167
    go_wp2_with fail
    go_quiet (fail)
    go_wp2_with fail
    go_ret
    exact⟨by rw [HW.out];rfl,h,by rw [HE.out];exact HD.out.later (below_drewN (Below.refl _ _) _),Stp.below (below_drewN (Below.refl _ _) _)⟩
   ·have HW:Hid (D.why a b=0):=by rw [Hid,hwy.out,if_neg c1,if_neg c2,if_neg c3]
    have HE:Hid (D.write a b=D.put (.wr a b) b.length):=by rw [Hid,HWR.out,HW.out];rfl
    have HPO:Hid (zIV (.wr a b)):=by
     have:=zCN HW.out;have h2:=HOK.out.size;exact⟨this.1,by omega,this.2.2⟩
    have hcase:U=true∨U=false∧¬D.limit≤(D.nv:Int):=by
     cases h1:D.view a with
     |none=>right;rw [←hU,h1];exact⟨rfl,fun e=>c3 ⟨by rw [h1];rfl,e⟩⟩
     |some l=>left;rw [←hU,h1];rfl
    clear c1 c3 hU;rcases hcase with rfl|⟨rfl,c31⟩
    all_goals
     go_enter Tryz.func167,Tryz.ntmps167
     go_wp2_with fail
     go_quiet (fail)
     have hq0:Below w.heap.size w (w.drewN nq):=below_drewN (Below.refl _ _) _;have HBW:Hid (Bs S (w.drewN nq) (.slice A b.length c) b):=HB.out;have HDW:Hid (Dk (w.drewN nq) h D):=HD.out.later hq0;generalize w.drewN nq=W at*;go_wp2_with (first
      |(at_builtin;refine z03 _ rfl (.tmp 48) (.tmp 49) z0Z rfl (Ob.made _ _ W.heap.size (Nat.le_refl _) (by simp)) (Sl.alloc1 HBW.out _) rfl rfl (by simp;omega) (by simp) ?_;intro A1 k1 c1 w1 hown1 hga1 hat1;have hob:Ob 5 w1 W.heap.size (.slice A1 k1 c1) b:=(by simpa using hown1);have hk1:=hob.len;subst hk1)
      |fail)
     have q1:Below W.heap.size W w1:=z02 ((Below.refl _ _).alloc (Nat.le_refl _) _) (Ob.made _ _ W.heap.size (Nat.le_refl _) (by simp)) hga1 (by simp);refine(zB2 a A1 c1 b w1 ((Ub.of_own hob).lower (Nat.zero_le _))).mono ?_;rintro e w2 ⟨pv,rfl,hpn,hbl2⟩;have q2:Below W.heap.size W w2:=q1.trans (hbl2.mono q1.size);go_wp2_with fail
     refine(zFr h D pv (.wr a b) b.length w2 (HDW.out.later q2) HOK.out hpn HPO.out (by unfold InI;omega) hlen).mono ?_;rintro e w3 ⟨rfl,h',hd',hs'⟩;go_wp2_with fail
     go_ret
     exact⟨by rw [HW.out];rfl,h',by rw [HE.out];exact hd',(Stp.below (hq0.trans (q2.mono hq0.size))).trans hs'⟩
theorem Dk.parts{w w':World}{h:Zn}{D:Dsk}(d:Dk w h D)(hg:w.grownBy w' (some h.g)):Secs w' h.bv D.view D.nv∧Secs w' h.bg D.ground D.ng∧∃vs,Ow 291 w' 0 h.pv vs∧PnL w' vs D.pend:=by
 have kd:=z0F d.blk;obtain⟨vs,h1,h2⟩:=d.pend;refine⟨d.view.other (fun e=> ?_) (by rw [kd];decide) hg,d.ground.other (fun e=> ?_) (by rw [kd];decide) hg,vs,h1.other (fun e=> ?_) hg,h2.keep fun v p hp=>hp.other (fun t ht=> ?_) hg⟩
 ·have:=d.view.kind;rw [e,kd]at this;cases this
 ·have:=d.ground.kind;rw [e,kd]at this;cases this
 ·have:=z1E h1 e;rw [kd]at this;revert this;decide
 ·rw [kd];revert ht;simp only [z2O,List.mem_cons,List.not_mem_nil,or_false];rintro(rfl|rfl|rfl)<;>decide
theorem zEW(h:Zn)(D:Dsk)(w:World)(hd:Dk w h D)(hok:D.Ok):
 Calls Tryz.prog 157 #[.pointer (some ⟨h.g,0,none⟩)] w fun e w'=>e= .returned (.tuple #[])∧∃h',Dk w' h' D.sync∧Stp h w h' w':=by
 obtain⟨g,bv,bg,sl⟩:=h;have hd2:w.cell? ⟨g,2,none⟩=some (.map (some bv)):=hd.blk.cell 2;have HD:=zz hd;have HOK:=zz hok;clear hd hok;go_enter Tryz.func157,Tryz.ntmps157
 go_wp2_with fail
 refine(zCh bv D.nv D.view w HD.out.view HOK.out.view).mono ?_;rintro e w1 ⟨bo,rfl,hbo,hs,hbl⟩;have hd1:=HD.out.later hbl;have HD1:=zz hd1;have HS:=zz hs;have c3:w1.cell? ⟨g,3,none⟩=some (.map (some bg)):=hd1.blk.cell 3;have c4:w1.cell? ⟨g,4,none⟩=some sl:=hd1.blk.cell 4;have f3:=hd1.blk.free 3;have f4:=hd1.blk.free 4;have HBL:=zz hbl;have hbv:=HD.out.view.lt;clear hd1 hs hbl;go_wp2_with fail
 go_end0
 have kd:=z0F HD1.out.blk;have p1:=HD1.out.parts (z3g (g:=g) (i:=3) (.map (some bo)));have b1:=HD1.out.blk.put 3 (.map (some bo));have gg:=z3g (w:=w1.setCell ⟨g,3,none⟩ (.map (some bo))) (g:=g) (i:=4) (.slice none 0 0);have kd1:=z0F b1;have hk:∀ {b n:Nat} {f:SF},Secs w1 b f n→Secs ((w1.setCell ⟨g,3,none⟩ (.map (some bo))).setCell ⟨g,4,none⟩ (.slice none 0 0)) b f n:=fun hs=>by
  have h1:=hs.other (z:=g) (fun e=>by have:=hs.kind;rw [e]at this;rw [kd]at this;cases this) (by rw [kd];decide) (z3g (g:=g) (i:=3) (.map (some bo)));exact h1.other (z:=g) (fun e=>by have:=h1.kind;rw [e]at this;rw [kd1]at this;cases this) (by rw [kd1];decide) gg
 refine⟨rfl,⟨g,bv,bo,.slice none 0 0⟩,⟨b1.put 4 _,hk HD1.out.view,hk HS.out,fun e=>by simp only at e hbv;omega,[],World.ownsRow_nil _ _ _ _,PnL.nil _⟩,rfl,((Turn.of_below HBL.out).setCell (.inl (.inl rfl)) _).setCell (.inl (.inl rfl)) _,fun b hb=> ?_⟩;rcases hb with h|h|h|h
 ·exact .inl (.inl h)
 ·exact .inl (.inr (.inl h))
 ·right;simp only at h;omega
 ·cases h
def zBr(r:Nat×List UInt8):Value:= .agg #[.int .u64 (r.1:Int),.string (st r.2)]
theorem zDV(q:Nat)(t:List UInt8)(w:World)(hq:q<U64)(ht:t.length≤65536):
 Calls Tryz.prog 166 #[.agg #[.int .u64 (q:Int),.string (st t)]] w fun e w'=>∃A k c,e= .returned (.slice A k c)∧Ob 5 w' w.heap.size (.slice A k c) (zAL q t)∧Below w.heap.size w w':=by
 have hb0:=Blk.new w 173 #[.int .u64 (q:Int),.string (st t)];have HQ:=zz hq;go_enter Tryz.func166,Tryz.ntmps166
 go_wp2_with fail
 refine(z3b _).mono ?_;rintro e w1 ⟨rfl,hw1,hbl1,hsz1⟩;have hb1:=hb0.later hbl1;have q1:Below w.heap.size w w1:=((Below.refl w.heap.size w).alloc (Nat.le_refl _) _).trans (hbl1.mono (by simp));generalize hG:(w.alloc (.cells #[.int .u64 (q:Int),.string (st t)] 173)).heap.size=G at*;have hG':w.heap.size<G:=by rw [←hG];simp
 have hG1:G<w1.heap.size:=by omega
 have HW1:=zz hw1;have d0:w1.cell? ⟨w.heap.size,0,none⟩=some (.int .u64 (q:Int)):=hb1.cell 0;clear hw1 hb0 hq hG hbl1 hsz1;go_wp2_with fail
 refine(z8J G G G [] [q] _ _ (HW1.out.alloc _) (by simp;omega) (fun _=>Nat.le_refl _) (by simp;omega) (by intro y hy;simp at hy;subst hy;exact HQ.out) (by simp) (Sl.new1 w1 _ _ (by simp) ⟨by omega,by simp⟩)).mono ?_;rintro e w2 ⟨rfl,hw2,hg2⟩;simp only [List.flatMap_cons,List.flatMap_nil,List.append_nil,List.nil_append]at hw2;have hb2:=(hb1.alloc (.cells #[.int .u64 (q:Int)] 39)).grown hg2 (by simp;omega);have q2:Below w.heap.size w w2:=(q1.alloc (by omega) _).trans (z0M hg2 (by omega) (by simp;omega));have hs2:=q2.size;have hg2s:w1.heap.size+1≤w2.heap.size:=by have:=hg2.size;simpa using this
 have HW2:=zz hw2;have hv10:=z06 HQ.out;have d1:w2.cell? ⟨w.heap.size,1,none⟩=some (.string (st t)):=hb2.cell 1;clear hw2 hb1 hg2 HW1 d0;go_wp2_with fail
 refine(z3T G G (z0A q) [t] _ _ (HW2.out.alloc _) (by simp;omega) (Nat.le_refl _) (by intro y hy;simp at hy;subst hy;exact ht) (by simp;omega) (Sl.new1 w2 _ _ (by simp) ⟨by omega,by simp⟩)).mono ?_;rintro e w3 ⟨rfl,hw3,hg3⟩;simp only [List.flatMap_cons,List.flatMap_nil,List.append_nil]at hw3;have q3:Below w.heap.size w w3:=(q2.alloc (by omega) _).trans (z0M hg3 (by omega) (by simp;omega));have hs3:=q3.size;have HW3:Hid (Wr w3 G G (zAL q t)):=hw3;have hl3:=z2t ht;clear hw3 hb2 hg3 HW2 d1;go_wp2_with fail
 refine(z2h G G (zAL q t) w3 HW3.out (by unfold zAL;unfold z0Q at hl3;rw [List.length_append];omega)).mono ?_;rintro e w4 ⟨A4,k4,c4,rfl,hown4,hbl4⟩;go_wp2_with fail
 go_ret
 exact⟨A4,k4,c4,rfl,hown4.lower hs3,q3.trans (hbl4.mono hs3)⟩
def zC2(q:Nat)(t:List UInt8)(w:World)(e:Ending)(w':World):Prop:=
 (t.length≤32768→∃A k c,e= .returned (.tuple #[.slice A k c,.int .i64 0])∧Ob 5 w' w.heap.size (.slice A k c) (z6u q t))∧
 (32768<t.length→e= .returned (.tuple #[.slice none 0 0,.int .i64 70]))∧Below w.heap.size w w'
theorem z61(q:Nat)(t:List UInt8)(w:World)(hq:q<U64)(hb:BitsOk w)(ht:t.length≤1099511627776):
 Calls Tryz.prog 138 #[.agg #[.int .u64 (q:Int),.string (st t)]] w (zC2 q t w):=by
 have hb0:=Blk.new w 173 #[.int .u64 (q:Int),.string (st t)];have HQ:=zz hq;have d1:(w.alloc (.cells #[.int .u64 (q:Int),.string (st t)] 173)).cell? ⟨w.heap.size,1,none⟩=some (.string (st t)):=hb0.cell 1;have q0:Below w.heap.size w (w.alloc (.cells #[.int .u64 (q:Int),.string (st t)] 173)):=(Below.refl _ _).alloc (Nat.le_refl _) _;by_cases hl:32768<t.length
 ·go_enter Tryz.func138,Tryz.ntmps138
  go_wp2_with fail
  go_ret2
  exact⟨fun h=>(by omega),fun _=>rfl,q0⟩
 ·have hb':=zz (hb.later q0);have hF:=zz (zGo HQ.out (show t.length≤32768 by omega));clear hb;have c0:(w.alloc (.cells #[.int .u64 (q:Int),.string (st t)] 173)).cell? ⟨w.heap.size,0,none⟩=some (.int .u64 (q:Int)):=hb0.cell 0;go_enter Tryz.func138,Tryz.ntmps138
  go_wp2_with fail
  refine(zDV q t _ HQ.out (by omega)).mono ?_;rintro e w1 ⟨A1,k1,c1,rfl,hown1,hbl1⟩;have HO1:=zz hown1;have HB1:=zz (hb'.out.later hbl1);have q1:=q0.trans (hbl1.mono q0.size);have hs1:=q1.size;clear hown1 hbl1;go_wp2_with fail
  refine(zBe _ _ (zAL q t) w1 HB1.out (by have:=hF.out;omega) HO1.out.bs).mono ?_;rintro e w2 ⟨A2,k2,c2,rfl,hown2,hbl2⟩;obtain rfl:=hown2.len;have HO2:Hid (Ob 5 w2 w1.heap.size (.slice A2 (zCz q t).length c2) (zCz q t)):=hown2;have HB2:=zz (HB1.out.later hbl2);have q2:=q1.trans (hbl2.mono hs1);have hs2:=q2.size;have HL:(zCz q t).length≤32804:=by rw [zBo];have:=hF.out;omega
  have hwr:IntKind.u64.wrap ((zCz q t).length:Int)=((zCz q t).length:Int):=z0l (by omega) (by unfold U64;omega);rw [show zAL q t++beB (z49 (zAL q t)).toNat 4=zCz q t from rfl];clear hown2 hbl2 HO1 HB1;have HR:Hid (beB (zCz q t).length 4++zCz q t=z6u q t):=rfl;generalize zCz q t=sl at*;go_wp2_with fail
  refine(zFG (fun _=>True) _ [] sl.length 4 w2 (by omega) (by omega) (by unfold U64;omega) (fun _=>by omega) HB2.out (by simp) (Bs.nilv _ _)).mono ?_;rintro e w3 ⟨A3,k3,c3,rfl,hown3,hbl3⟩;rw [List.nil_append]at hown3;have HO3:=zz (HO2.out.later hbl3);have q3:=q2.trans (hbl3.mono hs2);have hs3:=hbl3.size;clear hbl3;go_wp2_with (at_builtin;go_loud (refine z03 _ rfl (.tmp 21) (.tmp 22) z0Z rfl hown3 HO3.out.bs rfl rfl (by rw [z0u];omega) hs3 ?_);intro A4 k4 c4 w4 hown4 hg4 hat4)
  go_ret2
  rw [HR.out]at hown4;exact⟨fun _=>⟨A4,k4,c4,rfl,hown4.lower hs2⟩,fun h=>(by omega),q3.grown hg4 (by omega) (fun k hk=>by have:=(hown3.lt k hk).1;omega)⟩
def z7O:Option ((Nat×List UInt8)×Nat)→Value
 |some (r,n)=> .tuple #[zBr r,.int .i64 (n:Int),.bool true]
 |none=> .tuple #[zBr (0,[]),.int .i64 0,.bool false]
theorem z5n:z1D Tryz.prog 173 2:=⟨⟨_,Tryz.underlying173⟩,by kernel_rfl⟩
theorem Blk.put2{w:World}{g:Nat}{t:TypeId}{a b:Value}(h:Blk w g t #[a,b])(x y:Value):Blk ((w.setCell ⟨g,0,none⟩ x).setCell ⟨g,1,none⟩ y) g t #[x,y]:=(h.put 0 x).put 1 y
theorem zDm(A:Option Addr)(k c:Nat)(w:World)(hk:k<4):
 Calls Tryz.prog 152 #[.slice A k c] w fun e w'=>e= .returned (z7O none)∧Below w.heap.size w w':=by
 have q0:Below w.heap.size w (w.alloc (.cells #[.int .u64 0,.string (st [])] 173)):=(Below.refl _ _).alloc (Nat.le_refl _) _;have hb0:=Blk.new w 173 #[.int .u64 0,.string (st [])];go_enter Tryz.func152,Tryz.ntmps152
 go_wp2_with fail
 refine(zEp A k c 4 _ (by omega) (by omega) hk).mono ?_;rintro e w1 ⟨rfl,rfl⟩;go_wp2_with fail
 exact bodyPost_ret (z0x rfl _ _ w.heap.size rfl hb0 z5n) rfl ⟨rfl,q0⟩
theorem Ob.cases{e:TypeId}{w:World}{B:Nat}{A:Option Addr}{k c:Nat}{l:List UInt8}(h:Ob e w B (.slice A k c) l):(A=none∧l= []∧c=0)∨∃g,A=some ⟨g,0,none⟩:=by
 rcases h.2 with⟨hv,hn⟩|⟨g,cap,cur,hv,_⟩
 ·injection hv with hA _ hc
  exact .inl ⟨hA,List.eq_nil_of_length_eq_zero hn,hc⟩
 ·injection hv with hA _ hc
  exact .inr ⟨g,hA⟩
theorem zF8{l:List UInt8}{er:Nat}(h:z1g l= .error er):er=20∨er=21:=by
 unfold z1g at h
 split at h
 ·cases h;exact .inl rfl
 ·split at h
  ·cases h
  ·cases h;exact .inr rfl
theorem zEO{l f:List UInt8}(h:z1g l= .ok f):f.length≤l.length:=by
 unfold z1g at h
 split at h
 ·cases h
 ·split at h
  ·cases h;rw [List.length_take];omega
  ·cases h
def zGg(f:List UInt8)(n:Nat):Option ((Nat×List UInt8)×Nat):=
 if(z0H (z0k f 0).2.1 (z0k f 0).2.2).2.2=0∧(z0H (z0k f 0).2.1 (z0k f 0).2.2).2.1= []∧(z0H (z0k f 0).2.1 (z0k f 0).2.2).1.length≤32768
 then some (((z0k f 0).1,(z0H (z0k f 0).2.1 (z0k f 0).2.2).1),4+n)else none
def zDI(m:List UInt8)(n:Nat):Option ((Nat×List UInt8)×Nat):=match z1g (m.take n)with
 | .error _=>none
 | .ok f=>zGg f n
theorem zFz{l:List UInt8}(h:¬ (l.length<4∨(l.drop 4).length<deB (l.take 4))):z0e l=zDI (l.drop 4) (deB (l.take 4)):=by
 unfold z0e zDI zGg;rw [if_neg h];cases z1g ((l.drop 4).take (deB (l.take 4)))<;>rfl
theorem z9E:z1g []= .error 20:=by unfold z1g;rw [if_pos (by simp)]
theorem zDS{l:List UInt8}{e:Nat}:z1P l e=0↔e=0∧l= []:=by
 unfold z1P;constructor
 ·intro h
  split at h
  ·cases h
  ·rename_i h2;subst h;refine⟨rfl,?_⟩;rcases l with _|⟨b,l⟩
   ·rfl
   ·exact absurd ⟨rfl,by simp⟩ h2
 ·rintro⟨rfl,rfl⟩;rfl
theorem z91(l:List UInt8){e:Nat}(he:e≤1000):(z0k l e).1<U64∧(z0k l e).2.1.length≤l.length∧(z0k l e).2.2≤1000:=by
 unfold z0k
 split
 ·exact⟨by simp [U64],Nat.le_refl _,he⟩
 ·split
  ·rename_i er hg;exact⟨by simp [U64],Nat.le_refl _,(z3v hg).1⟩
  ·rename_i x n hg;exact⟨(z1X hg).1,by rw [List.length_drop];omega,Nat.zero_le _⟩
theorem z9g(l:List UInt8){e:Nat}(he:e≤1000):(z0H l e).1.length≤65536∧(z0H l e).2.1.length≤l.length∧(z0H l e).2.2≤1000:=by
 unfold z0H
 split
 ·exact⟨by simp,Nat.le_refl _,he⟩
 ·split
  ·rename_i er hg;exact⟨by simp,Nat.le_refl _,(z3v hg).1⟩
  ·rename_i x n hg
   split
   ·exact⟨by simp,Nat.le_refl _,(show 32≤1000 by decide)⟩
   ·split
    ·exact⟨by simp,Nat.le_refl _,(show 30≤1000 by decide)⟩
    ·exact⟨by simp only [List.length_take];omega,by simp only [List.length_drop];omega,Nat.zero_le _⟩
theorem z4j(S:Nat→Prop)(v0:Value)(l:List UInt8)(w:World)(hl:l.length≤1099511627776)(hr:Bs S w v0 l):
 Calls Tryz.prog 152 #[v0] w fun e w'=>e= .returned (z7O (z0e l))∧Below w.heap.size w w':=by
 have HR:Hid (Bs (fun b=>b<w.heap.size) w v0 l):=(Sl.lt hr (by omega)).more (fun _ h=>h.2);by_cases h4:l.length<4
 ·obtain⟨A,c,rfl,_⟩:=hr.at;have e:z0e l=none:=by unfold z0e;rw [if_pos (.inl h4)]
  rw [e];exact zDm A l.length c w h4
 have q0:Below w.heap.size w (w.alloc (.cells #[.int .u64 0,.string (st [])] 173)):=(Below.refl _ _).alloc (Nat.le_refl _) _;have hb0:=Blk.new w 173 #[.int .u64 0,.string (st [])];have hr0:Hid (Bs (fun b=>b<w.heap.size) (w.alloc (.cells #[.int .u64 0,.string (st [])] 173)) v0 l):=Sl.alloc HR.out (fun _ h=>h) _;have hd4:deB (l.take 4)<4294967296:=Nat.lt_of_lt_of_le (z4G l 4) (by decide);have hdl:(l.drop 4).length≤1099511627776:=by rw [List.length_drop];omega
 go_enter Tryz.func152,Tryz.ntmps152
 go_wp2_with fail
 refine(zFq _ v0 l 4 _ (by omega) (by omega) (by omega) hl hr0.out).mono ?_;rintro e w1 ⟨A1,k1,c1,rfl,hown1,hbl1⟩;obtain rfl:=hown1.len;have hb1:=hb0.later hbl1;have q1:=q0.trans (hbl1.mono q0.size);have hs1:=q1.size;have hwr:IntKind.u64.wrap ((l.drop 4).length:Int)=((l.drop 4).length:Int):=z0l (by omega) (by unfold U64;omega);have HO1:=zz hown1;have d0:w1.cell? ⟨w.heap.size,0,none⟩=some (.int .u64 0):=hb1.cell 0;have d1:w1.cell? ⟨w.heap.size,1,none⟩=some (.string (st [])):=hb1.cell 1;have f0:=hb1.free 0;have f1:=hb1.free 1;have HB1:=zz hb1;clear hown1 hb1 hb0 hbl1 hr0;by_cases hn:(l.drop 4).length<deB (l.take 4)
 ·have HN:Hid (z0e l=none):=by unfold z0e;rw [Hid,if_pos (.inr hn)]
  generalize deB (l.take 4)=n at*;generalize l.drop 4=m at*;have t0:decide (m.length<n)=true:=by rw [decide_eq_true_eq];exact hn
  clear hn;go_wp2_with fail
  exact bodyPost_ret (z0x rfl _ _ w.heap.size rfl (HB1.out.put2 _ _) z5n) rfl ⟨by rw [HN.out];rfl,(q1.setCell (by simp) _).setCell (by simp) _⟩
 ·have hnm:deB (l.take 4)≤(l.drop 4).length:=by omega
  have HG:Hid (z0e l=zDI (l.drop 4) (deB (l.take 4))):=zFz (by omega);generalize deB (l.take 4)=n at*;generalize l.drop 4=m at*;have t0:decide (m.length<n)=false:=by rw [decide_eq_false_iff_not];exact hn
  clear hn;rcases HO1.out.cases with⟨rfl,rfl,rfl⟩|⟨g1,rfl⟩
  ·obtain rfl:n=0:=by simpa using hnm
   have HN:Hid (z0e l=none):=by rw [Hid,HG.out,zDI,List.take_nil,z9E]
   clear HG;go_wp2_with fail
   refine(z8R _ _ [] w1 (by simp) (Bs.nilv (fun _=>True) _)).mono ?_;rintro e w2 ⟨_,her,hbl2⟩;obtain rfl:=her _ z9E;have hb2:=HB1.out.later hbl2;have e0:w2.cell? ⟨w.heap.size,0,none⟩=some (.int .u64 0):=hb2.cell 0;have e1:w2.cell? ⟨w.heap.size,1,none⟩=some (.string (st [])):=hb2.cell 1;have g0:=hb2.free 0;have g1:=hb2.free 1;have q2:=q1.trans (hbl2.mono hs1);clear her;go_wp2_with fail
   exact bodyPost_ret (z0x rfl _ _ w.heap.size rfl (hb2.put2 _ _) z5n) rfl ⟨by rw [HN.out];rfl,(q2.setCell (by simp) _).setCell (by simp) _⟩
  ·have hpre:=zz (Bs.pre HO1.out.bs hnm);have hcp:m.length≤c1:=by
    obtain⟨_,c',hv,h,_⟩:=HO1.out.bs.at;injection hv with _ _ hv
    omega
   have hml:(m.take n).length≤1099511627776:=by rw [List.length_take];omega
   have HNM:=zz hnm;go_wp2_with fail
   refine(z8R _ _ (m.take n) w1 hml hpre.out).mono ?_;rintro e w2 ⟨hok,her,hbl2⟩;have hb2:=HB1.out.later hbl2;have q2:=q1.trans (hbl2.mono hs1);have hs2:=q2.size;cases ho:z1g (m.take n)with
   |error er=>
    obtain rfl:=her _ ho;have HN:Hid (z0e l=none):=by rw [Hid,HG.out,zDI,ho]
    have e0:w2.cell? ⟨w.heap.size,0,none⟩=some (.int .u64 0):=hb2.cell 0;have e1:w2.cell? ⟨w.heap.size,1,none⟩=some (.string (st [])):=hb2.cell 1;have g0:=hb2.free 0;have g1:=hb2.free 1;have t1:((er:Int) != 0)=true:=by
     rw [bne_iff_ne];rcases zF8 ho with rfl|rfl<;>decide
    clear her hok HG ho;go_wp2_with fail
    exact bodyPost_ret (z0x rfl _ _ w.heap.size rfl (hb2.put2 _ _) z5n) rfl ⟨by rw [HN.out];rfl,(q2.setCell (by simp) _).setCell (by simp) _⟩
   |ok f=>
    obtain⟨A2,k2,c2,rfl,hown2⟩:=hok _ ho;have hfl:f.length≤1099511627776:=Nat.le_trans (zEO ho) hml;have HG:Hid (z0e l=zGg f n):=by rw [Hid,HG.out,zDI,ho]
    have HO2:=zz hown2;have HB2:=zz hb2;have hmf:=z0K Tryz.prog;have hwn:IntKind.i64.wrap (4+(n:Int))=4+(n:Int):=IntWalk.i64_in _ (by omega);have hwn2:IntKind.i64.wrap (n:Int)=(n:Int):=IntWalk.i64_in _ (by omega);clear her hok ho hown2 hpre hb2 d0 d1 f0 f1;go_wp2_with fail
    refine(z8S _ _ f w2 hfl HO2.out.bs).mono ?_;rintro e w3 ⟨g,rfl,hg3,hr3,hbl3⟩;have HB3:=zz (HB2.out.later hbl3);have q3:=q2.trans (hbl3.mono hs2);have hs3:=q3.size;have hne:g≠w.heap.size:=by have:=HB2.out.lt;omega
    have HR3:=zz hr3;clear hr3;go_wp2_with fail
    refine(zCS g w2.heap.size f 0 w3 HR3.out hbl3.size hfl).mono ?_;rintro e w4 ⟨rfl,hr4,hgr4⟩;have hle4:=z91 f (e:=0) (by omega);obtain⟨X,hX⟩:∃X,z0k f 0=X:=⟨_,rfl⟩;rw [hX]at hr4 hle4;rw [hX];obtain⟨q,r4,e4⟩:=X;simp only at hr4 hle4 ⊢;have HB4:=zz (HB3.out.grown hgr4 (by simpa using hne));have q4:=q3.trans (z0M hgr4 (by omega) hs3);have hs4:=q4.size;have HR4:=zz hr4;have hw4:w2.heap.size≤w4.heap.size:=Nat.le_trans hbl3.size hgr4.size;clear hr4 hgr4;go_wp2_with fail
    refine(z3a g w2.heap.size r4 e4 w4 HR4.out hw4 (by omega)).mono ?_;rintro e w5 ⟨rfl,hr5,hgr5⟩;have hle5:=z9g r4 hle4.2.2;obtain⟨Y,hY⟩:∃Y,z0H r4 e4=Y:=⟨_,rfl⟩;rw [hY]at hr5 hle5;rw [hY];obtain⟨t,r5,e5⟩:=Y;simp only at hr5 hle5 ⊢;have HB5:=zz (HB4.out.grown hgr5 (by simpa using hne));have q5:=q4.trans (z0M hgr5 (by omega) hs4);have hs5:=q5.size;have HR5:=zz (hr5.later ((Below.refl _ _).alloc (Nat.le_refl _) (.cells #[.int .u64 (q:Int),.string (st t)] 173)));have HG2:Hid (z0e l=if e5=0∧r5= []∧t.length≤32768 then some ((q,t),4+n)else none):=by rw [Hid,HG.out,zGg];simp only [hX,hY]
    have hnb:=Blk.new w5 173 #[.int .u64 (q:Int),.string (st t)];have q6:=q5.alloc hs5 (.cells #[.int .u64 (q:Int),.string (st t)] 173);have hb6:=HB5.out.alloc (.cells #[.int .u64 (q:Int),.string (st t)] 173);have hws5:w.heap.size≠w5.heap.size:=by have:=HB5.out.lt;omega
    have HRL:=zz (show r5.length≤1099511627776 by omega);clear hr5 hgr5 HG hX hY hle4 hle5;go_wp2_with fail
    refine(zE8 g w2.heap.size r5 e5 _ HR5.out HRL.out).mono ?_;rintro e w6 ⟨rfl,rfl⟩;have d0:(w5.alloc (.cells #[.int .u64 (q:Int),.string (st t)] 173)).cell? ⟨w.heap.size,0,none⟩=some (.int .u64 0):=hb6.cell 0;have d1:(w5.alloc (.cells #[.int .u64 (q:Int),.string (st t)] 173)).cell? ⟨w.heap.size,1,none⟩=some (.string (st [])):=hb6.cell 1;have f0:=hb6.free 0;have f1:=hb6.free 1;have HZ:=zz (zDS (l:=r5) (e:=e5));by_cases hE:z1P r5 e5=0
    ·have hz:=HZ.out.1 hE;rw [hE];by_cases ht:t.length≤32768
     ·have HN:Hid (z0e l=some ((q,t),4+n)):=by rw [Hid,HG2.out,if_pos ⟨hz.1,hz.2,ht⟩]
      clear hz hE HG2;go_wp2_with fail
      exact bodyPost_ret (z0x rfl _ _ w.heap.size rfl (hb6.put2 _ _) z5n) rfl ⟨by rw [HN.out];rfl,(q6.setCell (by simp) _).setCell (by simp) _⟩
     ·have HN:Hid (z0e l=none):=by rw [Hid,HG2.out,if_neg (fun h=>ht h.2.2)]
      clear hz hE HG2;go_wp2_with fail
      exact bodyPost_ret (z0x rfl _ _ w.heap.size rfl (hb6.put2 _ _) z5n) rfl ⟨by rw [HN.out];rfl,(q6.setCell (by simp) _).setCell (by simp) _⟩
    ·have HN:Hid (z0e l=none):=by rw [Hid,HG2.out,if_neg (fun h=>hE (HZ.out.2 ⟨h.1,h.2.1⟩))]
     have t1:((z1P r5 e5:Int) != 0)=true:=by rw [bne_iff_ne];omega
     generalize z1P r5 e5=ee at*;clear hE HG2 HZ;go_wp2_with fail
     exact bodyPost_ret (z0x rfl _ _ w.heap.size rfl (hb6.put2 _ _) z5n) rfl ⟨by rw [HN.out];rfl,(q6.setCell (by simp) _).setCell (by simp) _⟩
def z2G:Option (List UInt8)→Option (Nat×List UInt8)
 |some s=>z6k s
 |none=>none
def zEr(f:SF)(a:Int)(w:World)(e:Ending)(w':World):Prop:=
 ∃ (r:Nat×List UInt8) (ok:Bool),e= .returned (.tuple #[zBr r,.bool ok])∧z2G (f a)=(if ok then some r else none)∧Below w.heap.size w w'
theorem z8u{f:SF}{a:Int}(r:Nat×List UInt8){w w':World}(h:z2G (f a)=none)(hb:Below w.heap.size w w'):zEr f a w (.returned (.tuple #[zBr r,.bool false])) w':=⟨r,false,rfl,h,hb⟩
theorem zJc{f:SF}{a:Int}(r:Nat×List UInt8){w w':World}(h:z2G (f a)=some r)(hb:Below w.heap.size w w'):zEr f a w (.returned (.tuple #[zBr r,.bool true])) w':=⟨r,true,rfl,h,hb⟩
theorem z9N{W:World}{g:Nat}{t:TypeId}{a b:Value}(h:Blk W g t #[a,b])(x y:Value):Blk ((W.setCell ⟨g,0,none⟩ x).setCell ⟨g,1,none⟩ y).drew g t #[x,y]:=(h.put 0 x).put 1 y
theorem z4c{B:Nat}{w W:World}(h:Below B w W){g:Nat}(hg:B≤g)(x y:Value):Below B w ((W.setCell ⟨g,0,none⟩ x).setCell ⟨g,1,none⟩ y).drew:=((h.setCell (p:=⟨g,0,none⟩) hg x).setCell (p:=⟨g,1,none⟩) hg y).drew
theorem zFV{f:SF}{a:Int}{s:List UInt8}(hv:f a=some s):z2G (f a)=z6k s:=by rw [hv];rfl
theorem zD5(h:Zn)(D:Dsk)(a:Int)(w:World)(hd:Dk w h D)(hok:D.Ok)(ha:InI a):
 Calls Tryz.prog 144 #[.pointer (some ⟨h.g,0,none⟩),.int .i64 a] w (zEr D.view a w):=by
 have HD:=zz hd;have HOK:=zz hok;have b0:=Blk.new w 173 #[.int .u64 0,.string ⟨#[]⟩];have q0:=(Below.refl w.heap.size w).alloc (Nat.le_refl _) (.cells #[.int .u64 0,.string ⟨#[]⟩] 173);have HB0:=zz b0;have HQ0:=zz q0;have HL0:Hid (Below w.heap.size w (w.alloc (.cells #[.int .u64 0,.string ⟨#[]⟩] 173))):=q0;clear hd hok b0 q0;go_enter Tryz.func144,Tryz.ntmps144
 go_wp2_with fail
 refine(z4w h D a _ (HD.out.later HL0.out) HOK.out ha).mono ?_;rintro e w1 ⟨hs,hn,hb1⟩;have HB1:=zz hb1;cases hv:D.view a with
 |none=>
  obtain rfl:=hn hv;have HT:Hid (z2G (D.view a)=none):=by rw [Hid,hv];rfl
  clear hs hn hb1 hv;go_wp2_with fail
  refine(z4j (fun _=>True) _ [] _ (by simp) Sl.nil).mono ?_;rintro e w2 ⟨rfl,hb2⟩;have hr:z0e []=none:=rfl;rw [hr];unfold z7O zBr;have B0:=zz ((HB0.out.later HB1.out).later hb2);have Q2:=zz ((HQ0.out.trans (HB1.out.mono HQ0.out.size)).trans (hb2.mono (Nat.le_trans HQ0.out.size HB1.out.size)));have hlt:w.heap.size<w2.heap.size:=B0.out.lt;have B0a:=B0.out.alloc (.cells #[.int .u64 ((0:Nat):Int),.string (st [])] 173);have c0:(w2.alloc (.cells #[.int .u64 ((0:Nat):Int),.string (st [])] 173)).cell? ⟨w.heap.size,0,none⟩=some (.int .u64 0):=B0a.cell 0;have c1:(w2.alloc (.cells #[.int .u64 ((0:Nat):Int),.string (st [])] 173)).cell? ⟨w.heap.size,1,none⟩=some (.string ⟨#[]⟩):=B0a.cell 1;have cf0:(w2.alloc (.cells #[.int .u64 ((0:Nat):Int),.string (st [])] 173)).frozen? ⟨w.heap.size,0,none⟩=false:=B0a.free 0;have cf1:(w2.alloc (.cells #[.int .u64 ((0:Nat):Int),.string (st [])] 173)).frozen? ⟨w.heap.size,1,none⟩=false:=B0a.free 1;have B8:=Blk.new w2 173 #[.int .u64 ((0:Nat):Int),.string (st [])];have d0:(w2.alloc (.cells #[.int .u64 ((0:Nat):Int),.string (st [])] 173)).cell? ⟨w2.heap.size,0,none⟩=some (.int .u64 ((0:Nat):Int)):=B8.cell 0;have d1:(w2.alloc (.cells #[.int .u64 ((0:Nat):Int),.string (st [])] 173)).cell? ⟨w2.heap.size,1,none⟩=some (.string (st [])):=B8.cell 1;have df0:(w2.alloc (.cells #[.int .u64 ((0:Nat):Int),.string (st [])] 173)).frozen? ⟨w2.heap.size,0,none⟩=false:=B8.free 0;have df1:(w2.alloc (.cells #[.int .u64 ((0:Nat):Int),.string (st [])] 173)).frozen? ⟨w2.heap.size,1,none⟩=false:=B8.free 1;have BW:=zz B0a;have QW:=zz (Q2.out.alloc Q2.out.size (.cells #[.int .u64 ((0:Nat):Int),.string (st [])] 173));clear hb2 B0a B8;go_wp2_with fail
  generalize hW:w2.alloc _=W at*;have n8:¬w.heap.size=w2.heap.size:=by omega
  have n8':¬w2.heap.size=w.heap.size:=by omega
  go_region
  go_wp2_with fail
  refine bodyPost_ret (z0O rfl _ _ w.heap.size rfl (z9N BW.out _ _) z5n) rfl ?_;exact z8u (0,[]) HT.out (z4c QW.out (Nat.le_refl _) _ _)
 |some s=>
  obtain⟨A,c,rfl,hob⟩:=hs s hv;have HOB:=zz hob;have hsl:s.length≤512:=(HOK.out.view.at hv).2.2;have HTV:=zz (zFV hv);clear hs hn hb1 hv hob;go_wp2_with fail
  refine(z4j _ _ s _ (by omega) HOB.out.bs).mono ?_;rintro e w2 ⟨rfl,hb2⟩;have B0:=zz ((HB0.out.later HB1.out).later hb2);have Q2:=zz ((HQ0.out.trans (HB1.out.mono HQ0.out.size)).trans (hb2.mono (Nat.le_trans HQ0.out.size HB1.out.size)));have hlt:w.heap.size<w2.heap.size:=B0.out.lt;have n8:¬w.heap.size=w2.heap.size:=by omega
  have n8':¬w2.heap.size=w.heap.size:=by omega
  clear hb2;cases hg:z0e s with
  |none=>
   have HT:Hid (z2G (D.view a)=none):=by rw [Hid,HTV.out];unfold z6k;rw [hg]
   unfold z7O zBr;have B0a:=B0.out.alloc (.cells #[.int .u64 ((0:Nat):Int),.string (st [])] 173);have c0:(w2.alloc (.cells #[.int .u64 ((0:Nat):Int),.string (st [])] 173)).cell? ⟨w.heap.size,0,none⟩=some (.int .u64 0):=B0a.cell 0;have c1:(w2.alloc (.cells #[.int .u64 ((0:Nat):Int),.string (st [])] 173)).cell? ⟨w.heap.size,1,none⟩=some (.string ⟨#[]⟩):=B0a.cell 1;have cf0:(w2.alloc (.cells #[.int .u64 ((0:Nat):Int),.string (st [])] 173)).frozen? ⟨w.heap.size,0,none⟩=false:=B0a.free 0;have cf1:(w2.alloc (.cells #[.int .u64 ((0:Nat):Int),.string (st [])] 173)).frozen? ⟨w.heap.size,1,none⟩=false:=B0a.free 1;have B8:=Blk.new w2 173 #[.int .u64 ((0:Nat):Int),.string (st [])];have d0:(w2.alloc (.cells #[.int .u64 ((0:Nat):Int),.string (st [])] 173)).cell? ⟨w2.heap.size,0,none⟩=some (.int .u64 ((0:Nat):Int)):=B8.cell 0;have d1:(w2.alloc (.cells #[.int .u64 ((0:Nat):Int),.string (st [])] 173)).cell? ⟨w2.heap.size,1,none⟩=some (.string (st [])):=B8.cell 1;have df0:(w2.alloc (.cells #[.int .u64 ((0:Nat):Int),.string (st [])] 173)).frozen? ⟨w2.heap.size,0,none⟩=false:=B8.free 0;have df1:(w2.alloc (.cells #[.int .u64 ((0:Nat):Int),.string (st [])] 173)).frozen? ⟨w2.heap.size,1,none⟩=false:=B8.free 1;have BW:=zz B0a;have QW:=zz (Q2.out.alloc Q2.out.size (.cells #[.int .u64 ((0:Nat):Int),.string (st [])] 173));clear B0a B8 hg;go_wp2_with fail
   generalize hW:w2.alloc _=W at*;go_region
   go_wp2_with fail
   refine bodyPost_ret (z0O rfl _ _ w.heap.size rfl (z9N BW.out _ _) z5n) rfl ?_;exact z8u (0,[]) HT.out (z4c QW.out (Nat.le_refl _) _ _)
  |some x=>
   obtain⟨⟨q,t⟩,n⟩:=x;unfold z7O zBr;have HN:Hid (z2G (D.view a)=if n=s.length∧0<q then some (q,t)else none):=by rw [Hid,HTV.out];unfold z6k;rw [hg]
   have B0a:=B0.out.alloc (.cells #[.int .u64 (q:Int),.string (st t)] 173);have c0:(w2.alloc (.cells #[.int .u64 (q:Int),.string (st t)] 173)).cell? ⟨w.heap.size,0,none⟩=some (.int .u64 0):=B0a.cell 0;have c1:(w2.alloc (.cells #[.int .u64 (q:Int),.string (st t)] 173)).cell? ⟨w.heap.size,1,none⟩=some (.string ⟨#[]⟩):=B0a.cell 1;have cf0:(w2.alloc (.cells #[.int .u64 (q:Int),.string (st t)] 173)).frozen? ⟨w.heap.size,0,none⟩=false:=B0a.free 0;have cf1:(w2.alloc (.cells #[.int .u64 (q:Int),.string (st t)] 173)).frozen? ⟨w.heap.size,1,none⟩=false:=B0a.free 1;have B8:=Blk.new w2 173 #[.int .u64 (q:Int),.string (st t)];have d0:(w2.alloc (.cells #[.int .u64 (q:Int),.string (st t)] 173)).cell? ⟨w2.heap.size,0,none⟩=some (.int .u64 (q:Int)):=B8.cell 0;have d1:(w2.alloc (.cells #[.int .u64 (q:Int),.string (st t)] 173)).cell? ⟨w2.heap.size,1,none⟩=some (.string (st t)):=B8.cell 1;have df0:(w2.alloc (.cells #[.int .u64 (q:Int),.string (st t)] 173)).frozen? ⟨w2.heap.size,0,none⟩=false:=B8.free 0;have df1:(w2.alloc (.cells #[.int .u64 (q:Int),.string (st t)] 173)).frozen? ⟨w2.heap.size,1,none⟩=false:=B8.free 1;have BW:=zz B0a;have QW:=zz (Q2.out.alloc Q2.out.size (.cells #[.int .u64 (q:Int),.string (st t)] 173));clear B0a B8 hg;by_cases hns:n=s.length
   ·subst hns;by_cases hq:0<q
    ·have HT:Hid (z2G (D.view a)=some (q,t)):=by rw [Hid,HN.out,if_pos ⟨rfl,hq⟩]
     have hqi:(0:Int)<(q:Int):=by omega
     have hqd:decide (0<q)=true:=by simpa using hq
     clear hq;go_wp2_with fail
     generalize hW:w2.alloc _=W at*;go_region
     go_wp2_with fail
     refine bodyPost_ret (z0O rfl _ _ w.heap.size rfl (z9N BW.out _ _) z5n) rfl ?_;exact zJc (q,t) HT.out (z4c QW.out (Nat.le_refl _) _ _)
    ·obtain rfl:q=0:=by omega
     have HT:Hid (z2G (D.view a)=none):=by rw [Hid,HN.out,if_neg (by omega)]
     clear hq;go_wp2_with fail
     generalize hW:w2.alloc _=W at*;go_region
     go_wp2_with fail
     refine bodyPost_ret (z0O rfl _ _ w.heap.size rfl (z9N BW.out _ _) z5n) rfl ?_;exact z8u (0,t) HT.out (z4c QW.out (Nat.le_refl _) _ _)
   ·have HT:Hid (z2G (D.view a)=none):=by rw [Hid,HN.out,if_neg (fun h=>hns h.1)]
    have hnb:((n:Int)==(s.length:Int))=false:=by simp;omega
    clear hns;go_wp2_with fail
    generalize hW:w2.alloc _=W at*;go_region
    go_wp2_with fail
    refine bodyPost_ret (z0O rfl _ _ w.heap.size rfl (z9N BW.out _ _) z5n) rfl ?_;exact z8u (q,t) HT.out (z4c QW.out (Nat.le_refl _) _ _)
def z96(f:SF)(a:Int):Nat→Nat×Int×List UInt8
 |0=>(0,1,[])
 |i+1=>z5h f a (z96 f a i) (i:Int)
theorem z3c(f:SF)(a:Int)(x:Nat×Int×List UInt8)(i:Int):z5h f a x i=match z2G (f (a+i))with|some (q,t)=>if x.1<q then(q,i,t)else x|none=>x:=by
 unfold z5h z2G;cases f (a+i)with
 |none=>rfl
 |some s=>rfl
structure Mk(w:World)(g:Nat)(h:Zn)(a:Int)(num:Nat)(last:Int):Prop where
 blk:Blk w g 249 #[.pointer (some ⟨h.g,0,none⟩),.int .i64 a,.int .u64 (num:Int),.int .i64 last]
structure MbSt(w wr:World)(h:Zn)(a:Int)(x:Nat×Int×List UInt8):Prop where
 blk:Blk wr w.heap.size 249 #[.pointer (some ⟨h.g,0,none⟩),.int .i64 a,.int .u64 (x.1:Int),.int .i64 x.2.1]
 below:Below w.heap.size w wr
theorem MbSt.to{w wr w':World}{h:Zn}{a:Int}{x:Nat×Int×List UInt8}(s:MbSt w wr h a x)(hb:Below wr.heap.size wr w'):MbSt w w' h a x:=⟨s.blk.later hb,s.below.trans (hb.mono s.below.size)⟩
theorem mb_put{w W:World}{h:Zn}{a:Int}{x:Nat×Int×List UInt8}(s:MbSt w W h a x)(n:Nat){q:Nat}{i:Int}{t:List UInt8}:
 MbSt w (((W.drewN n).setCell ⟨w.heap.size,2,none⟩ (.int .u64 (q:Int))).setCell ⟨w.heap.size,3,none⟩ (.int .i64 i)).drew h a (q,i,t):=by
 have s2:=s.to (below_drewN (Below.refl _ _) n);exact⟨(s2.blk.put 2 (.int .u64 (q:Int))).put 3 (.int .i64 i),((s2.below.setCell (p:=⟨w.heap.size,2,none⟩) (Nat.le_refl _) _).setCell (p:=⟨w.heap.size,3,none⟩) (Nat.le_refl _) _).drew⟩
def zI5(h:Zn)(D:Dsk)(a:Int)(w:World)(e:Ending)(w':World):Prop:=
 ∃g,e= .returned (.tuple #[.pointer (some ⟨g,0,none⟩),.string (st (z1a D.view a).2.2),.int .i64 (zJ4 (z1a D.view a):Nat)])∧
  Mk w' g h a (z1a D.view a).1 (z1a D.view a).2.1∧w.heap.size≤g∧Below w.heap.size w w'
theorem z7Y(f:SF)(a:Int):∀i,(z96 f a i).1=0→(z96 f a i).2.2= []
 |0,_=>rfl
 |i+1,h=>by
  have ih:=z7Y f a i;rw [z96,z3c]at h ⊢;cases ht:z2G (f (a+(i:Int)))with
  |none=>rw [ht]at h;exact ih h
  |some x=>
   obtain⟨q,t⟩:=x;rw [ht]at h;simp only at h ⊢;by_cases hq:(z96 f a i).1<q
   ·rw [if_pos hq]at h;simp only at h;omega
   ·rw [if_neg hq]at h ⊢;exact ih h
theorem zIE{h:Zn}{D:Dsk}{a:Int}{w wr:World}{b:List UInt8}{n:Nat}(s:MbSt w wr h a (z96 D.view a 2))(hb:(z96 D.view a 2).2.2=b)(hn:zJ4 (z96 D.view a 2)=n){ev:Int}(he:ev=(n:Int)):
 zI5 h D a w (.returned (.tuple #[.pointer (some ⟨w.heap.size,0,none⟩),.string (st b),.int .i64 ev])) wr:=by
 subst hb hn he;exact⟨w.heap.size,rfl,⟨s.blk⟩,Nat.le_refl _,s.below⟩
theorem mopen_bad(v:Value)(a:Int)(w:World)(h:a<0∨65534<a):
 Calls Tryz.prog 115 #[v,.int .i64 a] w fun e w'=>e= .returned (.tuple #[.pointer none,.string (st []),.int .i64 122])∧w=w':=by
 rcases Decidable.em (a<0)with h0|h0
 case' inl=>have hx:=h0
 case' inr=>have hx:65534<a:=h.resolve_left h0
 all_goals
  clear h;go_enter Tryz.func115,Tryz.ntmps115
  go_wp2_with fail
  go_ret3
  exact⟨rfl,rfl⟩
theorem zFY(h:Zn)(D:Dsk)(a:Int)(w:World)(hd:Dk w h D)(hok:D.Ok)(h0:0≤a)(h1:a≤65534):
 Calls Tryz.prog 115 #[.pointer (some ⟨h.g,0,none⟩),.int .i64 a] w (zI5 h D a w):=by
 have HD:=zz hd;have HOK:=zz hok;have n0:¬a<0:=by omega
 have n1:¬65534<a:=by omega
 have S0:Hid (MbSt w (w.alloc (.cells #[.pointer (some ⟨h.g,0,none⟩),.int .i64 a,.int .u64 0,.int .i64 1] 249)) h a (z96 D.view a 0)):=⟨Blk.new _ _ _,(Below.refl _ _).alloc (Nat.le_refl _) _⟩;clear hd hok;go_enter Tryz.func115,Tryz.ntmps115
 go_wp2_with fail
 go_loopw [8,22] (fun bv iv wr=>∃i:Nat,iv= .int .i64 (i:Int)∧i≤2∧bv= .string (st (z96 D.view a i).2.2)∧Hid (MbSt w wr h a (z96 D.view a i))) (fun _ iv _=>2-(intOf iv).toNat)
 case atStart=>exact⟨0,rfl,by omega,rfl,S0⟩
 case round=>
  clear S0;obtain⟨i,rfl,hi,rfl,HST⟩:=hrel;by_cases hil:i<2
  ·have hai:InI (a+(i:Int)):=by unfold InI;omega
   have HUP:Hid (z96 D.view a (i+1)=z5h D.view a (z96 D.view a i) (i:Int)):=rfl;obtain⟨x,hx⟩:∃x,z96 D.view a i=x:=⟨_,rfl⟩;rw [hx]at HUP HST;rw [hx];obtain⟨num,last,body⟩:=x;clear hx;go_wp2_with fail
   refine(zD5 h D _ _ (HD.out.later HST.out.below) HOK.out hai).mono ?_;rintro e w1 ⟨⟨q,t⟩,ok,rfl,ht,hb1⟩;have s1:=HST.out.to hb1;have HS2:=zz (s1.to ((Below.refl _ _).alloc (Nat.le_refl _) (.cells #[.int .u64 (q:Int),.string (st t)] 173)));have B8:=Blk.new w1 173 #[.int .u64 (q:Int),.string (st t)];have d0:(w1.alloc (.cells #[.int .u64 (q:Int),.string (st t)] 173)).cell? ⟨w1.heap.size,0,none⟩=some (.int .u64 (q:Int)):=B8.cell 0;have d1:(w1.alloc (.cells #[.int .u64 (q:Int),.string (st t)] 173)).cell? ⟨w1.heap.size,1,none⟩=some (.string (st t)):=B8.cell 1;have df0:(w1.alloc (.cells #[.int .u64 (q:Int),.string (st t)] 173)).frozen? ⟨w1.heap.size,0,none⟩=false:=B8.free 0;have df1:(w1.alloc (.cells #[.int .u64 (q:Int),.string (st t)] 173)).frozen? ⟨w1.heap.size,1,none⟩=false:=B8.free 1;have m0:(w1.alloc (.cells #[.int .u64 (q:Int),.string (st t)] 173)).cell? ⟨w.heap.size,0,none⟩=some (.pointer (some ⟨h.g,0,none⟩)):=HS2.out.blk.cell 0;have m1:(w1.alloc (.cells #[.int .u64 (q:Int),.string (st t)] 173)).cell? ⟨w.heap.size,1,none⟩=some (.int .i64 a):=HS2.out.blk.cell 1;have m2:(w1.alloc (.cells #[.int .u64 (q:Int),.string (st t)] 173)).cell? ⟨w.heap.size,2,none⟩=some (.int .u64 (num:Int)):=HS2.out.blk.cell 2;have m3:(w1.alloc (.cells #[.int .u64 (q:Int),.string (st t)] 173)).cell? ⟨w.heap.size,3,none⟩=some (.int .i64 last):=HS2.out.blk.cell 3;have mf0:(w1.alloc (.cells #[.int .u64 (q:Int),.string (st t)] 173)).frozen? ⟨w.heap.size,0,none⟩=false:=HS2.out.blk.free 0;have mf1:(w1.alloc (.cells #[.int .u64 (q:Int),.string (st t)] 173)).frozen? ⟨w.heap.size,1,none⟩=false:=HS2.out.blk.free 1;have mf2:(w1.alloc (.cells #[.int .u64 (q:Int),.string (st t)] 173)).frozen? ⟨w.heap.size,2,none⟩=false:=HS2.out.blk.free 2;have mf3:(w1.alloc (.cells #[.int .u64 (q:Int),.string (st t)] 173)).frozen? ⟨w.heap.size,3,none⟩=false:=HS2.out.blk.free 3;have hlt:w.heap.size<w1.heap.size:=s1.blk.lt;have n8:¬w.heap.size=w1.heap.size:=by omega
   have n8':¬w1.heap.size=w.heap.size:=by omega
   have HT:=zz ht;clear B8 s1 hb1 ht;unfold zBr;cases ok with
   |false=>
    have HU:Hid (z96 D.view a (i+1)=(num,last,body)):=by rw [Hid,HUP.out,z3c,HT.out];rfl
    go_wp2_with fail
    generalize hW:w1.alloc _=W at*;go_quiet (fail)
    go_wp2_with fail
    go_roundw
    case rel=>exact⟨i+1,by go_num,by omega,by rw [HU.out],by rw [HU.out];exact HS2.out.to (below_drewN (Below.refl _ _) _)⟩
    case measure=>simp [intOf];omega
   |true=>
    by_cases hq:num<q
    ·have HU:Hid (z96 D.view a (i+1)=(q,(i:Int),t)):=by rw [Hid,HUP.out,z3c,HT.out];simp [hq]
     have hqd:decide (num<q)=true:=by simpa using hq
     clear hq;go_wp2_with fail
     generalize hW:w1.alloc _=W at*;go_quiet (fail)
     go_wp2_with fail
     go_region
     go_wp2_with fail
     go_roundw
     case rel=>exact⟨i+1,by go_num,by omega,by rw [HU.out],by rw [HU.out];exact mb_put HS2.out nq⟩
     case measure=>simp [intOf];omega
    ·have HU:Hid (z96 D.view a (i+1)=(num,last,body)):=by rw [Hid,HUP.out,z3c,HT.out];simp [hq]
     have hqd:decide (num<q)=false:=by simpa using hq
     clear hq;go_wp2_with fail
     generalize hW:w1.alloc _=W at*;go_quiet (fail)
     go_wp2_with fail
     go_roundw
     case rel=>exact⟨i+1,by go_num,by omega,by rw [HU.out],by rw [HU.out];exact HS2.out.to (below_drewN (Below.refl _ _) _)⟩
     case measure=>simp [intOf];omega
  ·obtain rfl:i=2:=by omega
   have HE:=z7Y D.view a 2;obtain⟨x,hx⟩:∃x,z96 D.view a 2=x:=⟨_,rfl⟩;have HX:=zz hx;rw [hx]at HE HST ⊢;obtain⟨num,last,body⟩:=x;simp only at HE HST;have m0:(wr).cell? ⟨w.heap.size,0,none⟩=some (.pointer (some ⟨h.g,0,none⟩)):=HST.out.blk.cell 0;have m1:(wr).cell? ⟨w.heap.size,1,none⟩=some (.int .i64 a):=HST.out.blk.cell 1;have m2:(wr).cell? ⟨w.heap.size,2,none⟩=some (.int .u64 (num:Int)):=HST.out.blk.cell 2;have m3:(wr).cell? ⟨w.heap.size,3,none⟩=some (.int .i64 last):=HST.out.blk.cell 3;have mf0:(wr).frozen? ⟨w.heap.size,0,none⟩=false:=HST.out.blk.free 0;have mf1:(wr).frozen? ⟨w.heap.size,1,none⟩=false:=HST.out.blk.free 1;have mf2:(wr).frozen? ⟨w.heap.size,2,none⟩=false:=HST.out.blk.free 2;have mf3:(wr).frozen? ⟨w.heap.size,3,none⟩=false:=HST.out.blk.free 3;have HEE:=zz HE;clear HE hx;by_cases hn0:num=0
   ·subst hn0;go_wp2_with fail
    go_ret3
    exact zIE (by rw [HX.out];exact HST.out) (by rw [HX.out];exact HEE.out (by trivial)) (by rw [HX.out];rfl) rfl
   ·have hnb:((num:Int)==0)=false:=by simp;omega
    go_wp2_with fail
    go_ret3
    exact zIE (by rw [HX.out];exact HST.out) (by rw [HX.out]) (by rw [HX.out];exact if_neg hn0) rfl
section
variable {D:Dsk} {a:Int} {num:Nat} {last:Int} {body:List UInt8} {k:Int}
end
theorem Dk.other{w w':World}{h:Zn}{D:Dsk}(d:Dk w h D){z:Nat}{t:TypeId}(hz:z0E w z=some (some t))(ht:t∉ [164,291,3,25,5])(hg:w.grownBy w' (some z)):Dk w' h D:=by
 simp only [List.mem_cons,List.not_mem_nil,or_false,not_or]at ht;obtain⟨t1,t2,t3,t4,t5⟩:=ht;obtain⟨vs,h1,h2⟩:=d.pend;have ne:∀ {b:Nat} {k:Option TypeId},z0E w b=some k→k≠some t→b≠z:=fun hb hk e=>by subst e;rw [hz]at hb;injection hb with hb;exact hk hb.symm
 refine⟨d.blk.grown hg (fun e=> ?_),d.view.other (ne d.view.kind (by simp)) (by rw [hz];simpa using t5) hg,d.ground.other (ne d.ground.kind (by simp)) (by rw [hz];simpa using t5) hg,d.ne,vs,h1.other (fun e=> ?_) hg,h2.keep fun v p hp=>hp.other (fun s hs=> ?_) hg⟩
 ·injection e with e
  subst e;have:=z0F d.blk;rw [hz]at this;injection this with this
  injection this with this
  exact t1 this
 ·have:=z1E h1 e;rw [hz]at this;injection this with this
  injection this with this
  exact t2 this
 ·rw [hz];intro e;injection e with e
  injection e with e
  subst e;simp only [z2O,List.mem_cons,List.not_mem_nil,or_false]at hs;rcases hs with h|h|h
  ·exact t3 h
  ·exact t4 h
  ·exact t5 h
structure Mtp(h:Zn)(gm:Nat)(w:World)(h':Zn)(w':World):Prop where
 g:h'.g=h.g
 turn:Turn (fun b=>h.has b∨b=gm) w w'
 has:∀b,h'.has b→h.has b∨w.heap.size≤b
theorem Mtp.of_stp{h h':Zn}{g:Nat}{w w':World}(s:Stp h w h' w'):Mtp h g w h' w':=⟨s.g,s.turn.mono fun b hb _=> .inl hb,s.has⟩
theorem Mk.later{w w':World}{g:Nat}{h:Zn}{a:Int}{num:Nat}{last:Int}(m:Mk w g h a num last)(hb:Below w.heap.size w w'):Mk w' g h a num last:=⟨m.blk.later hb⟩
end
section
open Go
section
variable {f:SF} {a:Int} {num:Nat} {last:Int} {body:List UInt8}
end
section
variable {D:Dsk} {a:Int} {num:Nat} {last:Int} {body t:List UInt8}
end
end
section
open Go Go.RowKit
def flipAt(l:List Bool)(k:Nat):List Bool:=l.set k (!(l.getD k false))
def hasB(l:List Bool)(p:Int):Bool:=decide (0≤p)&&decide (p<l.length)&&l.getD p.toNat false
def zIA(l:List Bool)(p:Int):List Bool×Nat:=if p<0∨(l.length:Int)≤p∨hasB l p=true then(l,92)else(flipAt l p.toNat,0)
end
section
open Go
abbrev TF:=Int→Option (Nat×Nat)
def TF.put(t:TF)(a:Int)(x:Nat×Nat):TF:=fun y=>if y=a then some x else t y
def z44{α:Type}(f:Int→Option α):List Nat:=(List.range 90).filter fun i=>(f (i:Int)).isSome
def zE1{α:Type}(f:Int→Option α):Prop:=∀x,(f x).isSome=true→0≤x∧x<90
structure Pgr where
 D:Dsk
 a:Int
 n:Nat
 num:Nat
 last:Int
 tag:Nat
 tb:TF
 wr:SF
 gn:Int→Bool
def Pgr.has(P:Pgr)(x:Int):Bool:=(P.wr x).isSome||((P.tb x).isSome&& !P.gn x)
def Pgr.pages(P:Pgr):List Nat:=(List.range 90).filter fun i=>P.has (i:Int)
def z5o(x:Int)(b:List UInt8):Nat:=if x<0∨90≤x then 131 else if 2048<b.length then 132 else 0
def z5U(g:Int→Bool)(x:Int)(v:Bool):Int→Bool:=fun y=>if y=x then v else g y
def Pgr.put(P:Pgr)(x:Int)(b:List UInt8):Pgr:={P with wr:=P.wr.put x b,gn:=z5U P.gn x false}
def Pgr.write(P:Pgr)(x:Int)(b:List UInt8):Pgr:=if z5o x b=0 then P.put x b else P
def Pgr.free(P:Pgr)(x:Int):Pgr:=if P.has x then {P with wr:=P.wr.del x,gn:=z5U P.gn x true}else P
def Pgr.least(P:Pgr):Option Nat:=(List.range 90).find? fun i=> !P.has (i:Int)
def Pgr.alloc(P:Pgr)(b:List UInt8):Pgr×Nat×Nat:=if 2048<b.length then(P,0,132)else match P.least with
 |some i=>(P.put (i:Int) b,i,0)
 |none=>(P,0,133)
def zEF(b:List UInt8)(k:Nat):List UInt8:=(b.drop (512*k)).take 512
def z7L(a:Int)(p:Nat):Int:=a+2+4*(p:Int)
structure PcSt where
 rest:List UInt8
 err:Nat
 last:Int
 used:List Bool
 t:TF
def pcOne(n:Nat)(s:PcSt):Option PcSt:=
 let x:=z0I s.rest s.err 89
 let y:=z0I x.2.1 x.2.2 ((n:Int)-1)
 let z:=z0I y.2.1 y.2.2 2048
 if(z1P z.2.1 z.2.2≠0∧z1P z.2.1 z.2.2≠31)∨(x.1:Int)≤s.last∨(zIA s.used (y.1:Int)).2≠0 then none
 else some ⟨z.2.1,z.2.2,(x.1:Int),(zIA s.used (y.1:Int)).1,s.t.put (x.1:Int) (y.1,z.1)⟩
def zIW(n:Nat):Nat→PcSt→Option PcSt
 |0,s=>some s
 |k+1,s=>match pcOne n s with
  |some s'=>zIW n k s'
  |none=>none
def pcInit(n:Nat)(body:List UInt8):PcSt:=
 ⟨(z0I (z0k body 0).2.1 (z0k body 0).2.2 90).2.1,(z0I (z0k body 0).2.1 (z0k body 0).2.2 90).2.2,-1,List.replicate n false,fun _=>none⟩
def zFK(n:Nat)(body:List UInt8):Option (Nat×TF):=match zIW n (z0I (z0k body 0).2.1 (z0k body 0).2.2 90).1 (pcInit n body)with
 |some s=>if z1P s.rest s.err=0 then some ((z0k body 0).1,s.t)else none
 |none=>none
def z1Q(D:Dsk)(a:Int)(n:Nat)(num:Nat)(last:Int)(x:Nat×TF):Pgr:=⟨D,a,n,num,last,x.1,x.2,fun _=>none,fun _=>false⟩
def z5i(D:Dsk)(a:Int)(n:Nat):Option Pgr:=
 if(z1a D.view a).1=0 then some (z1Q D a n 0 (z1a D.view a).2.1 (0,fun _=>none))
 else(zFK n (z1a D.view a).2.2).map (z1Q D a n (z1a D.view a).1 (z1a D.view a).2.1)
def pgPl(a n:Int):Prop:=2≤n∧n≤256∧0≤a∧a≤65534-4*n
section
variable {D D':Dsk} {x:Int} {b:List UInt8}
variable {D0:Dsk} {S:Int→Prop}
end
section
variable {D:Dsk} {a:Int} {num:Nat} {last:Int} {body t:List UInt8}
end
theorem zBP{α:Type}{f:Int→Option α}{i:Nat}:i∈z44 f↔i<90∧(f (i:Int)).isSome=true:=by
 unfold z44;rw [List.mem_filter,List.mem_range]
theorem ids_lt{α:Type}(f:Int→Option α):(z44 f).Pairwise (· < ·):=List.Pairwise.sublist List.filter_sublist List.pairwise_lt_range
theorem ids_le{α:Type}(f:Int→Option α):(z44 f).length≤90:=by
 have:=List.length_filter_le (fun i:Nat=>(f (i:Int)).isSome) (List.range 90);rw [List.length_range]at this;exact this
section
variable {D D':Dsk} {a:Int} {n num:Nat} {last:Int} {tag:Nat} {tb:TF} {c:Int→List UInt8}
end
section
variable {P:Pgr} {c:Int→List UInt8} {t:TF} {tag:Nat}
end
end
section
open Go Go.RowKit
end
end Go.Proofs.YtdkobefpnjbgnaaGreatDoor
