/- Part 4. -/
import Derived.Test.YthbhkdhljlganaaGreatDoorStoreWholeJ3
import Derived.StillTailTactics
namespace Go.Proofs.YthbhkdhljlganaaGreatDoor
set_option linter.unusedVariables false
set_option maxHeartbeats 16000000
set_option maxRecDepth 100000
section
open Go
theorem zD0:∀ (N:Nat) (l:List Int),l.Nodup→(∀x∈l,0≤x∧x<(N:Int))→l.length≤N
 |0,l,_,h=>by
  cases l with
  |nil=>simp
  |cons x r=>have:=h x (by simp);omega
 |N+1,l,hn,h=>by
  have h1:(l.filter fun x=>x != (N:Int)).length≤N:=zD0 N _ (hn.sublist List.filter_sublist) fun x hx=>by
   have h2:=List.mem_filter.1 hx;have h3:=h x h2.1;have h4:x≠(N:Int):=by simpa using h2.2
   omega
  have h5:∀ (l:List Int),l.Nodup→l.length≤(l.filter fun x=>x != (N:Int)).length+1:=by
   intro l
   induction l with
   |nil=>intro _;simp
   |cons x r ih=>
    intro hn;rw [List.nodup_cons]at hn;by_cases hx:x=(N:Int)
    ·rw [List.filter_cons_of_neg (by simp [hx])];have e:(r.filter fun y=>y != (N:Int))=r:=List.filter_eq_self.2 fun y hy=>by
      have:y≠(N:Int):=fun e=>hn.1 (by rw [hx,←e];exact hy)
      simpa using this
     rw [e];simp
    ·rw [List.filter_cons_of_pos (by simpa using hx)];have:=ih hn.2;simp only [List.length_cons];omega
  have:=h5 l hn;omega
def SecOk(x:Int×List UInt8):Prop:=0≤x.1∧x.1<65536∧x.2.length≤512
def FinK(f:SF)(n:Nat):Prop:=∃l,FinL f n l∧∀x∈l,SecOk x
theorem FinK.nil:FinK (fun _=>none) 0:=⟨[],FinL.nil,by simp⟩
theorem FinK.bound{f:SF}{n:Nat}(h:FinK f n):n≤65536:=by
 obtain⟨l,h1,h2⟩:=h;have:=zD0 65536 (l.map (·.1)) h1.nodup fun x hx=>by
  obtain⟨y,hy,rfl⟩:=List.mem_map.1 hx;have:=h2 y hy;exact⟨this.1,this.2.1⟩
 rw [List.length_map,h1.len]at this;exact this
theorem FinK.at{f:SF}{n:Nat}(h:FinK f n){a:Int}{b:List UInt8}(hf:f a=some b):0≤a∧a<65536∧b.length≤512:=by
 obtain⟨l,h1,h2⟩:=h;rw [←h1.look a]at hf;cases hfd:l.find? (fun x=>x.1==a)with
 |none=>rw [hfd]at hf;cases hf
 |some x=>
  rw [hfd]at hf;simp only [Option.map_some,Option.some.injEq]at hf;have h3:=h2 x (List.mem_of_find?_eq_some hfd);have h4:=List.find?_some hfd;simp only [beq_iff_eq]at h4;subst h4 hf;exact h3
theorem FinK.put{f:SF}{n:Nat}(h:FinK f n){a:Int}{b:List UInt8}(h0:0≤a)(h1:a<65536)(hb:b.length≤512):FinK (f.put a b) (f.nPut n a):=by
 obtain⟨l,h2,h3⟩:=h;refine⟨_,h2.put a b,fun x hx=> ?_⟩;rcases List.mem_append.1 hx with h4|h4
 ·exact h3 x (List.mem_filter.1 h4).1
 ·simp only [List.mem_singleton]at h4;subst h4;exact⟨h0,h1,hb⟩
theorem FinK.del{f:SF}{n:Nat}(h:FinK f n)(a:Int):FinK (f.del a) (f.nDel n a):=by
 obtain⟨l,h2,h3⟩:=h;exact⟨_,h2.del a,fun x hx=>h3 x (List.mem_filter.1 hx).1⟩
theorem zFs{b old:List UInt8}{n:Int}(hb:b.length≤512)(ho:old.length≤512):(z2C b old n).length≤512:=by
 unfold z2C
 split
 ·rw [List.length_append,List.length_take,List.length_drop];omega
 ·exact hb
def zEA:Pnd→Prop
 | .wr a b=>0≤a∧a<65536∧b.length≤512
 | .fr a=>0≤a∧a<65536
theorem zIO{s:SF×Nat}{p:Pnd}(h:FinK s.1 s.2)(hp:zEA p)(n:Int):FinK (doP s p n).1 (doP s p n).2:=by
 cases p with
 |wr a b=>
  refine h.put hp.1 hp.2.1 (zFs hp.2.2 ?_);cases hf:s.1 a with
  |none=>simp
  |some o=>exact(h.at hf).2.2
 |fr a=>exact h.del a
theorem z6o(l:List (Int×Int)):∀ (ps:List Pnd) (k:Nat) (s:SF×Nat),FinK s.1 s.2→(∀p∈ps,zEA p)→FinK (z0h l k ps s).1 (z0h l k ps s).2
 | [],k,s,h,_=>h
 |p::ps,k,s,h,hp=>by
  rw [z0h];refine z6o l ps (k+1) _ ?_ fun q hq=>hp q (by simp [hq])
  cases zE6 l k with
  |none=>exact h
  |some n=>exact zIO h (hp p (by simp)) n
structure Dsk.Ok(D:Dsk):Prop where
 view:FinK D.view D.nv
 ground:FinK D.ground D.ng
 pend:∀p∈D.pend,zEA p
 size:1≤D.size∧D.size≤65536
theorem Dsk.Ok.new{n:Int}(h:1≤n)(h2:n≤65536):(Dsk.new n).Ok:=⟨FinK.nil,FinK.nil,by simp [Dsk.new],⟨h,h2⟩⟩
theorem Dsk.Ok.put{D:Dsk}(h:D.Ok){p:Pnd}(hp:zEA p)(n:Int):(D.put p n).Ok:=by
 refine⟨zIO (s:=(D.view,D.nv)) h.view hp n,h.ground,fun q hq=> ?_,h.size⟩;rcases List.mem_append.1 hq with h1|h1
 ·exact h.pend q h1
 ·simp only [List.mem_singleton]at h1;subst h1;exact hp
theorem zCd{D:Dsk}{a:Int}{b:List UInt8}(h:D.why a b=0):0≤a∧a<D.size∧b.length≤512:=by
 unfold Dsk.why at h
 split at h
 ·cases h
 ·split at h
  ·cases h
  ·omega
theorem Dsk.Ok.write{D:Dsk}(h:D.Ok)(a:Int)(b:List UInt8):(D.write a b).Ok:=by
 unfold Dsk.write
 split
 ·rename_i hw;have h1:=zCd hw;have h2:=h.size;exact h.put (p:= .wr a b) ⟨h1.1,by omega,h1.2.2⟩ _
 ·exact h
theorem Dsk.Ok.free{D:Dsk}(h:D.Ok)(a:Int):(D.free a).Ok:=by
 unfold Dsk.free
 split
 ·rename_i hs;obtain⟨b,hb⟩:=Option.isSome_iff_exists.1 hs;have:=h.view.at hb;exact h.put (p:= .fr a) ⟨this.1,this.2.1⟩ _
 ·exact h
theorem Dsk.Ok.sync{D:Dsk}(h:D.Ok):D.sync.Ok:=⟨h.view,h.view,by simp [Dsk.sync],h.size⟩
theorem Dsk.Ok.crash{D:Dsk}(h:D.Ok)(l:List (Int×Int)):(D.crash l).Ok:=by
 have:=z6o l D.pend 0 (D.ground,D.ng) h.ground h.pend;exact⟨this,this,by simp [Dsk.crash],h.size⟩
def z7G(s:List UInt8):Option (Nat×List UInt8):=match z0i s with
 |some ((q,t),n)=>if n=s.length∧0<q then some (q,t)else none
 |none=>none
def z60(f:SF)(a:Int)(x:Nat×Int×List UInt8)(i:Int):Nat×Int×List UInt8:=match f (a+i)with
 |some s=>match z7G s with
  |some (q,t)=>if x.1<q then(q,i,t)else x
  |none=>x
 |none=>x
def z1m(f:SF)(a:Int):Nat×Int×List UInt8:=z60 f a (z60 f a (0,1,[]) 0) 1
def zIS(x:Nat×Int×List UInt8):Nat:=if x.1=0 then 121 else 0
end
section
open Go Go.RowKit
def Ow(e:TypeId)(w:World)(B:Nat)(v:Value)(xs:List Value):Prop:=w.ownsRow B e 1 v xs.length xs
section
variable {e:TypeId} {w w':World} {B:Nat} {v:Value} {xs:List Value}
theorem Ow.nil(e:TypeId)(w:World)(B:Nat):Ow e w B (.slice none 0 0) []:=World.ownsRow_nil w B e 1
theorem Ow.later(h:Ow e w B v xs)(hb:Below w.heap.size w w'):Ow e w' B v xs:=by
 obtain⟨h1,h2⟩:=h;refine⟨h1,?_⟩;rcases h2 with h2|⟨g,cap,cur,hv,hg,hh,r⟩
 ·exact .inl h2
 ·exact .inr ⟨g,cap,cur,hv,hg,(hb.block g (lt_of_block hh)).trans hh,r⟩
theorem Ow.open(h:Ow e w B v xs)(hl:0<xs.length):∃g c,v= .slice (some ⟨g,0,none⟩) xs.length c∧B≤g∧g<w.heap.size∧(∀j (hj:j<xs.length),w.cell? ⟨g,j,none⟩=some xs[j])∧∀j,w.frozen? ⟨g,j,none⟩=false:=by
 have h0:=h;rcases h.2 with⟨_,h2⟩|⟨g,cap,cur,rfl,hb,hh,_⟩
 ·omega
 ·refine⟨g,cap,rfl,hb,lt_of_block hh,fun j hj=> ?_,fun j=>World.ownsRow.frozenAt h0 j⟩;rw [World.ownsRow.cellAt h0 j (by omega),List.getElem?_eq_getElem hj]
theorem Ow.shape(h:Ow e w B v xs):∃A c,v= .slice A xs.length c∧(0<xs.length→∃g,A=some ⟨g,0,none⟩∧B≤g∧g<w.heap.size∧∀j (hj:j<xs.length),w.cell? ⟨g,j,none⟩=some xs[j]):=by
 obtain⟨A,k,c,rfl⟩:=z0u h;obtain rfl:=z0Q h;refine⟨A,c,rfl,fun hl=> ?_⟩;obtain⟨g,c',hv,hB,hlt,hc,_⟩:=h.open hl;injection hv with hA
 exact⟨g,hA,hB,hlt,hc⟩
end
def bl(l:List Bool):List Value:=l.map .bool
def il(l:List Nat):List Value:=l.map fun(n:Nat)=>Value.int .i64 (n:Int)
theorem z8p(l:List Nat):(il l).length=l.length:=by simp [il]
def z0H(w:World)(b:Nat):Option (Option TypeId):=match w.heap[b]? with
 |some (.cells _ t _)=>some (some t)
 |some (.map _ _)=>some none
 |_=>none
theorem z0K{w:World}{g:Nat}{t:TypeId}{cs:Array Value}(h:Blk w g t cs):z0H w g=some (some t):=by unfold Blk at h;unfold z0H;rw [h]
theorem z1V{w:World}{base:Nat}{e:TypeId}{size n:Nat}{v:Value}{xs:List Value}(h:w.ownsRow base e size v n xs){b:Nat}(hb:v.ownBlock=some b):z0H w b=some (some e):=by
 rcases h.2 with⟨rfl,_⟩|⟨g,cap,cur,rfl,_,hh,_⟩
 ·cases hb
 ·simp only [Value.ownBlock,Option.some.injEq]at hb;subst hb;unfold z0H;rw [hh]
theorem z3B{w:World}{b:Nat}{t:Option TypeId}(h:z0H w b=some t):b<w.heap.size:=by
 rcases Nat.lt_or_ge b w.heap.size with h1|h1
 ·exact h1
 ·unfold z0H at h;rw [Array.getElem?_eq_none h1]at h;cases h
theorem zGp(w:World)(t:TypeId)(cs:Array Value):z0H (w.alloc (.cells cs t)) w.heap.size=some (some t):=z0K (Blk.new w t cs)
theorem zIv{w w':World}{b:Nat}{t:Option TypeId}(h:w'.heap[b]? =w.heap[b]?)(hk:z0H w b=some t):z0H w' b=some t:=by unfold z0H at hk ⊢;rw [h];exact hk
def KSl(e:TypeId)(size:Nat)(w:World)(v:Value)(n:Nat)(xs:List Value):Prop:=Sl (fun b=>z0H w b=some (some e)) w size v n xs
section
variable {e:TypeId} {size n:Nat} {w w':World} {v:Value} {xs:List Value}
theorem KSl.keep(h:KSl e size w v n xs)(hk:∀b,z0H w b=some (some e)→w'.heap[b]? =w.heap[b]?):KSl e size w' v n xs:=by
 obtain⟨h1,A,c,h2,h3,h4,h5,h6⟩:=h;refine⟨h1,A,c,h2,h3,h4,h5,fun hl=> ?_⟩;obtain⟨b,o,hA,hs,hc⟩:=h6 hl;have hb:=hk b hs;refine⟨b,o,hA,zIv hb hs,fun j u hu=> ?_⟩;rw [World.cell?_of_block (a:=⟨b,o+j,none⟩) hb];exact hc j u hu
theorem KSl.later(h:KSl e size w v n xs)(hb:Below w.heap.size w w'):KSl e size w' v n xs:=h.keep fun b hk=>hb.block b (z3B hk)
theorem KSl.of_own{base:Nat}(hsz:0<size)(h:w.ownsRow base e size v n xs):KSl e size w v n xs:=by
 have hs:=Sl.of_own hsz h;rcases h.2 with⟨rfl,hn⟩|⟨g,cap,cur,rfl,hB,hh,_⟩
 ·obtain⟨h1,A,c,h2,h3,h4,h5,h6⟩:=hs;exact⟨h1,A,c,h2,h3,h4,h5,fun hl=>by omega⟩
 ·obtain⟨h1,A,c,h2,h3,h4,h5,h6⟩:=hs;refine⟨h1,A,c,h2,h3,h4,h5,fun hl=> ?_⟩;obtain⟨b,o,hA,_,hc⟩:=h6 hl;injection h2 with hA2
  rw [hA]at hA2;injection hA2 with hA2
  injection hA2 with hb
  subst hb;exact⟨g,o,hA,z0K (t:=e) (cs:=cur) hh,hc⟩
theorem KSl.lt(h:KSl e size w v n xs):Sl (fun b=>b<w.heap.size) w size v n xs:=Sl.more h fun _ hk=>z3B hk
theorem KSl.new(w:World)(e:TypeId)(size:Nat)(hsz:0<size)(cs:Array Value)(n:Nat)(hn:0<n)(hm:n≤maxLen)(hc:cs.size=n*size){g:Nat}(hg:g=w.heap.size):
 KSl e size (w.alloc (.cells cs e)) (.slice (some ⟨g,0,none⟩) n n) n cs.toList:=by
 subst hg;refine⟨by simpa using hc,_,n,rfl,Nat.le_refl _,hm,(fun h=>by cases h),fun _=>⟨_,0,rfl,zGp _ _ _,fun j u hu=> ?_⟩⟩;rw [World.cell?_alloc_new,Nat.zero_add];simpa using hu
end
theorem z1P:Tryz.prog.underlying 3=some (.int .i64):=Tryz.underlying3
theorem z5s:Tryz.prog.underlying 73=some (.map 3 31):=Tryz.underlying73
theorem z3t(w:World):(zeroValue 31).run Tryz.prog w= .ok (.slice none 0 0) w:=by kernel_rfl
theorem z2N{P:Program}{k:TypeId}{w:World}{b n:Nat}{f:Int→Option Value}(h:MpV P k w b f n):z0H w b=some none:=by
 obtain⟨es,c,hb⟩:=h.isMap;unfold z0H;rw [hb]
theorem zBB{w:World}{B b:Nat}(h:UbS w B b):z0H w b=some (some 5):=by
 obtain⟨_,cs,fz,hh⟩:=h;unfold z0H;rw [hh]
theorem Ub.other{w w':World}{B:Nat}{v:Value}{l:List UInt8}(h:Ub w B v l){z:Nat}(hz:z0H w z≠some (some 5))(hg:w.grownBy w' (some z)):Ub w' B v l:=
 h.keep fun b hb=>hg.block b (by obtain⟨_,cs,fz,hh⟩:=hb;exact lt_of_block hh) (fun e=>by
  injection e with e
  subst e;exact hz (zBB hb))
theorem MpV.other{P:Program}{k:TypeId}{w w':World}{b n:Nat}{f:Int→Option Value}(h:MpV P k w b f n){z:Nat}(hz:b≠z)(hg:w.grownBy w' (some z)):MpV P k w' b f n:=
 h.at (hg.block b h.lt (fun e=>hz (by injection e)))
theorem Ow.other{e:TypeId}{w w':World}{B:Nat}{v:Value}{xs:List Value}(h:Ow e w B v xs){z:Nat}(hz:v.ownBlock≠some z)(hg:w.grownBy w' (some z)):Ow e w' B v xs:=by
 obtain⟨h1,h2⟩:=h;refine⟨h1,?_⟩;rcases h2 with h2|⟨g,cap,cur,hv,hB,hh,r⟩
 ·exact .inl h2
 ·refine .inr ⟨g,cap,cur,hv,hB,?_,r⟩;exact(hg.block g (lt_of_block hh) (fun e=>hz (by rw [hv];exact e))).trans hh
def SecV(w:World)(v:Option Value)(l:Option (List UInt8)):Prop:=match v,l with
 |none,none=>True
 |some v,some l=>Ub w 0 v l
 |_,_=>False
def Secs(w:World)(b:Nat)(f:SF)(n:Nat):Prop:=∃m,MpV Tryz.prog 3 w b m n∧∀a,InI a→SecV w (m a) (f a)
theorem SecV.keep{w w':World}{v:Option Value}{l:Option (List UInt8)}(h:SecV w v l)(hk:∀v l,Ub w 0 v l→Ub w' 0 v l):SecV w' v l:=by
 unfold SecV at h ⊢;cases v<;>cases l<;>simp_all
theorem SecV.some_iff{w:World}{v:Option Value}{l:Option (List UInt8)}(h:SecV w v l):v.isSome=l.isSome:=by
 unfold SecV at h;cases v<;>cases l<;>simp_all
theorem Secs.later{w w':World}{b n:Nat}{f:SF}(h:Secs w b f n)(hb:Below w.heap.size w w'):Secs w' b f n:=by
 obtain⟨m,h1,h2⟩:=h;exact⟨m,h1.later hb,fun a ha=>(h2 a ha).keep fun _ _ h=>h.later hb⟩
theorem Secs.other{w w':World}{b n:Nat}{f:SF}(h:Secs w b f n){z:Nat}(hz:b≠z)(hz2:z0H w z≠some (some 5))(hg:w.grownBy w' (some z)):Secs w' b f n:=by
 obtain⟨m,h1,h2⟩:=h;exact⟨m,h1.other hz hg,fun a ha=>(h2 a ha).keep fun _ _ h=>h.other hz2 hg⟩
theorem Secs.kind{w:World}{b n:Nat}{f:SF}(h:Secs w b f n):z0H w b=some none:=by
 obtain⟨m,h1,_⟩:=h;exact z2N h1
theorem Secs.lt{w:World}{b n:Nat}{f:SF}(h:Secs w b f n):b<w.heap.size:=by
 obtain⟨m,h1,_⟩:=h;exact h1.lt
theorem Secs.made(w:World):Secs (w.alloc (.map #[] 0)) w.heap.size (fun _=>none) 0:=⟨_,MpV.made _ _ w,fun _ _=>trivial⟩
structure Turn(F:Nat→Prop)(w w':World):Prop where
 os:w'.os=w.os
 tape:w'.tape=w.tape
 output:w'.output=w.output
 size:w.heap.size≤w'.heap.size
 block:∀b,b<w.heap.size→¬F b→w'.heap[b]? =w.heap[b]?
theorem Turn.refl(F:Nat→Prop)(w:World):Turn F w w:=⟨rfl,rfl,rfl,Nat.le_refl _,fun _ _ _=>rfl⟩
theorem Turn.of_below{F:Nat→Prop}{w w':World}(h:Below w.heap.size w w'):Turn F w w':=⟨h.os,h.tape,h.output,h.size,fun b hb _=>h.block b hb⟩
theorem Turn.of_grown{F:Nat→Prop}{w w':World}{row:Option Nat}(h:w.grownBy w' row)(hr:∀z,row=some z→F z):Turn F w w':=
 ⟨h.os,h.tape,h.output,h.size,fun b hb hF=>h.block b hb (fun e=>hF (hr b e.symm))⟩
theorem Turn.trans{F F':Nat→Prop}{w w1 w2:World}(h:Turn F w w1)(k:Turn F' w1 w2)(hF:∀b,F' b→F b∨w.heap.size≤b):Turn F w w2:=
 ⟨k.os.trans h.os,k.tape.trans h.tape,k.output.trans h.output,Nat.le_trans h.size k.size,fun b hb hn=>
   (k.block b (Nat.lt_of_lt_of_le hb h.size) (fun e=>by rcases hF b e with h1|h1;exact hn h1;omega)).trans (h.block b hb hn)⟩
theorem Turn.mono{F F':Nat→Prop}{w w':World}(h:Turn F w w')(hF:∀b,F b→b<w.heap.size→F' b):Turn F' w w':=⟨h.os,h.tape,h.output,h.size,fun b hb hn=>h.block b hb (fun e=>hn (hF b e hb))⟩
theorem Turn.below{F:Nat→Prop}{B:Nat}{w0 w w':World}(h:Below B w0 w)(k:Turn F w w')(hB:B≤w.heap.size)(hF:∀b,F b→B≤b):Below B w0 w':=
 ⟨k.os.trans h.os,k.tape.trans h.tape,k.output.trans h.output,Nat.le_trans h.size k.size,fun b hb=>
   (k.block b (Nat.lt_of_lt_of_le hb hB) (fun e=>by have:=hF b e;omega)).trans (h.block b hb)⟩
theorem Turn.setCell{F:Nat→Prop}{w w':World}(h:Turn F w w'){p:Addr}(hp:F p.block∨w.heap.size≤p.block)(u:Value):Turn F w (w'.setCell p u):=
 ⟨h.os,h.tape,h.output,by simpa using h.size,fun b hb hn=>(Below.heap_setCell w' p u b (fun e=>by subst e;rcases hp with h1|h1;exact hn h1;omega)).trans (h.block b hb hn)⟩
theorem Turn.alloc{F:Nat→Prop}{w w':World}(h:Turn F w w')(o:Obj):Turn F w (w'.alloc o):=
 h.trans (F':=fun _=>False) (Turn.of_below ((Below.refl _ _).alloc (Nat.le_refl _) o)) (fun _ h=>h.elim)
theorem Turn.drew{F:Nat→Prop}{w w':World}(h:Turn F w w'):Turn F w w'.drew:=⟨h.os,h.tape,h.output,h.size,h.block⟩
theorem Blk.turn{F:Nat→Prop}{w w':World}{g:Nat}{t:TypeId}{cs:Array Value}(h:Blk w g t cs)(k:Turn F w w')(hF:¬F g):Blk w' g t cs:=(k.block g h.lt hF).trans h
structure Zn where
 g:Nat
 bv:Nat
 bg:Nat
 pv:Value
def Zn.has(h:Zn)(b:Nat):Prop:=b=h.g∨b=h.bv∨b=h.bg∨h.pv.ownBlock=some b
def PnIs(w:World)(v:Value):Pnd→Prop
 | .wr a b=>∃ga A c,v= .func (Fn.func 154) #[] #[.pointer (some ⟨ga+1,0,none⟩),.pointer (some ⟨ga,0,none⟩)]∧Blk w ga 3 #[.int .i64 a]∧Blk w (ga+1) 31 #[.slice A b.length c]∧Ub w 0 (.slice A b.length c) b
 | .fr a=>∃ga,v= .func (Fn.func 155) #[] #[.pointer (some ⟨ga,0,none⟩)]∧Blk w ga 3 #[.int .i64 a]
def z2l:List TypeId:= [3,31,5]
theorem PnIs.later{w w':World}{v:Value}{p:Pnd}(h:PnIs w v p)(hb:Below w.heap.size w w'):PnIs w' v p:=by
 cases p with
 |wr a b=>
  obtain⟨ga,A,c,h1,h2,h3,h4⟩:=h;exact⟨ga,A,c,h1,h2.later hb,h3.later hb,h4.later hb⟩
 |fr a=>
  obtain⟨ga,h1,h2⟩:=h;exact⟨ga,h1,h2.later hb⟩
theorem PnIs.other{w w':World}{v:Value}{p:Pnd}(h:PnIs w v p){z:Nat}(hz:∀t∈z2l,z0H w z≠some (some t))(hg:w.grownBy w' (some z)):PnIs w' v p:=by
 have key:∀ {g:Nat} {t:TypeId} {cs:Array Value},Blk w g t cs→t∈z2l→Blk w' g t cs:=fun hb ht=>hb.grown hg (fun e=>by
  injection e with e
  subst e;exact hz _ ht (z0K hb))
 cases p with
 |wr a b=>
  obtain⟨ga,A,c,h1,h2,h3,h4⟩:=h;exact⟨ga,A,c,h1,key h2 (by simp [z2l]),key h3 (by simp [z2l]),h4.other (hz _ (by simp [z2l])) hg⟩
 |fr a=>
  obtain⟨ga,h1,h2⟩:=h;exact⟨ga,h1,key h2 (by simp [z2l])⟩
def PnL(w:World)(vs:List Value)(ps:List Pnd):Prop:=vs.length=ps.length∧∀ (i:Nat) v p,vs[i]? =some v→ps[i]? =some p→PnIs w v p
theorem PnL.keep{w w':World}{vs:List Value}{ps:List Pnd}(h:PnL w vs ps)(hk:∀v p,PnIs w v p→PnIs w' v p):PnL w' vs ps:=⟨h.1,fun i v p h1 h2=>hk v p (h.2 i v p h1 h2)⟩
theorem PnL.nil(w:World):PnL w [] []:=⟨rfl,fun i v p h=>by simp at h⟩
theorem PnL.snoc{w:World}{vs:List Value}{ps:List Pnd}(h:PnL w vs ps){v:Value}{p:Pnd}(hv:PnIs w v p):PnL w (vs++ [v]) (ps++ [p]):=by
 refine⟨by rw [List.length_append,List.length_append,h.1];rfl,fun i u q h1 h2=> ?_⟩;rcases Nat.lt_or_ge i vs.length with hi|hi
 ·rw [List.getElem?_append_left hi]at h1;rw [List.getElem?_append_left (by rw [←h.1];exact hi)]at h2;exact h.2 i u q h1 h2
 ·rw [List.getElem?_append_right hi]at h1;rw [List.getElem?_append_right (by rw [←h.1];exact hi)]at h2;rw [h.1]at h1;rcases Nat.eq_zero_or_pos (i-ps.length)with h0|h0
  ·rw [h0]at h1 h2;simp only [List.getElem?_cons_zero,Option.some.injEq]at h1 h2;subst h1 h2;exact hv
  ·rw [List.getElem?_eq_none (by simp;omega)]at h1;cases h1
structure Dk(w:World)(h:Zn)(D:Dsk):Prop where
 blk:Blk w h.g 76 #[.int .i64 D.size,.int .i64 D.limit,.map (some h.bv),.map (some h.bg),h.pv]
 view:Secs w h.bv D.view D.nv
 ground:Secs w h.bg D.ground D.ng
 ne:h.bv≠h.bg
 pend:∃vs,Ow 124 w 0 h.pv vs∧PnL w vs D.pend
theorem Dk.later{w w':World}{h:Zn}{D:Dsk}(d:Dk w h D)(hb:Below w.heap.size w w'):Dk w' h D:=by
 obtain⟨vs,h1,h2⟩:=d.pend;exact⟨d.blk.later hb,d.view.later hb,d.ground.later hb,d.ne,vs,h1.later hb,h2.keep fun _ _ h=>h.later hb⟩
theorem Dk.kinds{w:World}{h:Zn}{D:Dsk}(d:Dk w h D){b:Nat}(hb:h.has b):z0H w b=some (some 76)∨z0H w b=some none∨z0H w b=some (some 124):=by
 obtain⟨vs,h1,_⟩:=d.pend;rcases hb with rfl|rfl|rfl|hb
 ·exact .inl (z0K d.blk)
 ·exact .inr (.inl d.view.kind)
 ·exact .inr (.inl d.ground.kind)
 ·exact .inr (.inr (z1V h1 hb))
theorem Dk.lt{w:World}{h:Zn}{D:Dsk}(d:Dk w h D){b:Nat}(hb:h.has b):b<w.heap.size:=by
 obtain⟨vs,h1,_⟩:=d.pend;rcases hb with rfl|rfl|rfl|hb
 ·exact d.blk.lt
 ·exact d.view.lt
 ·exact d.ground.lt
 ·rcases h1.2 with⟨h2,_⟩|⟨g,cap,cur,h2,_,hh,_⟩
  ·rw [h2]at hb;cases hb
  ·rw [h2]at hb;simp only [Value.ownBlock,Option.some.injEq]at hb;subst hb;exact lt_of_block hh
structure Stp(h:Zn)(w:World)(h':Zn)(w':World):Prop where
 g:h'.g=h.g
 turn:Turn h.has w w'
 has:∀b,h'.has b→h.has b∨w.heap.size≤b
theorem Stp.refl(h:Zn)(w:World):Stp h w h w:=⟨rfl,Turn.refl _ _,fun _ h=> .inl h⟩
theorem Stp.below{h:Zn}{w w':World}(hb:Below w.heap.size w w'):Stp h w h w':=⟨rfl,Turn.of_below hb,fun _ h=> .inl h⟩
theorem Stp.trans{h h1 h2:Zn}{w w1 w2:World}(a:Stp h w h1 w1)(b:Stp h1 w1 h2 w2):Stp h w h2 w2:=
 ⟨b.g.trans a.g,a.turn.trans b.turn a.has,fun x hx=>by
   rcases b.has x hx with h3|h3
   ·exact a.has x h3
   ·exact .inr (Nat.le_trans a.turn.size h3)⟩
theorem Stp.blk{h h':Zn}{w w':World}{D:Dsk}(s:Stp h w h' w')(d:Dk w h D){g:Nat}{t:TypeId}{cs:Array Value}(hb:Blk w g t cs)(h1:t≠76)(h2:t≠124):Blk w' g t cs:=
 hb.turn s.turn fun e=>by
  have hk:=z0K hb;rcases d.kinds e with h3|h3|h3
  ·rw [hk]at h3;injection h3 with h3;injection h3 with h3;exact h1 h3
  ·rw [hk]at h3;injection h3 with h3;cases h3
  ·rw [hk]at h3;injection h3 with h3;injection h3 with h3;exact h2 h3
theorem Stp.ub{h h':Zn}{w w':World}{D:Dsk}(s:Stp h w h' w')(d:Dk w h D){B:Nat}{v:Value}{l:List UInt8}(hb:Ub w B v l):Ub w' B v l:=
 hb.keep fun b hb=>s.turn.block b (by obtain⟨_,cs,fz,hh⟩:=hb;exact lt_of_block hh) fun e=>by
  have hk:=zBB hb;rcases d.kinds e with h3|h3|h3
  ·rw [hk]at h3;revert h3;decide
  ·rw [hk]at h3;injection h3 with h3;cases h3
  ·rw [hk]at h3;revert h3;decide
theorem zB6(a:Int)(A:Option Addr)(c:Nat)(b:List UInt8)(w:World)(hu:Ub w 0 (.slice A b.length c) b):
 Calls Tryz.prog 147 #[.int .i64 a,.slice A b.length c] w fun e w'=>∃v,e= .returned v∧PnIs w' v (.wr a b)∧Below w.heap.size w w':=by
 have hmf:=z0R Tryz.prog;have b1:Blk ((w.alloc (.cells #[.int .i64 a] 3)).alloc (.cells #[.slice A b.length c] 31)) w.heap.size 3 #[.int .i64 a]:=(Blk.new _ _ _).alloc _;have b2:Blk ((w.alloc (.cells #[.int .i64 a] 3)).alloc (.cells #[.slice A b.length c] 31)) (w.heap.size+1) 31 #[.slice A b.length c]:=by
  have:=Blk.new (w.alloc (.cells #[.int .i64 a] 3)) 31 #[.slice A b.length c];simpa using this
 have q:Below w.heap.size w ((w.alloc (.cells #[.int .i64 a] 3)).alloc (.cells #[.slice A b.length c] 31)):=((Below.refl _ _).alloc (Nat.le_refl _) _).alloc (by simp) _;have HU:=zz (hu.later q);clear hu;go_enter Tryz.func147,Tryz.ntmps147
 go_wp2_with fail
 go_ret
 exact⟨_,rfl,⟨_,A,c,rfl,b1,b2,HU.out⟩,q⟩
theorem zBU(a:Int)(w:World):
 Calls Tryz.prog 148 #[.int .i64 a] w fun e w'=>∃v,e= .returned v∧PnIs w' v (.fr a)∧Below w.heap.size w w':=by
 have hmf:=z0R Tryz.prog;go_enter Tryz.func148,Tryz.ntmps148
 go_wp2_with fail
 go_ret
 exact⟨_,rfl,⟨_,rfl,Blk.new _ _ _⟩,(Below.refl _ _).alloc (Nat.le_refl _) _⟩
theorem zFL(ga:Nat)(a:Int)(bm n0:Nat)(f:SF)(n:Int)(w:World)(hga:Blk w ga 3 #[.int .i64 a])(hs:Secs w bm f n0)(ha:InI a):
 Calls Tryz.prog 155 #[.map (some bm),.int .i64 n,.pointer (some ⟨ga,0,none⟩)] w fun e w'=>e= .returned (.tuple #[])∧Secs w' bm (f.del a) (f.nDel n0 a)∧w.grownBy w' (some bm):=by
 obtain⟨m,hm,hr⟩:=hs;obtain⟨w',hrun,hm',ht⟩:=hm.del z1P z5s ha 0;have c0:w.cell? ⟨ga,0,none⟩=some (.int .i64 a):=hga.cell 0;have HR:=zz hr;have HM:=zz hm';have HT:=zz ht;have HK:=zz (z2N hm);have HI:=zz ha;have HN:Hid (nDel m n0 a=f.nDel n0 a):=by
  unfold nDel SF.nDel;rw [Hid,(hr a ha).some_iff]
 clear hr hm' ht hm hga ha;go_enter Tryz.func155,Tryz.ntmps155
 go_wp2_with fail
 go_end0
 refine⟨rfl,⟨_,by rw [←HN.out];exact HM.out,fun x hx=> ?_⟩,HT.out.grown⟩;unfold SF.del;by_cases hxa:x=a
 ·simp only [hxa,if_true];trivial
 ·simp only [hxa,if_false];exact(HR.out x hx).keep fun _ _ h=>h.other (by rw [HK.out];simp) HT.out.grown
theorem z2R{w w1 w2:World}{z:Nat}(h:Below w.heap.size w w1)(k:w1.grownBy w2 (some z)):w.grownBy w2 (some z):=
 ⟨k.os.trans h.os,k.tape.trans h.tape,k.output.trans h.output,Nat.le_trans h.size k.size,fun i hi hne=>(k.block i (Nat.lt_of_lt_of_le hi h.size) hne).trans (h.block i hi)⟩
theorem Secs.put{w w3:World}{bm n0:Nat}{m:Int→Option Value}{f:SF}{a:Int}{v:Value}{l:List UInt8}(hr:∀x,InI x→SecV w (m x) (f x))(hm3:MpV Tryz.prog 3 w3 bm (fun x=>if x=a then some v else m x) (nPut m n0 a))(ht:w.mapTurned w3 bm)
 (hv:Ub w 0 v l) (ha:InI a) (hk:z0H w bm=some none):Secs w3 bm (f.put a l) (f.nPut n0 a):=by
 have e:nPut m n0 a=f.nPut n0 a:=by unfold nPut SF.nPut;rw [(hr a ha).some_iff]
 refine⟨_,e▸hm3,fun x hx=> ?_⟩;unfold SF.put;by_cases hxa:x=a
 ·simp only [hxa,if_true];exact hv.other (by rw [hk];simp) ht.grown
 ·simp only [hxa,if_false];exact(hr x hx).keep fun _ _ h=>h.other (by rw [hk];simp) ht.grown
theorem SecV.get{w:World}{v:Option Value}{l:Option (List UInt8)}(h:SecV w v l):∃A c,v.getD (.slice none 0 0)= .slice A (l.getD []).length c∧Ub w 0 (.slice A (l.getD []).length c) (l.getD []):=by
 unfold SecV at h;cases v with
 |none=>
  cases l with
  |none=>exact⟨none,0,rfl,Sl.nil⟩
  |some l=>exact h.elim
 |some v=>
  cases l with
  |none=>exact h.elim
  |some l=>
   obtain⟨A,c,rfl,_⟩:=Ub.bs h |>.at;exact⟨A,c,rfl,h⟩
theorem z94{P:Program}(w:World){t e:TypeId}{z:Value}{bytes:Nat}(E:Elem P t e z 1 bytes){A:Option Addr}{m c:Nat}(_:True)(hmc:(m:Int)≤(c:Int))(n:Nat):
 (Instr.sliceAt t (.slice A n c) none (some (.int .i64 (m:Int))) none).run P w= .ok (.slice (if c=0 then A else A.map (·.add 0)) m c) w:=by
 obtain⟨i,hi0,hz,hs,hby⟩:=E.info;simp [Instr.sliceAt,Instr.slice,Instr.sliceBounds,Instr.sliceBound,run_underlying E.under,sizeOf,typeInfo,hi0,asIntOf];intro h;omega
theorem z1K{P:Program}(w:World){ops:Array Oper}{rest:List Oper}{o:Oper}{a:Act}{Q:Exit→Act→World→Prop}(hgd:o.guard=none)(x hi:Operand){t e:TypeId}{z:Value}{bytes:Nat}(E:Elem P t e z 1 bytes)
 (ho:o.op= .slice t x none (some hi) none) {S:Nat→Prop} {l:List UInt8} {A:Option Addr} {c m:Nat} (hb:Bs S w (.slice A l.length c) l) (hx:a.eval x= .slice A l.length c) (hh:a.eval hi= .int .i64 (m:Int)) (hm:m≤l.length)
 (h:∀A',Bs S w (.slice A' m c) (l.take m)→wpList P ops Q rest (a.put o.dst (.slice A' m c)) w):wpList P ops Q (o::rest) a w:=by
 refine wpList_plain hgd fun K hK=> ?_
 obtain⟨i,hi0,hz,hs,hby⟩:=E.info;obtain⟨A1,c1,hv,h3,h4,h5,h6⟩:=hb.at;injection hv with hA _ hc
 subst hA hc;have hl:(l.take m).length=m:=by rw [List.length_take];omega
 have hh':True:=trivial;have key:∀A',(c=0→A'=A)→(c≠0→A'=A.map (·.add 0))→Bs S w (.slice A' m c) (l.take m):=by
  intro A' g1 g2;have:=Bs.mk_ (S:=S) (w:=w) (l:=l.take m) (A:=A') (c:=c) (by omega) h4 (fun e0=>by
   by_cases hc0:c=0
   ·exact hc0
   ·have:=g2 hc0;rw [e0]at this;cases A with
    |none=>exact h5 rfl
    |some ad=>cases this) (fun hn=>by
   obtain⟨b,o',hA,hS,hcell⟩:=h6 (by omega);refine⟨b,o',?_,hS,fun j hj=> ?_⟩
   ·rw [g2 (by omega),hA];simp [z0j]
   ·rw [hcell j (by omega),List.getElem_take])
  rwa [hl]at this
 have hrun:=z94 (P:=P) w E (A:=A) hh' (show(m:Int)≤(c:Int) by omega) l.length;unfold Oper.wp;simp [execOp,ho,hx,hh,hrun,Result.andThen];refine hK _ _ (h _ (key _ (fun e=>if_pos e) (fun e=>if_neg e)))
theorem zHW(ga gb:Nat)(A:Option Addr)(c:Nat)(a:Int)(b:List UInt8)(bm n0:Nat)(f:SF)(n:Int)(N:Nat)(w:World)(hga:Blk w ga 3 #[.int .i64 a])(hgb:Blk w gb 31 #[.slice A b.length c])(hub:Ub w 0 (.slice A b.length c) b)
 (hs:Secs w bm f n0) (hn0:n0≤65536) (ha:InI a) (hb:b.length≤512) (ho:((f a).getD []).length≤512) (hcase:(n<0∧N=0)∨n=(N:Int)) (hN:N≤9223372036854775807):
 Calls Tryz.prog 154 #[.map (some bm),.int .i64 n,.pointer (some ⟨gb,0,none⟩),.pointer (some ⟨ga,0,none⟩)] w fun e w'=>e= .returned (.tuple #[])∧Secs w' bm (f.put a (z2C b ((f a).getD []) (N:Int))) (f.nPut n0 a)∧w.grownBy w' (some bm):=by
 obtain⟨m,hm,hr⟩:=hs;obtain⟨Ao,co,hmo,huo⟩:=(hr a ha).get;obtain⟨o,hoe⟩:∃o,(f a).getD []=o:=⟨_,rfl⟩;rw [hoe]at hmo huo ho ⊢;have c0:w.cell? ⟨ga,0,none⟩=some (.int .i64 a):=hga.cell 0;have cb:w.cell? ⟨gb,0,none⟩=some (.slice A b.length c):=hgb.cell 0;obtain⟨_,_,hv0,hlc,hcm,_,hA⟩:=hub.bs.at;injection hv0 with hA0 _ hc0
 subst hA0 hc0;obtain⟨_,_,hv0,hloc,hocm,_,hAo⟩:=huo.bs.at;injection hv0 with hA0 _ hc0
 subst hA0 hc0;have hgaL:=hga.lt;have hgbL:=hgb.lt;have HU:=zz hub;have HUO:=zz huo;have HR:=zz hr;have HM:=zz hm;have HI:=zz ha;have HMO:=zz hmo;have HAO:=zz hAo;have hr3:N<b.length∧N<o.length∨N<b.length∧¬N<o.length∨N=b.length∨b.length<N:=by omega
 clear hub huo hr hm ha hmo hga hgb hA hAo hoe;have hgl:=hgaL;have c00:=c0;have hmax:(if n<0 then(0:Int)else n)=(N:Int):=by
  rcases hcase with⟨h0,rfl⟩|rfl
  ·rw [if_pos h0];rfl
  ·rw [if_neg (by omega)]
 clear hcase;rcases hr3 with⟨h1,h2⟩|⟨h1,h2⟩|h1|h1
 ·have HTB:Hid (z2C b o (N:Int)=b.take N++o.drop N):=by unfold z2C;rw [Hid,Int.toNat_natCast,if_pos h1]
  obtain⟨bo,oo,rfl,_,_⟩:=HAO.out (by omega);have hkc:¬co=N:=by omega
  have HC:Hid (Bs (UbS w 0) w (.slice (some ⟨bo,oo+N,none⟩) (o.length-N) (co-N)) (o.drop N)):=by
   have:=Bs.cut HUO.out (show N≤o.length by omega);rw [if_neg hkc]at this;exact this
  have hmb:N≤b.length:=by omega
  have i1:(N:Int)<(b.length:Int):=by omega
  have i2:¬ (b.length:Int)<(N:Int):=by omega
  have i3:(N:Int)≤(b.length:Int):=by omega
  have i4:(N:Int)≤(c:Int):=by omega
  have i5:(N:Int)<(o.length:Int):=by omega
  have i6:(N:Int)≤(o.length:Int):=by omega
  have i7:(o.length:Int)≤(co:Int):=by omega
  have i0:¬ (N:Int)<0:=by omega
  have i9:(0:Int)≤(N:Int):=by omega
  go_enter Tryz.func154,Tryz.ntmps154
  go_wp2_with (first
   |(refine z1K _ rfl (.tmp 14) (.tmp 15) z10 rfl (Sl.alloc1 HU.out _) rfl rfl hmb ?_;intro A9 HP9)
   |(at_builtin;refine z04 _ rfl (.tmp 13) (.tmp 16) z10 rfl (Ob.made _ _ w.heap.size (Nat.le_refl _) (by simp)) HP9 rfl rfl (by simp only [List.length_nil,List.length_take];omega) (by simp) ?_;intro A1 k1 c1 w1 hown1 hga1 hat1;have qa:Below w.heap.size w w1:=z01 ((Below.refl _ _).alloc (Nat.le_refl _) _) (Ob.made _ _ w.heap.size (Nat.le_refl _) (by simp)) hga1 (by simp);have hlk:=(HM.out.later qa).look1 z1P z5s (z3t w1) HI.out;rw [HMO.out]at hlk;have c0:=cell_later qa c0;have cb:=cell_later qa cb)
   |(at_builtin;refine z04 _ rfl (.tmp 31) (.tmp 34) z10 rfl hown1 (Bs.later HC.out qa) rfl rfl (by simp only [List.nil_append,List.length_take,List.length_drop];omega) qa.size ?_;intro A2 k2 c2 w2 hown2 hga2 hat2;have qb:Below w.heap.size w w2:=z01 qa hown1 hga2 qa.size;have c0:=(qb.cell (p:=⟨ga,0,none⟩) hgl).trans c00;obtain⟨w3,hrun3,hm3,ht3⟩:=(HM.out.later qb).put z1P z5s (by unfold maxLen;omega) HI.out (.slice A2 k2 c2);have HM3:=zz hm3;have HT3:=zz ht3;clear hm3 ht3)
   |fail)
  go_end0
  refine⟨rfl,?_,z2R qb HT3.out.grown⟩;have hub3:Ub w2 0 (.slice A2 k2 c2) (z2C b o (N:Int)):=by rw [HTB.out];exact(Ub.of_own (by simpa using hown2)).lower (Nat.zero_le _)
  exact Secs.put (fun x hx=>(HR.out x hx).keep fun _ _ h=>h.later qb) HM3.out HT3.out hub3 HI.out (z2N (HM.out.later qb))
 ·have HTB:Hid (z2C b o (N:Int)=b.take N):=by unfold z2C;rw [Hid,Int.toNat_natCast,if_pos h1,List.drop_eq_nil_of_le (by omega),List.append_nil]
  have hmb:N≤b.length:=by omega
  have i1:(N:Int)<(b.length:Int):=by omega
  have i2:¬ (b.length:Int)<(N:Int):=by omega
  have i3:(N:Int)≤(b.length:Int):=by omega
  have i4:(N:Int)≤(c:Int):=by omega
  have i5:¬ (N:Int)<(o.length:Int):=by omega
  have i0:¬ (N:Int)<0:=by omega
  have i9:(0:Int)≤(N:Int):=by omega
  go_enter Tryz.func154,Tryz.ntmps154
  go_wp2_with (first
   |(refine z1K _ rfl (.tmp 14) (.tmp 15) z10 rfl (Sl.alloc1 HU.out _) rfl rfl hmb ?_;intro A9 HP9)
   |(at_builtin;refine z04 _ rfl (.tmp 13) (.tmp 16) z10 rfl (Ob.made _ _ w.heap.size (Nat.le_refl _) (by simp)) HP9 rfl rfl (by simp only [List.length_nil,List.length_take];omega) (by simp) ?_;intro A1 k1 c1 w1 hown1 hga1 hat1;have qa:Below w.heap.size w w1:=z01 ((Below.refl _ _).alloc (Nat.le_refl _) _) (Ob.made _ _ w.heap.size (Nat.le_refl _) (by simp)) hga1 (by simp);have hlk:=(HM.out.later qa).look1 z1P z5s (z3t w1) HI.out;rw [HMO.out]at hlk;have c0:=cell_later qa c0;have cb:=cell_later qa cb;obtain⟨w3,hrun3,hm3,ht3⟩:=(HM.out.later qa).put z1P z5s (by unfold maxLen;omega) HI.out (.slice A1 k1 c1);have HM3:=zz hm3;have HT3:=zz ht3;clear hm3 ht3)
   |fail)
  go_end0
  refine⟨rfl,?_,z2R qa HT3.out.grown⟩;have hub3:Ub w1 0 (.slice A1 k1 c1) (z2C b o (N:Int)):=by rw [HTB.out];exact(Ub.of_own (by simpa using hown1)).lower (Nat.zero_le _)
  exact Secs.put (fun x hx=>(HR.out x hx).keep fun _ _ h=>h.later qa) HM3.out HT3.out hub3 HI.out (z2N (HM.out.later qa))
 ·subst h1;have HTB:Hid (z2C b o ((b.length:Nat):Int)=b.take b.length):=by unfold z2C;rw [Hid,Int.toNat_natCast,if_neg (by omega),List.take_length]
  have hmb:b.length≤b.length:=by omega
  have i1:¬ ((b.length:Nat):Int)<(b.length:Int):=by omega
  have i3:(b.length:Int)≤(c:Int):=by omega
  have i0:¬ ((b.length:Nat):Int)<0:=by omega
  have i9:(0:Int)≤((b.length:Nat):Int):=by omega
  go_enter Tryz.func154,Tryz.ntmps154
  go_wp2_with (first
   |(refine z1K _ rfl (.tmp 14) (.tmp 15) z10 rfl (Sl.alloc1 HU.out _) rfl rfl hmb ?_;intro A9 HP9)
   |(at_builtin;refine z04 _ rfl (.tmp 13) (.tmp 16) z10 rfl (Ob.made _ _ w.heap.size (Nat.le_refl _) (by simp)) HP9 rfl rfl (by simp only [List.length_nil,List.length_take];omega) (by simp) ?_;intro A1 k1 c1 w1 hown1 hga1 hat1;have qa:Below w.heap.size w w1:=z01 ((Below.refl _ _).alloc (Nat.le_refl _) _) (Ob.made _ _ w.heap.size (Nat.le_refl _) (by simp)) hga1 (by simp);have hlk:=(HM.out.later qa).look1 z1P z5s (z3t w1) HI.out;rw [HMO.out]at hlk;have c0:=cell_later qa c0;have cb:=cell_later qa cb;obtain⟨w3,hrun3,hm3,ht3⟩:=(HM.out.later qa).put z1P z5s (by unfold maxLen;omega) HI.out (.slice A1 k1 c1);have HM3:=zz hm3;have HT3:=zz ht3;clear hm3 ht3)
   |fail)
  go_end0
  refine⟨rfl,?_,z2R qa HT3.out.grown⟩;have hub3:Ub w1 0 (.slice A1 k1 c1) (z2C b o ((b.length:Nat):Int)):=by rw [HTB.out];exact(Ub.of_own (by simpa using hown1)).lower (Nat.zero_le _)
  exact Secs.put (fun x hx=>(HR.out x hx).keep fun _ _ h=>h.later qa) HM3.out HT3.out hub3 HI.out (z2N (HM.out.later qa))
 ·have HTB:Hid (z2C b o (N:Int)=b.take b.length):=by unfold z2C;rw [Hid,Int.toNat_natCast,if_neg (by omega),List.take_length]
  have hmb:b.length≤b.length:=by omega
  have i1:¬ (N:Int)<(b.length:Int):=by omega
  have i3:(b.length:Int)≤(c:Int):=by omega
  have i2:(b.length:Int)<(N:Int):=by omega
  have i6:¬ (N:Int)≤(b.length:Int):=by omega
  have i0:¬ (N:Int)<0:=by omega
  have i9:(0:Int)≤(N:Int):=by omega
  go_enter Tryz.func154,Tryz.ntmps154
  go_wp2_with (first
   |(refine z1K _ rfl (.tmp 14) (.tmp 15) z10 rfl (Sl.alloc1 HU.out _) rfl rfl hmb ?_;intro A9 HP9)
   |(at_builtin;refine z04 _ rfl (.tmp 13) (.tmp 16) z10 rfl (Ob.made _ _ w.heap.size (Nat.le_refl _) (by simp)) HP9 rfl rfl (by simp only [List.length_nil,List.length_take];omega) (by simp) ?_;intro A1 k1 c1 w1 hown1 hga1 hat1;have qa:Below w.heap.size w w1:=z01 ((Below.refl _ _).alloc (Nat.le_refl _) _) (Ob.made _ _ w.heap.size (Nat.le_refl _) (by simp)) hga1 (by simp);have hlk:=(HM.out.later qa).look1 z1P z5s (z3t w1) HI.out;rw [HMO.out]at hlk;have c0:=cell_later qa c0;have cb:=cell_later qa cb;obtain⟨w3,hrun3,hm3,ht3⟩:=(HM.out.later qa).put z1P z5s (by unfold maxLen;omega) HI.out (.slice A1 k1 c1);have HM3:=zz hm3;have HT3:=zz ht3;clear hm3 ht3)
   |fail)
  go_end0
  refine⟨rfl,?_,z2R qa HT3.out.grown⟩;have hub3:Ub w1 0 (.slice A1 k1 c1) (z2C b o (N:Int)):=by rw [HTB.out];exact(Ub.of_own (by simpa using hown1)).lower (Nat.zero_le _)
  exact Secs.put (fun x hx=>(HR.out x hx).keep fun _ _ h=>h.later qa) HM3.out HT3.out hub3 HI.out (z2N (HM.out.later qa))
structure CpSt(w wr:World)(bm:Nat)(m:Int→Option Value)(f:SF)(n0:Nat)(left:Int→Bool)(cnt:Nat)(mo:Int→Option Value)(no:Nat):Prop where
 rg:RgV Tryz.prog 3 wr bm (w.heap.size+1) m n0 left cnt
 out:MpV Tryz.prog 3 wr w.heap.size mo no
 come:∀x,InI x→left x=true→mo x=none
 done:∀x,InI x→left x=false→SecV wr (mo x) (f x)
 num:no+cnt≤n0
 below:Below w.heap.size w wr
theorem z8Z(bm n0:Nat)(f:SF)(w:World)(hs:Secs w bm f n0)(hf:FinK f n0):
 Calls Tryz.prog 60 #[.map (some bm)] w fun e w'=>∃bo,e= .returned (.map (some bo))∧w.heap.size≤bo∧Secs w' bo f n0∧Below w.heap.size w w':=by
 obtain⟨m,hm,hr⟩:=hs;have hmm:= @run_makeMap Tryz.prog;have hbl:=hm.lt;have hn0:=hf.bound;have e1:(w.alloc (.map #[] 0)).heap.size=w.heap.size+1:=by simp
 have HR:=zz hr;have HF:=zz hf;have HM:=zz (hm.alloc (.map #[] 0));have hLeft:Hid (∀a,((m a).isSome&&decide (-9223372036854775808≤a)&&decide (a≤9223372036854775807))=true↔InI a∧(m a).isSome=true):=fun a=>by
  unfold InI;simp only [Bool.and_eq_true,decide_eq_true_eq];exact⟨fun h=>⟨⟨h.1.2,h.2⟩,h.1.1⟩,fun h=>⟨⟨h.2,h.1.1⟩,h.1.2⟩⟩
 clear hr hf hm;go_enter Tryz.func60,Tryz.ntmps60
 go_wp2_with (first
  |(at_range;refine z7a _ rfl _ 73 rfl z1P z5s rfl HM.out _ hLeft.out ?_;intro w0 hrg0 hg0 hs0)
  |fail)
 go_frame
 rw [e1]at hrg0 hs0 ⊢;have S0:CpSt w w0 bm m f n0 (fun a=>(m a).isSome&&decide (-9223372036854775808≤a)&&decide (a≤9223372036854775807)) n0 (fun _=>none) 0:=by
  refine⟨hrg0,(MpV.made _ _ w).at (hg0.block w.heap.size (by simp) (by simp)),fun _ _ _=>rfl,fun x hx hl=> ?_,by omega,((Below.refl _ _).alloc (Nat.le_refl _) _).grown hg0 (by simp) (fun j hj=>by cases hj)⟩;have h1:(m x).isSome=false:=by
   cases h2:(m x).isSome with
   |false=>rfl
   |true=>have:=(hLeft.out x).2 ⟨hx,h2⟩;rw [hl]at this;cases this
  have h3:=HR.out x hx;have h4:=h3.some_iff;rw [h1]at h4;cases hfx:f x with
  |none=>trivial
  |some l=>rw [hfx]at h4;cases h4
 clear hrg0 hg0 hs0;go_loopw [4,5] (fun _ _ wr=>∃ (left:Int→Bool) (cnt:Nat) (mo:Int→Option Value) (no:Nat),CpSt w wr bm m f n0 left cnt mo no) (fun _ _ wr=>wr.rangeLeft bm (w.heap.size+1))
 case atStart=>exact⟨_,_,_,_,S0⟩
 case round=>
  clear S0;obtain⟨left,cnt,mo,no,hst⟩:=hrel;have HST:=zz hst;have hrg:=hst.rg;clear hst;go_wp2_with (first
   |(at_next;refine z80 _ rfl _ rfl z1P rfl hrg ?_ ?_)
   |fail)
  ·intro hc0 hl0;go_wp2
   go_ret
   refine⟨_,rfl,Nat.le_refl _,⟨mo,?_,fun x hx=>HST.out.done x hx (hl0 x)⟩,HST.out.below⟩;have h1:=HST.out.num;obtain⟨l,hl,hlo⟩:=HF.out;have h2:=HST.out.out;have h3:=h2.ge z1P hl.nodup fun x hx=>by
    obtain⟨y,hy,rfl⟩:=List.mem_map.1 hx;have hi:InI y.1:=by have:=hlo y hy;unfold SecOk at this;unfold InI;omega
    refine⟨hi,?_⟩;rw [(HST.out.done y.1 hi (hl0 y.1)).some_iff];exact(hl.has y.1).2 hx
   rw [List.length_map,hl.len]at h3;rw [show no=n0 by omega]at h2;exact h2
  ·intro x c w1 cnt1 hx hlx hmx hrg1 hlt hg1 hs1 hen;have hsec:=HR.out x hx;rw [hmx]at hsec;obtain⟨l,hfx⟩:∃l,f x=some l:=by
    cases hfx:f x with
    |none=>rw [hfx]at hsec;exact hsec.elim
    |some l=>exact⟨l,rfl⟩
   rw [hfx]at hsec;have hub0:Ub w 0 c l:=hsec;have q1:Below w.heap.size w w1:=HST.out.below.grown hg1 HST.out.below.size (fun j hj=>by cases hj;exact Nat.le_succ _);have hub:=hub0.later q1;obtain⟨A,cp,rfl,_⟩:=hub.bs.at;have hll:l.length≤512:=(HF.out.at hfx).2.2;have HU:=zz hub;have HX:=zz hx;have HFX:=zz hfx;have HLX:=zz hlx;have HRG:=zz hrg1;have HG1:=zz hg1;have HOUT:Hid (MpV Tryz.prog 3 w1 w.heap.size mo no):=HST.out.out.at (hg1.block _ HST.out.out.lt (by simp));have hsz1:=q1.size;have hnum:=HST.out.num;clear hsec hub0 hub hmx hrg1 hlx hfx hx hg1 hs1;go_wp2_with (first
    |(at_builtin;refine z04 _ rfl (.tmp 16) (.tmp 17) z10 rfl (Ob.made _ _ w1.heap.size (Nat.le_refl _) (by simp)) (Sl.alloc1 HU.out _) rfl rfl (by simp;omega) (by simp) ?_;intro A1 k1 c1 w2 hown1 hga hat1;have qa:Below w1.heap.size w1 w2:=z01 ((Below.refl _ _).alloc (Nat.le_refl _) _) (Ob.made _ _ w1.heap.size (Nat.le_refl _) (by simp)) hga (by simp);obtain⟨w3,hrun3,hm3,ht3⟩:=(HOUT.out.later qa).put z1P z5s (by unfold maxLen;omega) HX.out (.slice A1 k1 c1);have QA:=zz qa;have HM3:=zz hm3;have HT3:=zz ht3;clear qa hm3 ht3)
    |fail)
   go_roundw
   case rel=>
    have hg3:w1.grownBy w3 (some w.heap.size):=z2R QA.out HT3.out.grown;have hmox:=HST.out.come x HX.out HLX.out;have hub2:Ub w2 0 (.slice A1 k1 c1) l:=(Ub.of_own (by simpa using hown1)).lower (Nat.zero_le _);have hkz:z0H w2 w.heap.size≠some (some 5):=by rw [z2N (HOUT.out.later QA.out)];simp
    have hkey:∀v l,Ub (wr) 0 v l→Ub w3 0 v l:=fun v l h=>Ub.other ((h.keep fun b hb=>HG1.out.block b (by obtain⟨_,cs,fz,hh⟩:=hb;exact lt_of_block hh) (fun e=>by
     injection e with e
     subst e;obtain⟨_,cs,fz,hh⟩:=hb;have:=HST.out.rg;obtain⟨D,lf,h1,_⟩:=this;obtain⟨es,clock,since,seen,c0,_,_,_,_,hr0,_⟩:=h1;rw [hr0]at hh;cases hh)).later QA.out) hkz HT3.out.grown
    refine⟨_,cnt1,_,_,⟨HRG.out.kept hg3 (fun e=>by have:=Option.some.inj e;omega) (fun e=>by have:=Option.some.inj e;omega),HM3.out,fun z hz hl=> ?_,fun z hz hl=> ?_,?_,(q1.grown hg3 hsz1 (fun j hj=>by cases hj;exact Nat.le_refl _))⟩⟩
    ·simp only [Bool.and_eq_true,Bool.not_eq_true',beq_eq_false_iff_ne]at hl;rw [if_neg hl.2];exact HST.out.come z hz hl.1
    ·by_cases hzx:z=x
     ·subst hzx;simp only [if_true,HFX.out];exact hub2.other hkz HT3.out.grown
     ·simp only [hzx,if_false];have hlz:left z=false:=by
       cases h:left z with
       |false=>rfl
       |true=>rw [h]at hl;simp [hzx]at hl
      exact(HST.out.done z hz hlz).keep hkey
    ·unfold nPut;rw [hmox];simp only [Option.isSome_none,Bool.false_eq_true,if_false];omega
   case measure=>
    have hg3:w1.grownBy w3 (some w.heap.size):=z2R QA.out HT3.out.grown;have hrg3:=HRG.out.kept hg3 (fun e=>by have:=Option.some.inj e;omega) (fun e=>by have:=Option.some.inj e;omega);rw [hrg3.left_eq,HST.out.rg.left_eq];exact hlt
theorem z22{w w':World}(h:w.grownBy w' none):Below w.heap.size w w':=⟨h.os,h.tape,h.output,h.size,fun i hi=>h.block i hi (by simp)⟩
theorem Secs.row{w w':World}{b n:Nat}{f:SF}{row:Option Nat}(h:Secs w b f n)(hz:∀z,row=some z→b≠z∧z0H w z≠some (some 5))(hg:w.grownBy w' row):Secs w' b f n:=by
 cases row with
 |none=>exact h.later (z22 hg)
 |some z=>exact h.other (hz z rfl).1 (hz z rfl).2 hg
theorem PnIs.row{w w':World}{v:Value}{p:Pnd}{row:Option Nat}(h:PnIs w v p)(hz:∀z,row=some z→∀t∈z2l,z0H w z≠some (some t))(hg:w.grownBy w' row):PnIs w' v p:=by
 cases row with
 |none=>exact h.later (z22 hg)
 |some z=>exact h.other (hz z rfl) hg
theorem zHx:Elem Tryz.prog 74 124 .nilFunc 1 8:=Elem.mk' Tryz.underlying74 (by kernel_rfl) rfl (by omega)
theorem zF5(b o:List UInt8)(n:Int):z2C b o ((n.toNat:Nat):Int)=z2C b o n:=by unfold z2C;rw [Int.toNat_natCast]
theorem z6u{w:World}{v:Value}{p:Pnd}{bm n0:Nat}{f:SF}{n:Int}(hp:PnIs w v p)(hpo:zEA p)(hs:Secs w bm f n0)(hf:FinK f n0)(hn:InI n){Q:Ending→World→Prop}
 (hQ:∀w',Secs w' bm (doP (f,n0) p n).1 (doP (f,n0) p n).2→w.grownBy w' (some bm)→Q (.returned (.tuple #[])) w'):
 ∃fn caps,v= .func (Fn.func fn) #[] caps∧∀args,args= #[.map (some bm),.int .i64 n]++caps→Calls Tryz.prog fn args w Q:=by
 cases p with
 |wr a b=>
  obtain⟨ga,A,c,rfl,h1,h2,h3⟩:=hp;refine⟨_,_,rfl,fun args ha=> ?_⟩;subst ha;have ho:((f a).getD []).length≤512:=by
   cases hfa:f a with
   |none=>simp
   |some o=>exact(hf.at hfa).2.2
  have hi:InI a:=by have:=hpo.1;have:=hpo.2.1;unfold InI;omega
  refine(zHW ga (ga+1) A c a b bm n0 f n n.toNat w h1 h2 h3 hs hf.bound hi hpo.2.2 ho (by omega) (by unfold InI at hn;omega)).mono ?_;rintro e w' ⟨rfl,h4,h5⟩;rw [zF5]at h4;exact hQ w' h4 h5
 |fr a=>
  obtain⟨ga,rfl,h1⟩:=hp;refine⟨_,_,rfl,fun args ha=> ?_⟩;subst ha;have hi:InI a:=by have:=hpo.1;have:=hpo.2;unfold InI;omega
  refine(zFL ga a bm n0 f n w h1 hs hi).mono ?_;rintro e w' ⟨rfl,h4,h5⟩;exact hQ w' h4 h5
theorem zHN(n:Int)(w:World)(h1:1≤n)(h2:n≤65536):
 Calls Tryz.prog 5 #[.int .i64 n] w fun e w'=>∃h,e= .returned (.tuple #[.pointer (some ⟨h.g,0,none⟩),.int .i64 0])∧Dk w' h (Dsk.new n)∧(∀b,h.has b→w.heap.size≤b)∧Below w.heap.size w w':=by
 have hmm:= @run_makeMap Tryz.prog;have i1:¬n<1:=by omega
 have i2:¬65536<n:=by omega
 go_enter Tryz.func5,Tryz.ntmps5
 go_wp2_with fail
 go_ret2
 have s1:(w.alloc (.map #[] 0)).heap.size=w.heap.size+1:=by simp
 have s2:((w.alloc (.map #[] 0)).alloc (.map #[] 0)).heap.size=w.heap.size+1+1:=by simp
 have q1:Below (w.heap.size+1) (w.alloc (.map #[] 0)) ((w.alloc (.map #[] 0)).alloc (.map #[] 0)):=by
  have:=(Below.refl (w.alloc (.map #[] 0)).heap.size (w.alloc (.map #[] 0))).alloc (Nat.le_refl _) (.map #[] 0)
  rwa [s1]at this
 have m1:=Secs.made w;have m2:=Secs.made (w.alloc (.map #[] 0));rw [s1]at m2;have m1':Secs ((w.alloc (.map #[] 0)).alloc (.map #[] 0)) w.heap.size (fun _=>none) 0:=m1.later (by rw [s1];exact q1);have b3:=Blk.new ((w.alloc (.map #[] 0)).alloc (.map #[] 0)) 76 #[.int .i64 n,.int .i64 n,.map (some w.heap.size),.map (some (w.heap.size+1)),.slice none 0 0];rw [s2]at b3;have q3:=(Below.refl ((w.alloc (.map #[] 0)).alloc (.map #[] 0)).heap.size ((w.alloc (.map #[] 0)).alloc (.map #[] 0))).alloc (Nat.le_refl _) (.cells #[.int .i64 n,.int .i64 n,.map (some w.heap.size),.map (some (w.heap.size+1)),.slice none 0 0] 76);refine⟨⟨w.heap.size+1+1,w.heap.size,w.heap.size+1,.slice none 0 0⟩,rfl,⟨b3,m1'.later q3,m2.later q3,by simp,[],World.ownsRow_nil _ _ _ _,PnL.nil _⟩,fun b hb=> ?_,(((Below.refl _ _).alloc (Nat.le_refl _) _).alloc (by simp) _).alloc (by simp;omega) _⟩;rcases hb with h|h|h|h
 ·simp only at h;omega
 ·simp only at h;omega
 ·simp only at h;omega
 ·cases h
theorem z2U{w:World}{g i:Nat}(u:Value):w.grownBy (w.setCell ⟨g,i,none⟩ u) (some g):=⟨rfl,rfl,rfl,by simp,fun k hk hne=>Below.heap_setCell w ⟨g,i,none⟩ u k (fun e=>hne (by rw [e]))⟩
theorem zEZ{w w1:World}{g bv bg k1 c0 c1:Nat}{A0 A1:Option Addr}{vs:List Value}{D:Dsk}{pv:Value}{p:Pnd}{n:Int}{row:Obj}(hd:Dk w ⟨g,bv,bg,.slice A0 vs.length c0⟩ D)(hok:D.Ok)(hp:PnIs w pv p)(hpo:zEA p)(hn:InI n)
 (hown:Ow 124 (w.alloc row) 0 (.slice A0 vs.length c0) vs) (hpl:PnL w vs D.pend) (hown1:w1.ownsRow 0 124 1 (.slice A1 k1 c1) (vs.length+1) (vs++ [pv])) (hga:(w.alloc row).grownBy w1 (Value.slice A0 vs.length c0).ownBlock)
 (hat:(Value.slice A1 k1 c1).ownBlock=(Value.slice A0 vs.length c0).ownBlock∨(Value.slice A1 k1 c1).ownBlock=some (w.alloc row).heap.size) {fn:FuncId} {args:Array Value}
 (hv:∃caps,pv= .func (Fn.func fn) #[] caps∧args= #[.map (some bv),.int .i64 n]++caps):
 Calls Tryz.prog fn args (w1.setCell ⟨g,4,none⟩ (.slice A1 k1 c1)) fun e w'=>e= .returned (.tuple #[])∧Dk w' ⟨g,bv,bg,.slice A1 k1 c1⟩ (D.put p n)∧Stp ⟨g,bv,bg,.slice A0 vs.length c0⟩ w ⟨g,bv,bg,.slice A1 k1 c1⟩ w':=by
 have qa:Below w.heap.size w (w.alloc row):=(Below.refl _ _).alloc (Nat.le_refl _) _;have d1:=hd.later qa;have kz:∀z,(Value.slice A0 vs.length c0).ownBlock=some z→z0H (w.alloc row) z=some (some 124):=fun z hz=>z1V hown hz
 have kv:=d1.view.kind;have kg:=d1.ground.kind;simp only at kv kg;have row1:∀ {b m:Nat} {f:SF},Secs (w.alloc row) b f m→Secs w1 b f m:=fun hs=>hs.row (fun z hz=>⟨(fun e=>by subst e;have h1:=kz _ hz;rw [hs.kind]at h1;cases h1),(by rw [kz z hz];decide)⟩) hga
 have v1:=row1 d1.view;have g1:=row1 d1.ground;have b1:=d1.blk.kept hown hga (by decide);have p1:∀ {v:Value} {q:Pnd},PnIs (w.alloc row) v q→PnIs w1 v q:=fun h=>h.row (fun z hz t ht=>by rw [kz z hz];revert ht;simp only [z2l,List.mem_cons,List.not_mem_nil,or_false];rintro(rfl|rfl|rfl)<;>decide) hga
 have kd1:z0H w1 g=some (some 76):=z0K b1;have gc:=z2U (w:=w1) (g:=g) (i:=4) (.slice A1 k1 c1);have v2:Secs (w1.setCell ⟨g,4,none⟩ (.slice A1 k1 c1)) bv D.view D.nv:=v1.other (fun e=>by have:=v1.kind;simp only at e this;rw [e,kd1]at this;cases this) (by rw [kd1];decide) gc;have g2:Secs (w1.setCell ⟨g,4,none⟩ (.slice A1 k1 c1)) bg D.ground D.ng:=g1.other (fun e=>by have:=g1.kind;simp only at e this;rw [e,kd1]at this;cases this) (by rw [kd1];decide) gc;have p2:∀ {v:Value} {q:Pnd},PnIs w1 v q→PnIs (w1.setCell ⟨g,4,none⟩ (.slice A1 k1 c1)) v q:=fun h=>h.other (fun t ht=>by rw [kd1];revert ht;simp only [z2l,List.mem_cons,List.not_mem_nil,or_false];rintro(rfl|rfl|rfl)<;>decide) gc
 have b2:=b1.put 4 (.slice A1 k1 c1);have o2:Ow 124 (w1.setCell ⟨g,4,none⟩ (.slice A1 k1 c1)) 0 (.slice A1 k1 c1) (vs++ [pv]):=by
  unfold Ow;rw [List.length_append];exact z2c hown1 b1 (by decide) 4 _
 have kv2:=v2.kind;have hQ:∀w3,Secs w3 bv (doP (D.view,D.nv) p n).1 (doP (D.view,D.nv) p n).2→(w1.setCell ⟨g,4,none⟩ (.slice A1 k1 c1)).grownBy w3 (some bv)→
  Ending.returned (.tuple #[])=Ending.returned (.tuple #[])∧Dk w3 ⟨g,bv,bg,.slice A1 k1 c1⟩ (D.put p n)∧Stp ⟨g,bv,bg,.slice A0 vs.length c0⟩ w ⟨g,bv,bg,.slice A1 k1 c1⟩ w3:=by
  intro w3 hs3 hg3;refine⟨rfl,?_,?_⟩
  ·have hbg:bg≠bv:=fun e=>hd.ne e.symm
   refine⟨b2.grown hg3 (fun e=> ?_),hs3,g2.other hbg (by rw [kv2];decide) hg3,hd.ne,vs++ [pv],o2.other (fun e=> ?_) hg3,(PnL.keep (hpl.keep fun v q h=>p2 (p1 (h.later qa))) fun v q h=> ?_).snoc ?_⟩
   ·injection e with e
    have e2:g=bv:=by first|exact e|exact e.symm
    exact absurd ((z0K b2).symm.trans ((congrArg (z0H _) e2).trans kv2)) (by simp)
   ·have:=z1V o2 e;rw [kv2]at this;cases this
   ·exact h.other (fun t ht=>by rw [kv2];simp) hg3
   ·exact(p2 (p1 (hp.later qa))).other (fun t ht=>by rw [kv2];simp) hg3
  ·refine⟨rfl,?_,fun b hb=> ?_⟩
   ·have t1:Turn (Zn.has ⟨g,bv,bg,.slice A0 vs.length c0⟩) w w1:=(Turn.of_below qa).trans (Turn.of_grown (F:=Zn.has ⟨g,bv,bg,.slice A0 vs.length c0⟩) hga (fun z hz=> .inr (.inr (.inr hz)))) (fun b h=> .inl h);exact(t1.setCell (p:=⟨g,4,none⟩) (.inl (.inl rfl)) _).trans (Turn.of_grown (F:=Zn.has ⟨g,bv,bg,.slice A0 vs.length c0⟩) hg3 (fun z hz=>by injection hz with hz;exact .inr (.inl hz.symm))) (fun b h=> .inl h)
   ·rcases hb with h|h|h|h
    ·exact .inl (.inl h)
    ·exact .inl (.inr (.inl h))
    ·exact .inl (.inr (.inr (.inl h)))
    ·simp only at h;rcases hat with h1|h1
     ·exact .inl (.inr (.inr (.inr (by simp only;rw [←h1];exact h))))
     ·rw [h1]at h;injection h with h
      right;rw [←h];simp
 obtain⟨fn',caps',hf,hcall⟩:=z6u (w:=w1.setCell ⟨g,4,none⟩ (.slice A1 k1 c1)) (v:=pv) (n:=n) (p2 (p1 (hp.later qa))) hpo v2 hok.view hn
  (Q:=fun e w'=>e= .returned (.tuple #[])∧Dk w' ⟨g,bv,bg,.slice A1 k1 c1⟩ (D.put p n)∧Stp ⟨g,bv,bg,.slice A0 vs.length c0⟩ w ⟨g,bv,bg,.slice A1 k1 c1⟩ w') hQ
 obtain⟨caps,hpv,harg⟩:=hv;rw [hpv]at hf;injection hf with hf1 hf2 hf3
 injection hf1 with hf1
 subst hf1 hf3;exact hcall args harg
theorem zFt(h:Zn)(D:Dsk)(pv:Value)(p:Pnd)(n:Int)(w:World)(hd:Dk w h D)(hok:D.Ok)(hp:PnIs w pv p)(hpo:zEA p)(hn:InI n)(hlen:D.pend.length≤1000000000):
 Calls Tryz.prog 146 #[.pointer (some ⟨h.g,0,none⟩),pv,.int .i64 n] w fun e w'=>e= .returned (.tuple #[])∧∃h',Dk w' h' (D.put p n)∧Stp h w h' w':=by
 obtain⟨g,bv,bg,sl⟩:=h;obtain⟨vs,hown,hpl⟩:=hd.pend;have hvl:=hpl.1;obtain⟨A0,c0,hsl,_⟩:=Ow.shape hown;simp only at hsl hown;subst hsl;have hd4:w.cell? ⟨g,4,none⟩=some (.slice A0 vs.length c0):=hd.blk.cell 4;have HD:=zz hd;have HO:=zz (Ow.later hown ((Below.refl _ _).alloc (Nat.le_refl _) (.cells #[pv] 124)));have HOK:=zz hok;have HP:=zz hp;have HPL:=zz hpl;have HVL:=zz hvl;have hvb:vs.length≤1000000000:=by omega
 have hgl:g<w.heap.size:=hd.blk.lt;clear hd hok hp hpl hown hvl;cases p with
 |wr a b=>
  obtain⟨ga,_,_,rfl,_⟩:=HP.out;go_enter Tryz.func146,Tryz.ntmps146
  go_wp2_with (first
   |(at_builtin;refine z02 _ rfl (.tmp 10) (.tmp 12) zHx rfl HO.out (Sl.new1 (S:=fun _=>True) _ _ _ rfl trivial) rfl rfl (by intro y hy;simp at hy;subst hy;rfl) (by simp only [maxLen];omega) (by omega) (Nat.zero_le _) ?_;intro A1 k1 c1 w1 hown1 hga hat1;have hblk:=((HD.out.blk.alloc _).kept HO.out hga (by decide));have hd4:w1.cell? ⟨g,4,none⟩=some (.slice A0 vs.length c0):=hblk.cell 4;have hf4:=hblk.free 4;have hd2:w1.cell? ⟨g,2,none⟩=some (.map (some bv)):=hblk.cell 2)
   |fail)
  refine(zEZ HD.out HOK.out HP.out hpo hn HO.out HPL.out hown1 hga hat1 ⟨_,rfl,rfl⟩).mono ?_;rintro e w3 ⟨rfl,hd3,hs3⟩;go_wp2_with fail
  go_end0
  exact⟨rfl,_,hd3,hs3⟩
 |fr a=>
  obtain⟨ga,rfl,_⟩:=HP.out;go_enter Tryz.func146,Tryz.ntmps146
  go_wp2_with (first
   |(at_builtin;refine z02 _ rfl (.tmp 10) (.tmp 12) zHx rfl HO.out (Sl.new1 (S:=fun _=>True) _ _ _ rfl trivial) rfl rfl (by intro y hy;simp at hy;subst hy;rfl) (by simp only [maxLen];omega) (by omega) (Nat.zero_le _) ?_;intro A1 k1 c1 w1 hown1 hga hat1;have hblk:=((HD.out.blk.alloc _).kept HO.out hga (by decide));have hd4:w1.cell? ⟨g,4,none⟩=some (.slice A0 vs.length c0):=hblk.cell 4;have hf4:=hblk.free 4;have hd2:w1.cell? ⟨g,2,none⟩=some (.map (some bv)):=hblk.cell 2)
   |fail)
  refine(zEZ HD.out HOK.out HP.out hpo hn HO.out HPL.out hown1 hga hat1 ⟨_,rfl,rfl⟩).mono ?_;rintro e w3 ⟨rfl,hd3,hs3⟩;go_wp2_with fail
  go_end0
  exact⟨rfl,_,hd3,hs3⟩
theorem Dk.look{w:World}{h:Zn}{D:Dsk}(d:Dk w h D){a:Int}(ha:InI a):∃v,(Instr.lookup 73 (.map (some h.bv)) (.int .i64 a) true).run Tryz.prog w= .ok (.tuple #[v,.bool (D.view a).isSome]) w∧
 ∀l,D.view a=some l→Ub w 0 v l:=by
 obtain⟨m,hm,hr⟩:=d.view;have hs:=hr a ha;refine⟨_,by rw [←hs.some_iff];exact hm.look z1P z5s (z3t w) ha,fun l hl=> ?_⟩;rw [hl]at hs;cases hma:m a with
 |none=>rw [hma]at hs;exact hs.elim
 |some v=>rw [hma]at hs;exact hs
theorem Dk.len{w:World}{h:Zn}{D:Dsk}(d:Dk w h D)(n:Nat)(ty:TypeId):(Builtin.len_ #[73] ty #[.map (some h.bv)]).run Tryz.prog (w.drewN n)= .ok (.int .i64 (D.nv:Int)) (w.drewN n):=by
 obtain⟨m,hm,hr⟩:=d.view;have h2:MpV Tryz.prog 3 (w.drewN n) h.bv m D.nv:=hm.at rfl;exact h2.len z1P z5s ty
theorem z4w(h:Zn)(D:Dsk)(a:Int)(w:World)(hd:Dk w h D)(hok:D.Ok)(ha:InI a):
 Calls Tryz.prog 88 #[.pointer (some ⟨h.g,0,none⟩),.int .i64 a] w fun e w'=>
  (∀l,D.view a=some l→∃A c,e= .returned (.tuple #[.slice A l.length c,.int .i64 0])∧Ob 5 w' w.heap.size (.slice A l.length c) l)∧
  (D.view a=none→e= .returned (.tuple #[.slice none 0 0,.int .i64 61]))∧Below w.heap.size w w':=by
 obtain⟨v,hlk,hv⟩:=hd.look ha;have hd2:w.cell? ⟨h.g,2,none⟩=some (.map (some h.bv)):=hd.blk.cell 2;have HV:=zz hv;have HOK:=zz hok;cases hva:D.view a with
 |none=>
  rw [hva]at hlk;simp only [Option.isSome_none]at hlk;clear hd hv hok;go_enter Tryz.func88,Tryz.ntmps88
  go_wp2_with fail
  go_ret2
  exact⟨(fun l h=>by cases h),fun _=>rfl,Below.refl _ _⟩
 |some l=>
  rw [hva]at hlk;simp only [Option.isSome_some]at hlk;have hub:=hv l hva;obtain⟨A,c,rfl,_⟩:=hub.bs.at;have HU:=zz hub;have hll:l.length≤512:=(hok.view.at hva).2.2;clear hd hv hok hub HV;go_enter Tryz.func88,Tryz.ntmps88
  go_wp2_with (first
   |(at_builtin;refine z04 _ rfl (.tmp 19) (.tmp 20) z10 rfl (Ob.made _ _ w.heap.size (Nat.le_refl _) (by simp)) (Sl.alloc1 HU.out _) rfl rfl (by simp;omega) (by simp) ?_;intro A1 k1 c1 w1 hown1 hga1 hat1)
   |fail)
  go_ret2
  have q:Below w.heap.size w w1:=z01 ((Below.refl _ _).alloc (Nat.le_refl _) _) (Ob.made _ _ w.heap.size (Nat.le_refl _) (by simp)) hga1 (by simp);have ho:Ob 5 w1 w.heap.size (.slice A1 k1 c1) l:=by simpa using hown1
  obtain rfl:=ho.len;exact⟨fun l' h'=>(by cases h';exact⟨A1,c1,rfl,ho⟩),(fun h=>by cases h),q⟩
def Dsk.freeE(D:Dsk)(a:Int):Nat:=if(D.view a).isSome then 0 else 61
theorem zF4(h:Zn)(D:Dsk)(a:Int)(w:World)(hd:Dk w h D)(hok:D.Ok)(ha:InI a)(hlen:D.pend.length≤1000000000):
 Calls Tryz.prog 136 #[.pointer (some ⟨h.g,0,none⟩),.int .i64 a] w fun e w'=>e= .returned (.int .i64 (D.freeE a:Int))∧∃h',Dk w' h' (D.free a)∧Stp h w h' w':=by
 obtain⟨v,hlk,hv⟩:=hd.look ha;have hd2:w.cell? ⟨h.g,2,none⟩=some (.map (some h.bv)):=hd.blk.cell 2;have HD:=zz hd;have HOK:=zz hok;cases hva:D.view a with
 |none=>
  rw [hva]at hlk;simp only [Option.isSome_none]at hlk;have HF:Hid (D.free a=D):=by unfold Dsk.free;rw [Hid,hva];rfl
  have HFE:Hid (D.freeE a=61):=by unfold Dsk.freeE;rw [Hid,hva];rfl
  clear hd hv hok;go_enter Tryz.func136,Tryz.ntmps136
  go_wp2_with fail
  go_ret
  exact⟨by rw [HFE.out];rfl,h,by rw [HF.out];exact HD.out,Stp.refl _ _⟩
 |some l=>
  rw [hva]at hlk;simp only [Option.isSome_some]at hlk;have HF:Hid (D.free a=D.put (.fr a) 0):=by unfold Dsk.free;rw [Hid,hva];rfl
  have HFE:Hid (D.freeE a=0):=by unfold Dsk.freeE;rw [Hid,hva];rfl
  have hpo:zEA (.fr a):=by have:=hok.view.at hva;exact⟨this.1,this.2.1⟩
  have HP:=zz hpo;clear hd hv hok hpo;go_enter Tryz.func136,Tryz.ntmps136
  go_wp2_with fail
  refine(zBU a w).mono ?_;rintro e w1 ⟨pv,rfl,hpn,hbl⟩;go_wp2_with fail
  refine(zFt h D pv (.fr a) 0 w1 (HD.out.later hbl) HOK.out hpn HP.out (by unfold InI;omega) hlen).mono ?_;rintro e w2 ⟨rfl,h',hd',hs'⟩;go_wp2_with fail
  go_ret
  exact⟨by rw [HFE.out];rfl,h',by rw [HF.out];exact hd',(Stp.below hbl).trans hs'⟩
theorem z8T(h:Zn)(D:Dsk)(a:Int)(S:Nat→Prop)(v0:Value)(b:List UInt8)(w:World)(hd:Dk w h D)(hok:D.Ok)(ha:InI a)(hb:Bs S w v0 b)(hbl:b.length≤1099511627776)(hlen:D.pend.length≤1000000000):
 Calls Tryz.prog 135 #[.pointer (some ⟨h.g,0,none⟩),.int .i64 a,v0] w fun e w'=>e= .returned (.int .i64 (D.why a b:Int))∧∃h',Dk w' h' (D.write a b)∧Stp h w h' w':=by
 obtain⟨v,hlk,hv⟩:=hd.look ha;obtain⟨A,c,rfl,_⟩:=hb.at;have hd0:w.cell? ⟨h.g,0,none⟩=some (.int .i64 D.size):=hd.blk.cell 0;have hd1:w.cell? ⟨h.g,1,none⟩=some (.int .i64 D.limit):=hd.blk.cell 1;have hd2:w.cell? ⟨h.g,2,none⟩=some (.map (some h.bv)):=hd.blk.cell 2;have HD:=zz hd;have HOK:=zz hok;have HB:=zz hb;have HA:=zz ha;have hln:=fun n ty=>hd.len n ty
 have hwy:Hid (D.why a b=if a<0∨D.size≤a then 61 else if 512<b.length then 62 else if(D.view a).isNone∧D.limit≤(D.nv:Int)then 63 else 0):=rfl;have HWR:Hid (D.write a b=if D.why a b=0 then D.put (.wr a b) b.length else D):=rfl;clear hd hok hv hb ha;by_cases c1:a<0∨D.size≤a
 ·have HW:Hid (D.why a b=61):=by rw [Hid,hwy.out,if_pos c1]
  have HE:Hid (D.write a b=D):=by rw [Hid,HWR.out,HW.out];rfl
  rcases Decidable.em (a<0)with h0|h0
  case' inl=>have hx:=h0
  case' inr=>have hx:D.size≤a:=c1.resolve_left h0
  all_goals
   clear c1;go_enter Tryz.func135,Tryz.ntmps135
   go_wp2_with fail
   go_ret
   exact⟨by rw [HW.out];rfl,h,by rw [HE.out];exact HD.out,Stp.refl _ _⟩
 ·have c11:¬a<0:=fun e=>c1 (.inl e)
  have c12:¬D.size≤a:=fun e=>c1 (.inr e)
  by_cases c2:512<b.length
  ·have HW:Hid (D.why a b=62):=by rw [Hid,hwy.out,if_neg c1,if_pos c2]
   have HE:Hid (D.write a b=D):=by rw [Hid,HWR.out,HW.out];rfl
   clear c1;go_enter Tryz.func135,Tryz.ntmps135
   go_wp2_with fail
   go_ret
   exact⟨by rw [HW.out];rfl,h,by rw [HE.out];exact HD.out,Stp.refl _ _⟩
  ·obtain⟨U,hU⟩:∃U,(D.view a).isSome=U:=⟨_,rfl⟩;rw [hU]at hlk;by_cases c3:(D.view a).isNone∧D.limit≤(D.nv:Int)
   ·have HW:Hid (D.why a b=63):=by rw [Hid,hwy.out,if_neg c1,if_neg c2,if_pos c3]
    have HE:Hid (D.write a b=D):=by rw [Hid,HWR.out,HW.out];rfl
    have hUf:U=false:=by rw [←hU];have:=c3.1;cases h1:D.view a<;>simp_all
    subst hUf;have c31:=c3.2;clear c1 c3 hU;go_enter Tryz.func135,Tryz.ntmps135
    go_wp2_with fail
    go_quiet (fail)
    go_wp2_with fail
    go_ret
    exact⟨by rw [HW.out];rfl,h,by rw [HE.out];exact HD.out.later (below_drewN (Below.refl _ _) _),Stp.below (below_drewN (Below.refl _ _) _)⟩
   ·have HW:Hid (D.why a b=0):=by rw [Hid,hwy.out,if_neg c1,if_neg c2,if_neg c3]
    have HE:Hid (D.write a b=D.put (.wr a b) b.length):=by rw [Hid,HWR.out,HW.out];rfl
    have HPO:Hid (zEA (.wr a b)):=by
     have:=zCd HW.out;have h2:=HOK.out.size;exact⟨this.1,by omega,this.2.2⟩
    have hcase:U=true∨U=false∧¬D.limit≤(D.nv:Int):=by
     cases h1:D.view a with
     |none=>right;rw [←hU,h1];exact⟨rfl,fun e=>c3 ⟨by rw [h1];rfl,e⟩⟩
     |some l=>left;rw [←hU,h1];rfl
    clear c1 c3 hU;rcases hcase with rfl|⟨rfl,c31⟩
    all_goals
     go_enter Tryz.func135,Tryz.ntmps135
     go_wp2_with fail
     go_quiet (fail)
     have hq0:Below w.heap.size w (w.drewN nq):=below_drewN (Below.refl _ _) _;have HBW:Hid (Bs S (w.drewN nq) (.slice A b.length c) b):=HB.out;have HDW:Hid (Dk (w.drewN nq) h D):=HD.out.later hq0;generalize w.drewN nq=W at*;go_wp2_with (first
      |(at_builtin;refine z04 _ rfl (.tmp 48) (.tmp 49) z10 rfl (Ob.made _ _ W.heap.size (Nat.le_refl _) (by simp)) (Sl.alloc1 HBW.out _) rfl rfl (by simp;omega) (by simp) ?_;intro A1 k1 c1 w1 hown1 hga1 hat1;have hob:Ob 5 w1 W.heap.size (.slice A1 k1 c1) b:=(by simpa using hown1);have hk1:=hob.len;subst hk1)
      |fail)
     have q1:Below W.heap.size W w1:=z01 ((Below.refl _ _).alloc (Nat.le_refl _) _) (Ob.made _ _ W.heap.size (Nat.le_refl _) (by simp)) hga1 (by simp);refine(zB6 a A1 c1 b w1 ((Ub.of_own hob).lower (Nat.zero_le _))).mono ?_;rintro e w2 ⟨pv,rfl,hpn,hbl2⟩;have q2:Below W.heap.size W w2:=q1.trans (hbl2.mono q1.size);go_wp2_with fail
     refine(zFt h D pv (.wr a b) b.length w2 (HDW.out.later q2) HOK.out hpn HPO.out (by unfold InI;omega) hlen).mono ?_;rintro e w3 ⟨rfl,h',hd',hs'⟩;go_wp2_with fail
     go_ret
     exact⟨by rw [HW.out];rfl,h',by rw [HE.out];exact hd',(Stp.below (hq0.trans (q2.mono hq0.size))).trans hs'⟩
theorem Dk.parts{w w':World}{h:Zn}{D:Dsk}(d:Dk w h D)(hg:w.grownBy w' (some h.g)):Secs w' h.bv D.view D.nv∧Secs w' h.bg D.ground D.ng∧∃vs,Ow 124 w' 0 h.pv vs∧PnL w' vs D.pend:=by
 have kd:=z0K d.blk;obtain⟨vs,h1,h2⟩:=d.pend;refine⟨d.view.other (fun e=> ?_) (by rw [kd];decide) hg,d.ground.other (fun e=> ?_) (by rw [kd];decide) hg,vs,h1.other (fun e=> ?_) hg,h2.keep fun v p hp=>hp.other (fun t ht=> ?_) hg⟩
 ·have:=d.view.kind;rw [e,kd]at this;cases this
 ·have:=d.ground.kind;rw [e,kd]at this;cases this
 ·have:=z1V h1 e;rw [kd]at this;revert this;decide
 ·rw [kd];revert ht;simp only [z2l,List.mem_cons,List.not_mem_nil,or_false];rintro(rfl|rfl|rfl)<;>decide
theorem zGI(h:Zn)(D:Dsk)(w:World)(hd:Dk w h D)(hok:D.Ok):
 Calls Tryz.prog 102 #[.pointer (some ⟨h.g,0,none⟩)] w fun e w'=>e= .returned (.tuple #[])∧∃h',Dk w' h' D.sync∧Stp h w h' w':=by
 obtain⟨g,bv,bg,sl⟩:=h;have hd2:w.cell? ⟨g,2,none⟩=some (.map (some bv)):=hd.blk.cell 2;have HD:=zz hd;have HOK:=zz hok;clear hd hok;go_enter Tryz.func102,Tryz.ntmps102
 go_wp2_with fail
 refine(z8Z bv D.nv D.view w HD.out.view HOK.out.view).mono ?_;rintro e w1 ⟨bo,rfl,hbo,hs,hbl⟩;have hd1:=HD.out.later hbl;have HD1:=zz hd1;have HS:=zz hs;have c3:w1.cell? ⟨g,3,none⟩=some (.map (some bg)):=hd1.blk.cell 3;have c4:w1.cell? ⟨g,4,none⟩=some sl:=hd1.blk.cell 4;have f3:=hd1.blk.free 3;have f4:=hd1.blk.free 4;have HBL:=zz hbl;have hbv:=HD.out.view.lt;clear hd1 hs hbl;go_wp2_with fail
 go_end0
 have kd:=z0K HD1.out.blk;have p1:=HD1.out.parts (z2U (g:=g) (i:=3) (.map (some bo)));have b1:=HD1.out.blk.put 3 (.map (some bo));have gg:=z2U (w:=w1.setCell ⟨g,3,none⟩ (.map (some bo))) (g:=g) (i:=4) (.slice none 0 0);have kd1:=z0K b1;have hk:∀ {b n:Nat} {f:SF},Secs w1 b f n→Secs ((w1.setCell ⟨g,3,none⟩ (.map (some bo))).setCell ⟨g,4,none⟩ (.slice none 0 0)) b f n:=fun hs=>by
  have h1:=hs.other (z:=g) (fun e=>by have:=hs.kind;rw [e]at this;rw [kd]at this;cases this) (by rw [kd];decide) (z2U (g:=g) (i:=3) (.map (some bo)));exact h1.other (z:=g) (fun e=>by have:=h1.kind;rw [e]at this;rw [kd1]at this;cases this) (by rw [kd1];decide) gg
 refine⟨rfl,⟨g,bv,bo,.slice none 0 0⟩,⟨b1.put 4 _,hk HD1.out.view,hk HS.out,fun e=>by simp only at e hbv;omega,[],World.ownsRow_nil _ _ _ _,PnL.nil _⟩,rfl,((Turn.of_below HBL.out).setCell (.inl (.inl rfl)) _).setCell (.inl (.inl rfl)) _,fun b hb=> ?_⟩;rcases hb with h|h|h|h
 ·exact .inl (.inl h)
 ·exact .inl (.inr (.inl h))
 ·right;simp only at h;omega
 ·cases h
def pcs(l:List (Int×Int)):List Value:=l.flatMap fun x=> [.int .i64 x.1,.int .i64 x.2]
theorem zFd(l:List (Int×Int)):(pcs l).length=l.length*2:=by
 induction l with
 |nil=>rfl
 |cons r rs ih=>simp only [pcs,List.flatMap_cons,List.length_append,List.length_cons,List.length_nil]at ih ⊢;omega
theorem zCI{l:List (Int×Int)}{j:Nat}(h:j<l.length):(pcs l)[j*2]? =some (.int .i64 l[j].1)∧(pcs l)[j*2+1]? =some (.int .i64 l[j].2):=by
 induction l generalizing j with
 |nil=>simp at h
 |cons r rs ih=>
  rcases j with _|j
  ·simp [pcs]
  ·have:=ih (j:=j) (by simpa using h);simp only [pcs,List.flatMap_cons]at this ⊢;rw [show(j+1)*2=j*2+1+1 by omega];simpa using this
def Sv(S:Nat→Prop)(w:World)(v:Value)(l:List (Int×Int)):Prop:=Sl S w 2 v l.length (pcs l)
theorem Sv.at{S:Nat→Prop}{w:World}{v:Value}{l:List (Int×Int)}(h:Sv S w v l):∃A c,v= .slice A l.length c∧
 (0<l.length→∃b o,A=some ⟨b,o,none⟩∧b<w.heap.size∧∀j (hj:j<l.length),w.cell? ⟨b,o+j*2,none⟩=some (.int .i64 l[j].1)∧w.cell? ⟨b,o+j*2+1,none⟩=some (.int .i64 l[j].2)):=by
 obtain⟨_,A,c,h2,h3,h4,h5,h6⟩:=h;refine⟨A,c,h2,fun hn=> ?_⟩;obtain⟨b,o,ha,hs,hc⟩:=h6 hn;have h0:=hc _ _ (zCI hn).1;refine⟨b,o,ha,World.block_lt_of_cell? w _ h0,fun j hj=>⟨hc _ _ (zCI hj).1,?_⟩⟩;rw [Nat.add_assoc];exact hc _ _ (zCI hj).2
def z88(l:List (Int×Int))(a:Int):Option Int:=(l.find? fun x=>x.1==a).map (·.2)
theorem zD8{l:List (Int×Int)}{i:Nat}(h:i<l.length)(a:Int):z88 (l.drop i) a=if a=l[i].1 then some l[i].2 else z88 (l.drop (i+1)) a:=by
 unfold z88;rw [List.drop_eq_getElem_cons h];by_cases ha:a=l[i].1
 ·rw [if_pos ha,List.find?_cons_of_pos (by simp [ha])];rfl
 ·rw [if_neg ha,List.find?_cons_of_neg (by simp;exact fun e=>ha e.symm)]
theorem z7k(l:List (Int×Int)):∀ (ps:List Pnd) (p:Pnd) (k:Nat) (s:SF×Nat),z0h l k (ps++ [p]) s=match zE6 l (k+ps.length)with|some n=>doP (z0h l k ps s) p n|none=>z0h l k ps s
 | [],p,k,s=>by
   simp only [List.nil_append,z0h,List.length_nil,Nat.add_zero]
   all_goals (cases zE6 l k<;>rfl)
 |q::ps,p,k,s=>by
  rw [List.cons_append,z0h,z7k l ps p (k+1)];rw [show k+1+ps.length=k+(q::ps).length by simp;omega];rfl
theorem zHO{l:List (Int×Int)}(h:∀x∈l,InI x.1∧InI x.2){a n:Int}(hf:z88 l a=some n):InI n:=by
 unfold z88 at hf;cases hfd:l.find? (fun x=>x.1==a)with
 |none=>rw [hfd]at hf;cases hf
 |some x=>
  rw [hfd]at hf;simp only [Option.map_some,Option.some.injEq]at hf;subst hf;exact(h x (List.mem_of_find?_eq_some hfd)).2
theorem miTy:Tryz.prog.underlying 89=some (.map 3 3):=Tryz.underlying89
theorem zJ1(w:World):(zeroValue 3).run Tryz.prog w= .ok (.int .i64 0) w:=by kernel_rfl
theorem z5t{w:World}{v:Value}{p:Pnd}{bm n0:Nat}{f:SF}{n:Int}(hp:PnIs w v p)(hpo:zEA p)(hs:Secs w bm f n0)(hf:FinK f n0)(hn:InI n){fn:FuncId}{args:Array Value}
 (hv:∃caps,v= .func (Fn.func fn) #[] caps∧args= #[.map (some bm),.int .i64 n]++caps):
 Calls Tryz.prog fn args w fun e w'=>e= .returned (.tuple #[])∧Secs w' bm (doP (f,n0) p n).1 (doP (f,n0) p n).2∧w.grownBy w' (some bm):=by
 obtain⟨fn',caps',hf',hcall⟩:=z6u hp hpo hs hf hn (Q:=fun e w'=>e= .returned (.tuple #[])∧Secs w' bm (doP (f,n0) p n).1 (doP (f,n0) p n).2∧w.grownBy w' (some bm)) (fun w' h1 h2=>⟨rfl,h1,h2⟩);obtain⟨caps,hpv,harg⟩:=hv;rw [hpv]at hf';injection hf' with hf1 hf2 hf3
 injection hf1 with hf1
 subst hf1 hf3;exact hcall args harg
structure CrSt(w wr:World)(h:Zn)(D:Dsk)(l:List (Int×Int))(vs:List Value)(i nl:Nat):Prop where
 blk:Blk wr h.g 76 #[.int .i64 D.size,.int .i64 D.limit,.map (some h.bv),.map (some h.bg),h.pv]
 ground:Secs wr h.bg (z0h l 0 (D.pend.take i) (D.ground,D.ng)).1 (z0h l 0 (D.pend.take i) (D.ground,D.ng)).2
 pend:Ow 124 wr 0 h.pv vs∧PnL wr vs D.pend
 left:∃lm,MpV Tryz.prog 3 wr w.heap.size lm nl∧∀a,InI a→lm a=(z88 l a).map (Value.int .i64)
 turn:Turn h.has w wr
 bgl:h.bg<w.heap.size
theorem z9x{w wr w3:World}{h:Zn}{D:Dsk}{l:List (Int×Int)}{vs:List Value}{i nl:Nat}(hst:CrSt w wr h D l vs i nl)
 (hs3:Secs w3 h.bg (z0h l 0 (D.pend.take (i+1)) (D.ground,D.ng)).1 (z0h l 0 (D.pend.take (i+1)) (D.ground,D.ng)).2) (hg3:wr.grownBy w3 (some h.bg)):CrSt w w3 h D l vs (i+1) nl:=by
 have kv:=hst.ground.kind;obtain⟨lm,hlm,hlv⟩:=hst.left;refine⟨hst.blk.grown hg3 (fun e=> ?_),hs3,⟨hst.pend.1.other (fun e=> ?_) hg3,hst.pend.2.keep fun v p hp=>hp.other (fun t ht=>by rw [kv];simp) hg3⟩,⟨lm,?_,hlv⟩,hst.turn.trans (Turn.of_grown (F:=h.has) hg3 (fun z hz=>by injection hz with hz;exact .inr (.inr (.inl hz.symm)))) (fun b hb=> .inl hb),hst.bgl⟩
 ·injection e with e
  have e2:h.g=h.bg:=by first|exact e|exact e.symm
  exact absurd ((z0K hst.blk).symm.trans ((congrArg (z0H _) e2).trans kv)) (by simp)
 ·have:=z1V hst.pend.1 e;rw [kv]at this;cases this
 ·exact hlm.other (by have:=hst.bgl;omega) hg3
theorem zDW(h:Zn)(D:Dsk)(S:Nat→Prop)(v0:Value)(l:List (Int×Int))(w:World)(hd:Dk w h D)(hok:D.Ok)(hsv:Sv S w v0 l)(hin:∀x∈l,InI x.1∧InI x.2)(hll:l.length≤1000000)(hlen:D.pend.length≤1000000000):
 Calls Tryz.prog 25 #[.pointer (some ⟨h.g,0,none⟩),v0] w fun e w'=>e= .returned (.tuple #[])∧∃h',Dk w' h' (D.crash l)∧Stp h w h' w':=by
 obtain⟨g,bv,bg,sl⟩:=h;obtain⟨A,c,rfl,hA⟩:=hsv.at;have HA:=zz hA;have HD:=zz hd;have HOK:=zz hok;have HIN:=zz hin;have hmm:= @run_makeMap Tryz.prog;have hM0:Hid (MpV Tryz.prog 3 (w.alloc (.map #[] 0)) w.heap.size (fun _=>none) 0):=MpV.made _ _ w;have q0:Below w.heap.size w (w.alloc (.map #[] 0)):=(Below.refl _ _).alloc (Nat.le_refl _) _;clear hd hok hin hA hsv;go_enter Tryz.func25,Tryz.ntmps25
 go_wp2_with fail
 go_loopw [5] (fun iv wr=>∃ (i:Nat) (lm:Int→Option Value) (nl:Nat),iv= .int .i64 ((i:Int)-1)∧i≤l.length∧nl≤l.length-i∧MpV Tryz.prog 3 wr w.heap.size lm nl∧Hid (∀a,InI a→lm a=(z88 (l.drop i) a).map (Value.int .i64))∧Below w.heap.size w wr) (fun iv _=>(intOf iv+1).toNat)
 case atStart=>
  exact⟨l.length,_,0,rfl,Nat.le_refl _,by omega,hM0.out,fun a _=>by rw [List.drop_length];rfl,q0⟩
 case round=>
  obtain⟨i,lm,nl,rfl,hi,hnl,hm,hlm,hbl⟩:=hrel;have HM:=zz hm;clear hm;rcases i with _|j
  ·have HLM:Hid (∀a,InI a→lm a=(z88 l a).map (Value.int .i64)):=fun a ha=>by have:=hlm.out a ha;rw [List.drop_zero]at this;exact this
   obtain⟨vs,hown,hpl⟩:=HD.out.pend;obtain⟨A0,c0,hsl,hsA⟩:=Ow.shape hown;simp only at hsl;subst hsl;have HVL:=zz hpl.1;have hvb:vs.length≤1000000000:=by have:=hpl.1;omega
   have hbvl:=HD.out.view.lt;have hbgl:=HD.out.ground.lt;have hgl:=HD.out.blk.lt;simp only at hbvl hbgl hgl;have qr:=hbl;have hsz:=qr.size;have d1:=HD.out.later qr;have HSA:Hid (0<vs.length→∃g',A0=some ⟨g',0,none⟩):=fun h0=>by obtain⟨g',h1,_⟩:=hsA h0;exact⟨g',h1⟩
   have S0:CrSt w wr ⟨g,bv,bg,.slice A0 vs.length c0⟩ D l vs 0 nl:=⟨d1.blk,by rw [List.take_zero];exact d1.ground,⟨Ow.later hown qr,hpl.keep fun _ _ h=>h.later qr⟩,⟨lm,HM.out,HLM.out⟩,Turn.of_below qr,hbgl⟩;have c4:wr.cell? ⟨g,4,none⟩=some (.slice A0 vs.length c0):=d1.blk.cell 4;clear d1 hsA hpl hown hlm hbl HM HLM qr;go_wp2_with fail
   go_loopw [34] (fun iv wq=>∃i:Nat,iv= .int .i64 (i:Int)∧i≤vs.length∧CrSt w wq ⟨g,bv,bg,.slice A0 vs.length c0⟩ D l vs i nl) (fun iv _=>vs.length-(intOf iv).toNat)
   case atStart=>exact⟨0,rfl,Nat.zero_le _,S0⟩
   case round=>
    clear S0;obtain⟨i,rfl,hi,hst⟩:=hrel;have HST:=zz hst;have c2:wr.cell? ⟨g,2,none⟩=some (.map (some bv)):=hst.blk.cell 2;have c3:wr.cell? ⟨g,3,none⟩=some (.map (some bg)):=hst.blk.cell 3;have c4:wr.cell? ⟨g,4,none⟩=some (.slice A0 vs.length c0):=hst.blk.cell 4;have HFK:Hid (FinK (z0h l 0 (D.pend.take i) (D.ground,D.ng)).1 (z0h l 0 (D.pend.take i) (D.ground,D.ng)).2):=z6o l _ 0 _ HOK.out.ground fun p hp=>HOK.out.pend p (List.mem_of_mem_take hp)
    have hlenv:=HVL.out;by_cases hil:i<vs.length
    ·obtain⟨g',c',hv',_,hg'l,hcells,_⟩:=Ow.open hst.pend.1 (by omega);injection hv' with hA' _ hc'
     subst hA' hc';have cp:wr.cell? ⟨g',i,none⟩=some vs[i]:=hcells i hil;have hps:i<D.pend.length:=by omega
     have hpn:=hst.pend.2.2 i vs[i] D.pend[i] (List.getElem?_eq_getElem hil) (List.getElem?_eq_getElem hps);obtain⟨lm,hlm,hlv⟩:=hst.left;have hii:InI (i:Int):=by unfold InI;omega
     have hlk:=hlm.look z1P miTy (zJ1 wr) hii;rw [hlv _ hii]at hlk;have HEQ:Hid (z0h l 0 (D.pend.take (i+1)) (D.ground,D.ng)=match z88 l (i:Int)with|some n=>doP (z0h l 0 (D.pend.take i) (D.ground,D.ng)) D.pend[i] n|none=>z0h l 0 (D.pend.take i) (D.ground,D.ng)):=by
      rw [Hid,List.take_succ_eq_append_getElem hps,z7k,List.length_take,Nat.zero_add,Nat.min_eq_left (Nat.le_of_lt hps)];rfl
     obtain⟨vq,hvq0⟩:∃v,vs[i]=v:=⟨_,rfl⟩;rw [hvq0]at cp hpn;have hiv:(i:Int)<(vs.length:Int):=by omega
     have hi0:(0:Int)≤(i:Int):=by omega
     clear hst hcells hlm hlv hvq0 hlenv;cases hk:z88 l (i:Int)with
     |none=>
      rw [hk]at hlk;simp only [Option.map_none,Option.getD_none,Option.isSome_none]at hlk;have HEQ2:Hid (z0h l 0 (D.pend.take (i+1)) (D.ground,D.ng)=z0h l 0 (D.pend.take i) (D.ground,D.ng)):=by rw [Hid,HEQ.out,hk]
      cases hpe:D.pend[i]with
      |wr a b=>
       rw [hpe]at hpn;obtain⟨ga,Ab,cb,hvq,_⟩:=hpn;rw [hvq]at cp;clear hpe;go_wp2_with fail
       go_roundw
       case rel=>exact⟨i+1,by go_num,by omega,⟨HST.out.blk,by rw [HEQ2.out];exact HST.out.ground,HST.out.pend,HST.out.left,HST.out.turn,HST.out.bgl⟩⟩
       case measure=>simp [intOf];omega
      |fr a=>
       rw [hpe]at hpn;obtain⟨ga,hvq,_⟩:=hpn;rw [hvq]at cp;clear hpe;go_wp2_with fail
       go_roundw
       case rel=>exact⟨i+1,by go_num,by omega,⟨HST.out.blk,by rw [HEQ2.out];exact HST.out.ground,HST.out.pend,HST.out.left,HST.out.turn,HST.out.bgl⟩⟩
       case measure=>simp [intOf];omega
     |some n=>
      rw [hk]at hlk;simp only [Option.map_some,Option.getD_some,Option.isSome_some]at hlk;have hnI:InI n:=zHO HIN.out hk;rw [hk]at HEQ;simp only at HEQ;cases hpe:D.pend[i]with
      |wr a b=>
       rw [hpe]at hpn;have HPN:=zz hpn;have HEQ2:Hid (z0h l 0 (D.pend.take (i+1)) (D.ground,D.ng)=doP (z0h l 0 (D.pend.take i) (D.ground,D.ng)) (.wr a b) n):=by rw [Hid,HEQ.out,hpe]
       have HPO2:Hid (zEA (.wr a b)):=by rw [Hid,←hpe];exact HOK.out.pend _ (List.getElem_mem hps)
       obtain⟨ga,Ab,cb,hvq,_⟩:=hpn;rw [hvq]at cp;have HCC:Hid (∀args,(∃caps,vq= .func (Fn.func 154) #[] caps∧args= #[.map (some bg),.int .i64 n]++caps)→Calls Tryz.prog 154 args wr fun e w'=>e= .returned (.tuple #[])∧Secs w' bg (doP (z0h l 0 (D.pend.take i) (D.ground,D.ng)) (.wr a b) n).1 (doP (z0h l 0 (D.pend.take i) (D.ground,D.ng)) (.wr a b) n).2∧wr.grownBy w' (some bg)):=fun args hx=>z5t HPN.out HPO2.out HST.out.ground HFK.out hnI hx
       clear hpe;go_wp2_with fail
       refine Calls.mono (HCC.out _ ⟨_,hvq,rfl⟩) ?_;rintro e w3 ⟨rfl,hs3,hg3⟩;have HS3:=zz hs3;have HG3:=zz hg3;clear hs3 hg3;go_wp2_with fail
       go_roundw
       case rel=>
        repeat(apply Exists.intro)
        apply And.intro
        rotate_left 1
        ·rfl
        all_goals first
         |exact⟨i+1,by go_num,by omega,z9x HST.out (by rw [HEQ2.out];exact HS3.out) HG3.out⟩
         |exact undef
       case measure=>simp [intOf];omega
      |fr a=>
       rw [hpe]at hpn;have HPN:=zz hpn;have HEQ2:Hid (z0h l 0 (D.pend.take (i+1)) (D.ground,D.ng)=doP (z0h l 0 (D.pend.take i) (D.ground,D.ng)) (.fr a) n):=by rw [Hid,HEQ.out,hpe]
       have HPO2:Hid (zEA (.fr a)):=by rw [Hid,←hpe];exact HOK.out.pend _ (List.getElem_mem hps)
       obtain⟨ga,hvq,_⟩:=hpn;rw [hvq]at cp;have HCC:Hid (∀args,(∃caps,vq= .func (Fn.func 155) #[] caps∧args= #[.map (some bg),.int .i64 n]++caps)→Calls Tryz.prog 155 args wr fun e w'=>e= .returned (.tuple #[])∧Secs w' bg (doP (z0h l 0 (D.pend.take i) (D.ground,D.ng)) (.fr a) n).1 (doP (z0h l 0 (D.pend.take i) (D.ground,D.ng)) (.fr a) n).2∧wr.grownBy w' (some bg)):=fun args hx=>z5t HPN.out HPO2.out HST.out.ground HFK.out hnI hx
       clear hpe;go_wp2_with fail
       refine Calls.mono (HCC.out _ ⟨_,hvq,rfl⟩) ?_;rintro e w3 ⟨rfl,hs3,hg3⟩;have HS3:=zz hs3;have HG3:=zz hg3;clear hs3 hg3;go_wp2_with fail
       go_roundw
       case rel=>
        repeat(apply Exists.intro)
        apply And.intro
        rotate_left 1
        ·rfl
        all_goals first
         |exact⟨i+1,by go_num,by omega,z9x HST.out (by rw [HEQ2.out];exact HS3.out) HG3.out⟩
         |exact undef
       case measure=>simp [intOf];omega
    ·obtain rfl:i=vs.length:=by omega
     have HEQ:Hid (D.pend.take vs.length=D.pend):=by rw [Hid,HVL.out,List.take_length]
     clear hst hlenv;go_wp2_with fail
     refine(z8Z bg _ _ wr HST.out.ground HFK.out).mono ?_;rintro e w1 ⟨bo,rfl,hbo,hs,hbl⟩;have b1:=HST.out.blk.later hbl;have HB1:=zz b1;have HS:=zz hs;have HBL:=zz hbl;have c2:w1.cell? ⟨g,2,none⟩=some (.map (some bv)):=b1.cell 2;have c4:w1.cell? ⟨g,4,none⟩=some _:=b1.cell 4;have f2:=b1.free 2;have f4:=b1.free 4;clear b1 hs hbl;go_wp2_with fail
     go_end0
     have kd:=z0K HB1.out;have b2:=HB1.out.put 2 (.map (some bo));have kd1:=z0K b2;have hk:∀ {b n:Nat} {f:SF},Secs w1 b f n→Secs ((w1.setCell ⟨g,2,none⟩ (.map (some bo))).setCell ⟨g,4,none⟩ (.slice none 0 0)) b f n:=fun hs=>by
      have h1:=hs.other (z:=g) (fun e=>by have:=hs.kind;rw [e]at this;rw [kd]at this;cases this) (by rw [kd];decide) (z2U (g:=g) (i:=2) (.map (some bo)));exact h1.other (z:=g) (fun e=>by have:=h1.kind;rw [e]at this;rw [kd1]at this;cases this) (by rw [kd1];decide) (z2U (g:=g) (i:=4) (.slice none 0 0))
     have gr:=HST.out.ground.later HBL.out;have grl:=HST.out.ground.lt;rw [HEQ.out]at gr HS;have hszq:=HST.out.turn.size;refine⟨rfl,⟨g,bo,bg,.slice none 0 0⟩,⟨b2.put 4 _,hk HS.out,hk gr,fun e=>by simp only at e grl;omega,[],World.ownsRow_nil _ _ _ _,PnL.nil _⟩,rfl,((HST.out.turn.trans (Turn.of_below (F:=fun _=>False) HBL.out) (fun _ h=>h.elim)).setCell (.inl (.inl rfl)) _).setCell (.inl (.inl rfl)) _,fun b hb=> ?_⟩;rcases hb with h|h|h|h
     ·exact .inl (.inl h)
     ·right;simp only at h;omega
     ·exact .inl (.inr (.inr (.inl h)))
     ·cases h
  ·obtain⟨b,o,rfl,hbs,hc⟩:=HA.out (by omega);have hjl:j<l.length:=by omega
   have c0:wr.cell? ⟨b,o+j*2,none⟩=some (.int .i64 l[j].1):=(hbl.cell (p:=⟨b,o+j*2,none⟩) hbs).trans (hc j hjl).1;have c1:wr.cell? ⟨b,o+j*2+1,none⟩=some (.int .i64 l[j].2):=(hbl.cell (p:=⟨b,o+j*2+1,none⟩) hbs).trans (hc j hjl).2;have hj0:(0:Int)≤(j:Int):=by omega
   have hjc:(j:Int)<(l.length:Int):=by omega
   have HLM:=zz hlm.out;have hwj:IntKind.i64.wrap ((j:Int)-1)=(j:Int)-1:=IntWalk.i64_in _ (by omega);have hij:=HIN.out _ (List.getElem_mem hjl);have HFD:=zz (fun a=>zD8 hjl a);obtain⟨w3,hrun3,hm3,ht3⟩:=(MpV.drew HM.out).put z1P miTy (by unfold maxLen;omega) hij.1 (.int .i64 l[j].2);have HM3:=zz hm3;have HT3:=zz ht3;have HBL:=zz (hbl.drew);have c0d:wr.drew.cell? ⟨b,o+j*2,none⟩=some (.int .i64 l[j].1):=c0;have c1d:wr.drew.cell? ⟨b,o+j*2+1,none⟩=some (.int .i64 l[j].2):=c1;generalize l[j].1=p1 at*;generalize l[j].2=p2 at*;clear hc hlm hbl hm3 ht3 hij;go_wp2_with fail
   go_still_tail 11,(by kernel_rfl)
   change wpList _ _ _ _ _ wr.drew;generalize wr.drew=w2 at*;go_wp2_with fail
   go_roundw
   case rel=>
    refine⟨j,_,_,by simp,by omega,?_,HM3.out,fun a ha=> ?_,HBL.out.grown HT3.out.grown HBL.out.size (fun k hk=>by injection hk with hk;omega)⟩
    ·unfold nPut;split<;>omega
    ·simp only [HFD.out a];by_cases hap:a=p1
     ·simp only [hap,if_true];rfl
     ·simp only [hap,if_false];exact HLM.out a ha
   case measure=>first|(simp [intOf];done)|(simp [intOf];omega)
def zCg(r:Nat×List UInt8):Value:= .agg #[.int .u64 (r.1:Int),.string (st r.2)]
theorem zDy(q:Nat)(t:List UInt8)(w:World)(hq:q<U64)(ht:t.length≤65536):
 Calls Tryz.prog 132 #[.agg #[.int .u64 (q:Int),.string (st t)]] w fun e w'=>∃A k c,e= .returned (.slice A k c)∧Ob 5 w' w.heap.size (.slice A k c) (z8A q t)∧Below w.heap.size w w':=by
 have hb0:=Blk.new w 131 #[.int .u64 (q:Int),.string (st t)];have HQ:=zz hq;go_enter Tryz.func132,Tryz.ntmps132
 go_wp2_with fail
 refine(z6x _).mono ?_;rintro e w1 ⟨rfl,hw1,hbl1,hsz1⟩;have hb1:=hb0.later hbl1;have q1:Below w.heap.size w w1:=((Below.refl w.heap.size w).alloc (Nat.le_refl _) _).trans (hbl1.mono (by simp));generalize hG:(w.alloc (.cells #[.int .u64 (q:Int),.string (st t)] 131)).heap.size=G at*;have hG':w.heap.size<G:=by rw [←hG];simp
 have hG1:G<w1.heap.size:=by omega
 have HW1:=zz hw1;have d0:w1.cell? ⟨w.heap.size,0,none⟩=some (.int .u64 (q:Int)):=hb1.cell 0;clear hw1 hb0 hq hG hbl1 hsz1;go_wp2_with fail
 refine(z9j G G G [] [q] _ _ (HW1.out.alloc _) (by simp;omega) (fun _=>Nat.le_refl _) (by simp;omega) (by intro y hy;simp at hy;subst hy;exact HQ.out) (by simp) (Sl.new1 w1 _ _ (by simp) ⟨by omega,by simp⟩)).mono ?_;rintro e w2 ⟨rfl,hw2,hg2⟩;simp only [List.flatMap_cons,List.flatMap_nil,List.append_nil,List.nil_append]at hw2;have hb2:=(hb1.alloc (.cells #[.int .u64 (q:Int)] 60)).grown hg2 (by simp;omega);have q2:Below w.heap.size w w2:=(q1.alloc (by omega) _).trans (z0M hg2 (by omega) (by simp;omega));have hs2:=q2.size;have hg2s:w1.heap.size+1≤w2.heap.size:=by have:=hg2.size;simpa using this
 have HW2:=zz hw2;have hv10:=z0G HQ.out;have d1:w2.cell? ⟨w.heap.size,1,none⟩=some (.string (st t)):=hb2.cell 1;clear hw2 hb1 hg2 HW1 d0;go_wp2_with fail
 refine(z5M G G (z0D q) [t] _ _ (HW2.out.alloc _) (by simp;omega) (Nat.le_refl _) (by intro y hy;simp at hy;subst hy;exact ht) (by simp;omega) (Sl.new1 w2 _ _ (by simp) ⟨by omega,by simp⟩)).mono ?_;rintro e w3 ⟨rfl,hw3,hg3⟩;simp only [List.flatMap_cons,List.flatMap_nil,List.append_nil]at hw3;have q3:Below w.heap.size w w3:=(q2.alloc (by omega) _).trans (z0M hg3 (by omega) (by simp;omega));have hs3:=q3.size;have HW3:Hid (Wr w3 G G (z8A q t)):=hw3;have hl3:=z3O ht;clear hw3 hb2 hg3 HW2 d1;go_wp2_with fail
 refine(z5W G G (z8A q t) w3 HW3.out (by unfold z8A;unfold z11 at hl3;rw [List.length_append];omega)).mono ?_;rintro e w4 ⟨A4,k4,c4,rfl,hown4,hbl4⟩;go_wp2_with fail
 go_ret
 exact⟨A4,k4,c4,rfl,hown4.lower hs3,q3.trans (hbl4.mono hs3)⟩
def zCS(q:Nat)(t:List UInt8)(w:World)(e:Ending)(w':World):Prop:=
 (t.length≤32768→∃A k c,e= .returned (.tuple #[.slice A k c,.int .i64 0])∧Ob 5 w' w.heap.size (.slice A k c) (z1N q t))∧
 (32768<t.length→e= .returned (.tuple #[.slice none 0 0,.int .i64 70]))∧Below w.heap.size w w'
theorem z6Y(q:Nat)(t:List UInt8)(w:World)(hq:q<U64)(hb:BitsOk w)(ht:t.length≤1099511627776):
 Calls Tryz.prog 94 #[.agg #[.int .u64 (q:Int),.string (st t)]] w (zCS q t w):=by
 have hb0:=Blk.new w 131 #[.int .u64 (q:Int),.string (st t)];have HQ:=zz hq;have d1:(w.alloc (.cells #[.int .u64 (q:Int),.string (st t)] 131)).cell? ⟨w.heap.size,1,none⟩=some (.string (st t)):=hb0.cell 1;have q0:Below w.heap.size w (w.alloc (.cells #[.int .u64 (q:Int),.string (st t)] 131)):=(Below.refl _ _).alloc (Nat.le_refl _) _;by_cases hl:32768<t.length
 ·go_enter Tryz.func94,Tryz.ntmps94
  go_wp2_with fail
  go_ret2
  exact⟨fun h=>(by omega),fun _=>rfl,q0⟩
 ·have hb':=zz (hb.later q0);have hF:=zz (zCu HQ.out (show t.length≤32768 by omega));clear hb;have c0:(w.alloc (.cells #[.int .u64 (q:Int),.string (st t)] 131)).cell? ⟨w.heap.size,0,none⟩=some (.int .u64 (q:Int)):=hb0.cell 0;go_enter Tryz.func94,Tryz.ntmps94
  go_wp2_with fail
  refine(zDy q t _ HQ.out (by omega)).mono ?_;rintro e w1 ⟨A1,k1,c1,rfl,hown1,hbl1⟩;have HO1:=zz hown1;have HB1:=zz (hb'.out.later hbl1);have q1:=q0.trans (hbl1.mono q0.size);have hs1:=q1.size;clear hown1 hbl1;go_wp2_with fail
  refine(zCG _ _ (z8A q t) w1 HB1.out (by have:=hF.out;omega) HO1.out.bs).mono ?_;rintro e w2 ⟨A2,k2,c2,rfl,hown2,hbl2⟩;obtain rfl:=hown2.len;have HO2:Hid (Ob 5 w2 w1.heap.size (.slice A2 (z7t q t).length c2) (z7t q t)):=hown2;have HB2:=zz (HB1.out.later hbl2);have q2:=q1.trans (hbl2.mono hs1);have hs2:=q2.size;have HL:(z7t q t).length≤32804:=by rw [z3v];have:=hF.out;omega
  have hwr:IntKind.u64.wrap ((z7t q t).length:Int)=((z7t q t).length:Int):=z1e (by omega) (by unfold U64;omega);rw [show z8A q t++beB (z4C (z8A q t)).toNat 4=z7t q t from rfl];clear hown2 hbl2 HO1 HB1;have HR:Hid (beB (z7t q t).length 4++z7t q t=z1N q t):=rfl;generalize z7t q t=sl at*;go_wp2_with fail
  refine(zI5 (fun _=>True) _ [] sl.length 4 w2 (by omega) (by omega) (by unfold U64;omega) (fun _=>by omega) HB2.out (by simp) (Bs.nilv _ _)).mono ?_;rintro e w3 ⟨A3,k3,c3,rfl,hown3,hbl3⟩;rw [List.nil_append]at hown3;have HO3:=zz (HO2.out.later hbl3);have q3:=q2.trans (hbl3.mono hs2);have hs3:=hbl3.size;clear hbl3;go_wp2_with (at_builtin;go_loud (refine z04 _ rfl (.tmp 21) (.tmp 22) z10 rfl hown3 HO3.out.bs rfl rfl (by rw [z1Z];omega) hs3 ?_);intro A4 k4 c4 w4 hown4 hg4 hat4)
  go_ret2
  rw [HR.out]at hown4;exact⟨fun _=>⟨A4,k4,c4,rfl,hown4.lower hs2⟩,fun h=>(by omega),q3.grown hg4 (by omega) (fun k hk=>by have:=(hown3.lt k hk).1;omega)⟩
def z7z:Option ((Nat×List UInt8)×Nat)→Value
 |some (r,n)=> .tuple #[zCg r,.int .i64 (n:Int),.bool true]
 |none=> .tuple #[zCg (0,[]),.int .i64 0,.bool false]
theorem z69:z1l Tryz.prog 131 2:=⟨⟨_,Tryz.underlying131⟩,by kernel_rfl⟩
theorem Blk.put2{w:World}{g:Nat}{t:TypeId}{a b:Value}(h:Blk w g t #[a,b])(x y:Value):Blk ((w.setCell ⟨g,0,none⟩ x).setCell ⟨g,1,none⟩ y) g t #[x,y]:=(h.put 0 x).put 1 y
theorem zDe(A:Option Addr)(k c:Nat)(w:World)(hk:k<4):
 Calls Tryz.prog 120 #[.slice A k c] w fun e w'=>e= .returned (z7z none)∧Below w.heap.size w w':=by
 have q0:Below w.heap.size w (w.alloc (.cells #[.int .u64 0,.string (st [])] 131)):=(Below.refl _ _).alloc (Nat.le_refl _) _;have hb0:=Blk.new w 131 #[.int .u64 0,.string (st [])];go_enter Tryz.func120,Tryz.ntmps120
 go_wp2_with fail
 refine(zFx A k c 4 _ (by omega) (by omega) hk).mono ?_;rintro e w1 ⟨rfl,rfl⟩;go_wp2_with fail
 exact bodyPost_ret (z1J rfl _ _ w.heap.size rfl hb0 z69) rfl ⟨rfl,q0⟩
theorem Ob.cases{e:TypeId}{w:World}{B:Nat}{A:Option Addr}{k c:Nat}{l:List UInt8}(h:Ob e w B (.slice A k c) l):(A=none∧l= []∧c=0)∨∃g,A=some ⟨g,0,none⟩:=by
 rcases h.2 with⟨hv,hn⟩|⟨g,cap,cur,hv,_⟩
 ·injection hv with hA _ hc
  exact .inl ⟨hA,List.eq_nil_of_length_eq_zero hn,hc⟩
 ·injection hv with hA _ hc
  exact .inr ⟨g,hA⟩
theorem zFB{l:List UInt8}{er:Nat}(h:z1i l= .error er):er=20∨er=21:=by
 unfold z1i at h
 split at h
 ·cases h;exact .inl rfl
 ·split at h
  ·cases h
  ·cases h;exact .inr rfl
theorem zFY{l f:List UInt8}(h:z1i l= .ok f):f.length≤l.length:=by
 unfold z1i at h
 split at h
 ·cases h
 ·split at h
  ·cases h;rw [List.length_take];omega
  ·cases h
def zGo(f:List UInt8)(n:Nat):Option ((Nat×List UInt8)×Nat):=
 if(z0O (z14 f 0).2.1 (z14 f 0).2.2).2.2=0∧(z0O (z14 f 0).2.1 (z14 f 0).2.2).2.1= []∧(z0O (z14 f 0).2.1 (z14 f 0).2.2).1.length≤32768
 then some (((z14 f 0).1,(z0O (z14 f 0).2.1 (z14 f 0).2.2).1),4+n)else none
def zDS(m:List UInt8)(n:Nat):Option ((Nat×List UInt8)×Nat):=match z1i (m.take n)with
 | .error _=>none
 | .ok f=>zGo f n
theorem zEv{l:List UInt8}(h:¬ (l.length<4∨(l.drop 4).length<deB (l.take 4))):z0i l=zDS (l.drop 4) (deB (l.take 4)):=by
 unfold z0i zDS zGo;rw [if_neg h];cases z1i ((l.drop 4).take (deB (l.take 4)))<;>rfl
theorem zAu:z1i []= .error 20:=by unfold z1i;rw [if_pos (by simp)]
theorem zDt{l:List UInt8}{e:Nat}:z1u l e=0↔e=0∧l= []:=by
 unfold z1u;constructor
 ·intro h
  split at h
  ·cases h
  ·rename_i h2;subst h;refine⟨rfl,?_⟩;rcases l with _|⟨b,l⟩
   ·rfl
   ·exact absurd ⟨rfl,by simp⟩ h2
 ·rintro⟨rfl,rfl⟩;rfl
theorem z9L(l:List UInt8){e:Nat}(he:e≤1000):(z14 l e).1<U64∧(z14 l e).2.1.length≤l.length∧(z14 l e).2.2≤1000:=by
 unfold z14
 split
 ·exact⟨by simp [U64],Nat.le_refl _,he⟩
 ·split
  ·rename_i er hg;exact⟨by simp [U64],Nat.le_refl _,(z6I hg).1⟩
  ·rename_i x n hg;exact⟨(z2J hg).1,by rw [List.length_drop];omega,Nat.zero_le _⟩
theorem z9v(l:List UInt8){e:Nat}(he:e≤1000):(z0O l e).1.length≤65536∧(z0O l e).2.1.length≤l.length∧(z0O l e).2.2≤1000:=by
 unfold z0O
 split
 ·exact⟨by simp,Nat.le_refl _,he⟩
 ·split
  ·rename_i er hg;exact⟨by simp,Nat.le_refl _,(z6I hg).1⟩
  ·rename_i x n hg
   split
   ·exact⟨by simp,Nat.le_refl _,(show 32≤1000 by decide)⟩
   ·split
    ·exact⟨by simp,Nat.le_refl _,(show 30≤1000 by decide)⟩
    ·exact⟨by simp only [List.length_take];omega,by simp only [List.length_drop];omega,Nat.zero_le _⟩
theorem z4y(S:Nat→Prop)(v0:Value)(l:List UInt8)(w:World)(hl:l.length≤1099511627776)(hr:Bs S w v0 l):
 Calls Tryz.prog 120 #[v0] w fun e w'=>e= .returned (z7z (z0i l))∧Below w.heap.size w w':=by
 have HR:Hid (Bs (fun b=>b<w.heap.size) w v0 l):=(Sl.lt hr (by omega)).more (fun _ h=>h.2);by_cases h4:l.length<4
 ·obtain⟨A,c,rfl,_⟩:=hr.at;have e:z0i l=none:=by unfold z0i;rw [if_pos (.inl h4)]
  rw [e];exact zDe A l.length c w h4
 have q0:Below w.heap.size w (w.alloc (.cells #[.int .u64 0,.string (st [])] 131)):=(Below.refl _ _).alloc (Nat.le_refl _) _;have hb0:=Blk.new w 131 #[.int .u64 0,.string (st [])];have hr0:Hid (Bs (fun b=>b<w.heap.size) (w.alloc (.cells #[.int .u64 0,.string (st [])] 131)) v0 l):=Sl.alloc HR.out (fun _ h=>h) _;have hd4:deB (l.take 4)<4294967296:=Nat.lt_of_lt_of_le (z6m l 4) (by decide);have hdl:(l.drop 4).length≤1099511627776:=by rw [List.length_drop];omega
 go_enter Tryz.func120,Tryz.ntmps120
 go_wp2_with fail
 refine(zID _ v0 l 4 _ (by omega) (by omega) (by omega) hl hr0.out).mono ?_;rintro e w1 ⟨A1,k1,c1,rfl,hown1,hbl1⟩;obtain rfl:=hown1.len;have hb1:=hb0.later hbl1;have q1:=q0.trans (hbl1.mono q0.size);have hs1:=q1.size;have hwr:IntKind.u64.wrap ((l.drop 4).length:Int)=((l.drop 4).length:Int):=z1e (by omega) (by unfold U64;omega);have HO1:=zz hown1;have d0:w1.cell? ⟨w.heap.size,0,none⟩=some (.int .u64 0):=hb1.cell 0;have d1:w1.cell? ⟨w.heap.size,1,none⟩=some (.string (st [])):=hb1.cell 1;have f0:=hb1.free 0;have f1:=hb1.free 1;have HB1:=zz hb1;clear hown1 hb1 hb0 hbl1 hr0;by_cases hn:(l.drop 4).length<deB (l.take 4)
 ·have HN:Hid (z0i l=none):=by unfold z0i;rw [Hid,if_pos (.inr hn)]
  generalize deB (l.take 4)=n at*;generalize l.drop 4=m at*;have t0:decide (m.length<n)=true:=by rw [decide_eq_true_eq];exact hn
  clear hn;go_wp2_with fail
  exact bodyPost_ret (z1J rfl _ _ w.heap.size rfl (HB1.out.put2 _ _) z69) rfl ⟨by rw [HN.out];rfl,(q1.setCell (by simp) _).setCell (by simp) _⟩
 ·have hnm:deB (l.take 4)≤(l.drop 4).length:=by omega
  have HG:Hid (z0i l=zDS (l.drop 4) (deB (l.take 4))):=zEv (by omega);generalize deB (l.take 4)=n at*;generalize l.drop 4=m at*;have t0:decide (m.length<n)=false:=by rw [decide_eq_false_iff_not];exact hn
  clear hn;rcases HO1.out.cases with⟨rfl,rfl,rfl⟩|⟨g1,rfl⟩
  ·obtain rfl:n=0:=by simpa using hnm
   have HN:Hid (z0i l=none):=by rw [Hid,HG.out,zDS,List.take_nil,zAu]
   clear HG;go_wp2_with fail
   refine(z9W _ _ [] w1 (by simp) (Bs.nilv (fun _=>True) _)).mono ?_;rintro e w2 ⟨_,her,hbl2⟩;obtain rfl:=her _ zAu;have hb2:=HB1.out.later hbl2;have e0:w2.cell? ⟨w.heap.size,0,none⟩=some (.int .u64 0):=hb2.cell 0;have e1:w2.cell? ⟨w.heap.size,1,none⟩=some (.string (st [])):=hb2.cell 1;have g0:=hb2.free 0;have g1:=hb2.free 1;have q2:=q1.trans (hbl2.mono hs1);clear her;go_wp2_with fail
   exact bodyPost_ret (z1J rfl _ _ w.heap.size rfl (hb2.put2 _ _) z69) rfl ⟨by rw [HN.out];rfl,(q2.setCell (by simp) _).setCell (by simp) _⟩
  ·have hpre:=zz (Bs.pre HO1.out.bs hnm);have hcp:m.length≤c1:=by
    obtain⟨_,c',hv,h,_⟩:=HO1.out.bs.at;injection hv with _ _ hv
    omega
   have hml:(m.take n).length≤1099511627776:=by rw [List.length_take];omega
   have HNM:=zz hnm;go_wp2_with fail
   refine(z9W _ _ (m.take n) w1 hml hpre.out).mono ?_;rintro e w2 ⟨hok,her,hbl2⟩;have hb2:=HB1.out.later hbl2;have q2:=q1.trans (hbl2.mono hs1);have hs2:=q2.size;cases ho:z1i (m.take n)with
   |error er=>
    obtain rfl:=her _ ho;have HN:Hid (z0i l=none):=by rw [Hid,HG.out,zDS,ho]
    have e0:w2.cell? ⟨w.heap.size,0,none⟩=some (.int .u64 0):=hb2.cell 0;have e1:w2.cell? ⟨w.heap.size,1,none⟩=some (.string (st [])):=hb2.cell 1;have g0:=hb2.free 0;have g1:=hb2.free 1;have t1:((er:Int) != 0)=true:=by
     rw [bne_iff_ne];rcases zFB ho with rfl|rfl<;>decide
    clear her hok HG ho;go_wp2_with fail
    exact bodyPost_ret (z1J rfl _ _ w.heap.size rfl (hb2.put2 _ _) z69) rfl ⟨by rw [HN.out];rfl,(q2.setCell (by simp) _).setCell (by simp) _⟩
   |ok f=>
    obtain⟨A2,k2,c2,rfl,hown2⟩:=hok _ ho;have hfl:f.length≤1099511627776:=Nat.le_trans (zFY ho) hml;have HG:Hid (z0i l=zGo f n):=by rw [Hid,HG.out,zDS,ho]
    have HO2:=zz hown2;have HB2:=zz hb2;have hmf:=z0R Tryz.prog;have hwn:IntKind.i64.wrap (4+(n:Int))=4+(n:Int):=IntWalk.i64_in _ (by omega);have hwn2:IntKind.i64.wrap (n:Int)=(n:Int):=IntWalk.i64_in _ (by omega);clear her hok ho hown2 hpre hb2 d0 d1 f0 f1;go_wp2_with fail
    refine(z9Q _ _ f w2 hfl HO2.out.bs).mono ?_;rintro e w3 ⟨g,rfl,hg3,hr3,hbl3⟩;have HB3:=zz (HB2.out.later hbl3);have q3:=q2.trans (hbl3.mono hs2);have hs3:=q3.size;have hne:g≠w.heap.size:=by have:=HB2.out.lt;omega
    have HR3:=zz hr3;clear hr3;go_wp2_with fail
    refine(zHm g w2.heap.size f 0 w3 HR3.out hbl3.size hfl).mono ?_;rintro e w4 ⟨rfl,hr4,hgr4⟩;have hle4:=z9L f (e:=0) (by omega);obtain⟨X,hX⟩:∃X,z14 f 0=X:=⟨_,rfl⟩;rw [hX]at hr4 hle4;rw [hX];obtain⟨q,r4,e4⟩:=X;simp only at hr4 hle4 ⊢;have HB4:=zz (HB3.out.grown hgr4 (by simpa using hne));have q4:=q3.trans (z0M hgr4 (by omega) hs3);have hs4:=q4.size;have HR4:=zz hr4;have hw4:w2.heap.size≤w4.heap.size:=Nat.le_trans hbl3.size hgr4.size;clear hr4 hgr4;go_wp2_with fail
    refine(z48 g w2.heap.size r4 e4 w4 HR4.out hw4 (by omega)).mono ?_;rintro e w5 ⟨rfl,hr5,hgr5⟩;have hle5:=z9v r4 hle4.2.2;obtain⟨Y,hY⟩:∃Y,z0O r4 e4=Y:=⟨_,rfl⟩;rw [hY]at hr5 hle5;rw [hY];obtain⟨t,r5,e5⟩:=Y;simp only at hr5 hle5 ⊢;have HB5:=zz (HB4.out.grown hgr5 (by simpa using hne));have q5:=q4.trans (z0M hgr5 (by omega) hs4);have hs5:=q5.size;have HR5:=zz (hr5.later ((Below.refl _ _).alloc (Nat.le_refl _) (.cells #[.int .u64 (q:Int),.string (st t)] 131)));have HG2:Hid (z0i l=if e5=0∧r5= []∧t.length≤32768 then some ((q,t),4+n)else none):=by rw [Hid,HG.out,zGo];simp only [hX,hY]
    have hnb:=Blk.new w5 131 #[.int .u64 (q:Int),.string (st t)];have q6:=q5.alloc hs5 (.cells #[.int .u64 (q:Int),.string (st t)] 131);have hb6:=HB5.out.alloc (.cells #[.int .u64 (q:Int),.string (st t)] 131);have hws5:w.heap.size≠w5.heap.size:=by have:=HB5.out.lt;omega
    have HRL:=zz (show r5.length≤1099511627776 by omega);clear hr5 hgr5 HG hX hY hle4 hle5;go_wp2_with fail
    refine(zFA g w2.heap.size r5 e5 _ HR5.out HRL.out).mono ?_;rintro e w6 ⟨rfl,rfl⟩;have d0:(w5.alloc (.cells #[.int .u64 (q:Int),.string (st t)] 131)).cell? ⟨w.heap.size,0,none⟩=some (.int .u64 0):=hb6.cell 0;have d1:(w5.alloc (.cells #[.int .u64 (q:Int),.string (st t)] 131)).cell? ⟨w.heap.size,1,none⟩=some (.string (st [])):=hb6.cell 1;have f0:=hb6.free 0;have f1:=hb6.free 1;have HZ:=zz (zDt (l:=r5) (e:=e5));by_cases hE:z1u r5 e5=0
    ·have hz:=HZ.out.1 hE;rw [hE];by_cases ht:t.length≤32768
     ·have HN:Hid (z0i l=some ((q,t),4+n)):=by rw [Hid,HG2.out,if_pos ⟨hz.1,hz.2,ht⟩]
      clear hz hE HG2;go_wp2_with fail
      exact bodyPost_ret (z1J rfl _ _ w.heap.size rfl (hb6.put2 _ _) z69) rfl ⟨by rw [HN.out];rfl,(q6.setCell (by simp) _).setCell (by simp) _⟩
     ·have HN:Hid (z0i l=none):=by rw [Hid,HG2.out,if_neg (fun h=>ht h.2.2)]
      clear hz hE HG2;go_wp2_with fail
      exact bodyPost_ret (z1J rfl _ _ w.heap.size rfl (hb6.put2 _ _) z69) rfl ⟨by rw [HN.out];rfl,(q6.setCell (by simp) _).setCell (by simp) _⟩
    ·have HN:Hid (z0i l=none):=by rw [Hid,HG2.out,if_neg (fun h=>hE (HZ.out.2 ⟨h.1,h.2.1⟩))]
     have t1:((z1u r5 e5:Int) != 0)=true:=by rw [bne_iff_ne];omega
     generalize z1u r5 e5=ee at*;clear hE HG2 HZ;go_wp2_with fail
     exact bodyPost_ret (z1J rfl _ _ w.heap.size rfl (hb6.put2 _ _) z69) rfl ⟨by rw [HN.out];rfl,(q6.setCell (by simp) _).setCell (by simp) _⟩
end
end Go.Proofs.YthbhkdhljlganaaGreatDoor
