/- Part 37. -/
import Derived.Test.YthnlcbamjehpdaaGreatDoorViewCollectsJ36
namespace Go.Proofs.YthnlcbamjehpdaaGreatDoor
set_option linter.unusedVariables false
set_option maxHeartbeats 16000000
set_option maxRecDepth 100000
section
open Go Go.RowKit Tryz
def rgC(frm to_:List UInt8)(opn back:Bool)(lim:Int):Array Value:= #[.string (st frm),.string (st to_),.bool opn,.bool back,.int .i64 lim]
def zBI(lim:Int)(n:Nat):Bool:=decide (0<=lim)&&decide (lim<=(n:Int))
theorem zE1(gx gl:Nat)(A:Option Addr)(n c:Nat)(lim:Int)(w:World)(h4:w.cell? ⟨gx,4,none⟩=some (.int .i64 lim))(hl:w.cell? ⟨gl,0,none⟩=some (.slice A n c))(hn:n<=9223372036854775807):
 Calls prog 85 #[.pointer (some ⟨gx,0,none⟩),.pointer (some ⟨gl,0,none⟩)] w fun e w'=>e= .returned (.bool (zBI lim n))/\w=w':=by
 unfold zBI;go_enter func85,ntmps85
 by_cases h0:0<=lim
 .by_cases h1:lim<=(n:Int)
  .rw [yq h0,yq h1];go_wp2_with fail
   go_ret
   exact⟨rfl,rfl⟩
  .have h2:decide (lim<=(n:Int))=false:=yZ h1;rw [yq h0,h2];go_wp2_with fail
   go_ret
   exact⟨rfl,rfl⟩
 .have h2:decide (0<=lim)=false:=yZ h0;rw [h2];go_wp2_with fail
  go_ret
  exact⟨rfl,rfl⟩
structure RgJ(B gl gx gf:Nat)(frm to_:List UInt8)(opn:Bool)(lim:Int)(T:List Cel)(fp:Nat->Prop)(w:World):Prop where
 l:∃A c,Blk w gl 53 #[.slice A T.length c]/\Co w B (.slice A T.length c) T/\∀q,(Value.slice A T.length c).ownBlock=some q->fp q
 x:Blk w gx 57 (rgC frm to_ opn false lim)
 f:Blk w gf 25 #[.func (Fn.func 85) #[] #[.pointer (some ⟨gx,0,none⟩),.pointer (some ⟨gl,0,none⟩)]]
 fl:fp gl
 fx:fp gx
 ff:fp gf
 bB:B<=gl
 lt:∀q,fp q->B<=q/\q<w.heap.size
 ok:∀c∈T,(opn||Op.bytesLess c.1 to_)=true
 lm:lim<0∨(T.length:Int)<=lim
def RgE(B gl:Nat)(to_:List UInt8)(opn:Bool)(lim:Int)(T:List Cel)(c:Cel)(w:World):Prop:=
 (∃A c,Blk w gl 53 #[.slice A T.length c]/\Co w B (.slice A T.length c) T)/\(∀x∈T,(opn||Op.bytesLess x.1 to_)=true)/\(lim<0∨(T.length:Int)<=lim)/\(zBI lim T.length=true∨(opn||Op.bytesLess c.1 to_)=false)
theorem RgJ.stay{B gl gx gf:Nat}{frm to_:List UInt8}{opn:Bool}{lim:Int}{T:List Cel}{fp:Nat->Prop}{w w':World}(h:RgJ B gl gx gf frm to_ opn lim T fp w)(hb:∀b,fp b->w'.heap[b]? =w.heap[b]?)(hz:w.heap.size<=w'.heap.size):RgJ B gl gx gf frm to_ opn lim T fp w':=by
 obtain⟨A,c,h1,h2,h3⟩:=h.l;refine⟨⟨A,c,(hb _ h.fl).trans h1,?_,h3⟩,(hb _ h.fx).trans h.x,(hb _ h.ff).trans h.f,h.fl,h.fx,h.ff,h.bB,fun q hq=>⟨(h.lt q hq).1,yE (h.lt q hq).2 hz⟩,h.ok,h.lm⟩;obtain⟨h4,h5⟩:=h2;refine⟨h4,?_⟩;rcases h5 with h5|⟨g,cap,cur,hv,hg,hh,r⟩
 .exact .inl h5
 .exact .inr ⟨g,cap,cur,hv,hg,(hb g (h3 g (by rw [hv];rfl))).trans hh,r⟩
def RgPost(B gl gx gf:Nat)(frm to_:List UInt8)(opn:Bool)(lim:Int)(T:List Cel)(fp:Nat->Prop)(cc:Cel)(w:World)(e:Ending)(w':World):Prop:=∃b fp',e= .returned (.bool b)/\Turn fp w w'/\(∀x,fp' x->fp x∨w.heap.size<=x)/\(∀x,fp' x->x<w'.heap.size)/\
     (b=true->RgJ B gl gx gf frm to_ opn lim (T++ [cc]) fp' w')/\(b=false->RgE B gl to_ opn lim T cc w')
theorem zE2(B gl gx gf:Nat)(frm to_:List UInt8)(opn:Bool)(lim:Int)(T:List Cel)(fp:Nat->Prop)(ck cv:List UInt8)(w:World)(h:RgJ B gl gx gf frm to_ opn lim T fp w)(hT:T.length<=1000000)(hBw:B<=w.heap.size):
 Calls prog 87 #[.agg #[.string (st ck),.string (st cv)],.pointer (some ⟨gf,0,none⟩),.pointer (some ⟨gx,0,none⟩),.pointer (some ⟨gl,0,none⟩)] w (RgPost B gl gx gf frm to_ opn lim T fp (ck,cv) w):=by
 have q1:=(y7 w.heap.size w).alloc (y5 _) (.cells #[.string (st ck),.string (st cv)] 94);have J1:=zz (h.stay (fun b hb=>q1.block b (h.lt b hb).2) q1.size);have B1:=zz (Blk.new w 94 #[.string (st ck),.string (st cv)]);have HQ:=zz q1;have HJ:=zz h;obtain⟨A,c,hl1,hl2,hl3⟩:=J1.out.l;have HL1:=zz hl1;have HL2:=zz hl2;have HL3:=zz hl3;clear h q1 hl1 hl2 hl3;go_enter func87,ntmps87
 go_upto_region 1 with(fail)
 generalize hW:w.alloc (.cells #[.string (st ck),.string (st cv)] 94)=W at*;clear hW;have f0:W.cell? ⟨gf,0,none⟩=some (.func (Fn.func 85) #[] #[.pointer (some ⟨gx,0,none⟩),.pointer (some ⟨gl,0,none⟩)]):=J1.out.f.cell 0;have x1:W.cell? ⟨gx,1,none⟩=some (.string (st to_)):=J1.out.x.cell 1;have x2:W.cell? ⟨gx,2,none⟩=some (.bool opn):=J1.out.x.cell 2;have x4:W.cell? ⟨gx,4,none⟩=some (.int .i64 lim):=J1.out.x.cell 4;have l0:W.cell? ⟨gl,0,none⟩=some (.slice A T.length c):=HL1.out.cell 0;have c0:W.cell? ⟨w.heap.size,0,none⟩=some (.string (st ck)):=B1.out.cell 0;have c1:W.cell? ⟨w.heap.size,1,none⟩=some (.string (st cv)):=B1.out.cell 1;go_wp2_with fail
 refine(zE1 gx gl A T.length c lim W x4 l0 (by omega)).mono ?_;rintro e w2 ⟨rfl,rfl⟩;cases hfu:zBI lim T.length with
 |true=>
  go_wp2_with fail
  go_ret
  exact⟨false,fp,rfl,Turn.of_below HQ.out,fun x hx=> .inl hx,fun x hx=>(J1.out.lt x hx).2,(fun h=>by cases h),fun _=>⟨⟨A,c,HL1.out,HL2.out⟩,J1.out.ok,J1.out.lm,.inl hfu⟩⟩
 |false=>
  have HFU:Hid (lim<0∨((T.length+1:Nat):Int)<=lim):=by
   unfold zBI at hfu;rw [Bool.and_eq_false_iff,yj,yj]at hfu;show lim<0∨((T.length+1:Nat):Int)<=lim;omega
  clear hfu;cases opn with
  |true=>
   have q2:=(y7 W.heap.size W).alloc (y5 _) (.cells #[.string (st ck),.string (st cv)] 94);have HO:=zz (YC HL2.out (.cells #[.string (st ck),.string (st cv)] 94));have hBW:B<=(W.alloc (.cells #[.string (st ck),.string (st cv)] 94)).heap.size:=yD hBw (yD HQ.out.size q2.size);have HGL:=zz (HL1.out.later q2);have HGX:=zz (J1.out.x.later q2);have HGF:=zz (J1.out.f.later q2);have lf0:=HL1.out.free 0;have HQ2:=zz q2;clear q2;go_wp2_with (at_builtin;refine z0A _ rfl (.tmp 20) (.tmp 22) elemCel rfl HO.out (Sl.newcel (S:=fun _=>True) _ (ck,cv) rfl trivial) rfl rfl (z2b _) (by simp only [maxLen];omega) (by omega) hBW ?_;intro A3 k3 c3 w3 hown3 hg3 hat3;have gl3:=HGL.out.kept HO.out hg3 (by decide);have l30:=gl3.cell 0;have lf3:=gl3.free 0)
   go_ret
   obtain rfl:k3=T.length+1:=z0h hown3;have hsz:(w3.setCell ⟨gl,0,none⟩ (.slice A3 (T.length+1) c3)).heap.size=w3.heap.size:=by simp
   have hw3:=hg3.size;have hW1:(W.alloc (.cells #[.string (st ck),.string (st cv)] 94)).heap.size=W.heap.size+1:=by simp
   have hW0:=HQ.out.size;have hlt:∀q,fp q->B<=q/\q<w3.heap.size:=fun q hq=>⟨(J1.out.lt q hq).1,by have:=(J1.out.lt q hq).2;omega⟩
   have hT3:Turn fp w (w3.setCell ⟨gl,0,none⟩ (.slice A3 (T.length+1) c3)):=((((Turn.of_below HQ.out).trans (Turn.of_below (F:=fp) HQ2.out) (fun b h=> .inl h)).trans (Turn.of_grown (F:=fp) hg3 (fun z hz=>HL3.out z hz)) (fun b h=> .inl h))).setCell (.inl J1.out.fl) _;have hlen:(T++ [(ck,cv)]).length=T.length+1:=by simp
   have hown4:∀q,(Value.slice A3 (T.length+1) c3).ownBlock=some q->fp q∨w.heap.size<=q:=fun q hq=>by
    rcases hat3 with h|h
    .exact .inl (HL3.out q (h▸hq))
    .have:=YF (h.symm.trans hq);right;omega
   refine⟨true,fun q=>q=gl∨q=gx∨q=gf∨(Value.slice A3 (T.length+1) c3).ownBlock=some q,rfl,hT3,?_,?_,fun _=>⟨⟨A3,c3,?_,?_,?_⟩,?_,?_,.inl rfl,.inr (.inl rfl),.inr (.inr (.inl rfl)),J1.out.bB,?_,?_,?_⟩,fun h=>by cases h⟩
   .rintro q (rfl|rfl|rfl|hq)
    .exact .inl J1.out.fl
    .exact .inl J1.out.fx
    .exact .inl J1.out.ff
    .exact hown4 q hq
   .rw [hsz];rintro q (rfl|rfl|rfl|hq)
    .exact(hlt _ J1.out.fl).2
    .exact(hlt _ J1.out.fx).2
    .exact(hlt _ J1.out.ff).2
    .exact(hown3.lt q hq).2
   .rw [hlen];exact gl3.put1 _
   .unfold Co;rw [hlen,z19];exact z3g hown3 gl3 (by decide) 0 _
   .rw [hlen];exact fun q hq=> .inr (.inr (.inr hq))
   .exact(HGX.out.kept HO.out hg3 (by decide)).far (p:=⟨gl,0,none⟩) (Blk.ne HGX.out HGL.out (by decide)) _
   .exact(HGF.out.kept HO.out hg3 (by decide)).far (p:=⟨gl,0,none⟩) (Blk.ne HGF.out HGL.out (by decide)) _
   .rw [hsz];rintro q (rfl|rfl|rfl|hq)
    .exact hlt _ J1.out.fl
    .exact hlt _ J1.out.fx
    .exact hlt _ J1.out.ff
    .exact hown3.lt q hq
   .intro x hx;rcases yF.1 hx with hx|hx
    .exact J1.out.ok x hx
    .obtain rfl:=yJ.1 hx;exact rfl
   .rw [hlen];exact HFU.out
  |false=>
   cases hlz:Op.bytesLess ck to_ with
   |true=>
    have hok:=zz hlz;have q2:=(y7 W.heap.size W).alloc (y5 _) (.cells #[.string (st ck),.string (st cv)] 94);have HO:=zz (YC HL2.out (.cells #[.string (st ck),.string (st cv)] 94));have hBW:B<=(W.alloc (.cells #[.string (st ck),.string (st cv)] 94)).heap.size:=yD hBw (yD HQ.out.size q2.size);have HGL:=zz (HL1.out.later q2);have HGX:=zz (J1.out.x.later q2);have HGF:=zz (J1.out.f.later q2);have lf0:=HL1.out.free 0;have HQ2:=zz q2;clear q2;go_wp2_with (at_builtin;refine z0A _ rfl (.tmp 20) (.tmp 22) elemCel rfl HO.out (Sl.newcel (S:=fun _=>True) _ (ck,cv) rfl trivial) rfl rfl (z2b _) (by simp only [maxLen];omega) (by omega) hBW ?_;intro A3 k3 c3 w3 hown3 hg3 hat3;have gl3:=HGL.out.kept HO.out hg3 (by decide);have l30:=gl3.cell 0;have lf3:=gl3.free 0)
    go_ret
    obtain rfl:k3=T.length+1:=z0h hown3;have hsz:(w3.setCell ⟨gl,0,none⟩ (.slice A3 (T.length+1) c3)).heap.size=w3.heap.size:=by simp
    have hw3:=hg3.size;have hW1:(W.alloc (.cells #[.string (st ck),.string (st cv)] 94)).heap.size=W.heap.size+1:=by simp
    have hW0:=HQ.out.size;have hlt:∀q,fp q->B<=q/\q<w3.heap.size:=fun q hq=>⟨(J1.out.lt q hq).1,by have:=(J1.out.lt q hq).2;omega⟩
    have hT3:Turn fp w (w3.setCell ⟨gl,0,none⟩ (.slice A3 (T.length+1) c3)):=((((Turn.of_below HQ.out).trans (Turn.of_below (F:=fp) HQ2.out) (fun b h=> .inl h)).trans (Turn.of_grown (F:=fp) hg3 (fun z hz=>HL3.out z hz)) (fun b h=> .inl h))).setCell (.inl J1.out.fl) _;have hlen:(T++ [(ck,cv)]).length=T.length+1:=by simp
    have hown4:∀q,(Value.slice A3 (T.length+1) c3).ownBlock=some q->fp q∨w.heap.size<=q:=fun q hq=>by
     rcases hat3 with h|h
     .exact .inl (HL3.out q (h▸hq))
     .have:=YF (h.symm.trans hq);right;omega
    refine⟨true,fun q=>q=gl∨q=gx∨q=gf∨(Value.slice A3 (T.length+1) c3).ownBlock=some q,rfl,hT3,?_,?_,fun _=>⟨⟨A3,c3,?_,?_,?_⟩,?_,?_,.inl rfl,.inr (.inl rfl),.inr (.inr (.inl rfl)),J1.out.bB,?_,?_,?_⟩,fun h=>by cases h⟩
    .rintro q (rfl|rfl|rfl|hq)
     .exact .inl J1.out.fl
     .exact .inl J1.out.fx
     .exact .inl J1.out.ff
     .exact hown4 q hq
    .rw [hsz];rintro q (rfl|rfl|rfl|hq)
     .exact(hlt _ J1.out.fl).2
     .exact(hlt _ J1.out.fx).2
     .exact(hlt _ J1.out.ff).2
     .exact(hown3.lt q hq).2
    .rw [hlen];exact gl3.put1 _
    .unfold Co;rw [hlen,z19];exact z3g hown3 gl3 (by decide) 0 _
    .rw [hlen];exact fun q hq=> .inr (.inr (.inr hq))
    .exact(HGX.out.kept HO.out hg3 (by decide)).far (p:=⟨gl,0,none⟩) (Blk.ne HGX.out HGL.out (by decide)) _
    .exact(HGF.out.kept HO.out hg3 (by decide)).far (p:=⟨gl,0,none⟩) (Blk.ne HGF.out HGL.out (by decide)) _
    .rw [hsz];rintro q (rfl|rfl|rfl|hq)
     .exact hlt _ J1.out.fl
     .exact hlt _ J1.out.fx
     .exact hlt _ J1.out.ff
     .exact hown3.lt q hq
    .intro x hx;rcases yF.1 hx with hx|hx
     .exact J1.out.ok x hx
     .obtain rfl:=yJ.1 hx;exact hok.out
    .rw [hlen];exact HFU.out
   |false=>
    go_wp2_with fail
    go_ret
    exact⟨false,fp,rfl,Turn.of_below HQ.out,fun x hx=> .inl hx,fun x hx=>(J1.out.lt x hx).2,(fun h=>by cases h),fun _=>⟨⟨A,c,HL1.out,HL2.out⟩,J1.out.ok,J1.out.lm,.inr hlz⟩⟩
def z5z(X:List Cel)(to_:List UInt8)(opn:Bool)(lim:Int):List Cel:=zJh (X.takeWhile fun c=>opn||Op.bytesLess c.1 to_) lim
theorem z3j{p:Cel->Bool}:∀ {T:List Cel},(∀x∈T,p x=true)->∀R,(T++R).takeWhile p=T++R.takeWhile p
 | [],_,_=>rfl
 |a::T,h,R=>by
  rw [Y8,Y0,yB (h a (by simp)),z3j (fun x hx=>h x (by simp [hx])) R];rfl
theorem zDz{X:List Cel}{to_:List UInt8}{opn:Bool}{lim:Int}(h:∀x∈X,(opn||Op.bytesLess x.1 to_)=true)(hl:lim<0∨(X.length:Int)<=lim):z5z X to_ opn lim=X:=by
 have e:=z3j h [];rw [yf]at e;unfold z5z zJh;rw [e];simp only [List.takeWhile_nil,yf]
 split
 .rfl
 .rw [ya (by omega)]
theorem zBg{T R:List Cel}{c:Cel}{to_:List UInt8}{opn:Bool}{lim:Int}(h:∀x∈T,(opn||Op.bytesLess x.1 to_)=true)(hl:lim<0∨(T.length:Int)<=lim)(hs:zBI lim T.length=true∨(opn||Op.bytesLess c.1 to_)=false):z5z (T++c::R) to_ opn lim=T:=by
 unfold z5z zJh;rw [z3j h];rcases hs with hs|hs
 .unfold zBI at hs;simp only [Y9,yd]at hs;rw [yA (by omega),ZG (by omega)]
 .have e:(c::R).takeWhile (fun c=>opn||Op.bytesLess c.1 to_)= []:=by simp [hs]
  rw [e,yf]
  split
  .rfl
  .rw [ya (by omega)]
def RangePost(R:List Cel)(w:World)(e:Ending)(w':World):Prop:=∃A c,e= .returned (.slice A R.length c)/\Co w' w.heap.size (.slice A R.length c) R/\Below w.heap.size w w'
theorem zEC(g:Nat)(Z:Pz)(P:Pgr)(c:Int->List UInt8)(frm to_:List UInt8)(opn:Bool)(lim:Int)(n0 m0:Nat)(l:List TStp)(s:TStp)(C:List Cel)(w:World)
 (ht:Tg w g Z P c) (hw:z3E (P.pgD c) frm n0 0=some (l++ [s])) (hL:l.length<=999) (hC:z0r (P.pgD c) m0 s.pg=some C) (hCl:C.length<=1000000):
 Calls prog 51 #[.pointer (some ⟨g,0,none⟩),.agg (rgC frm to_ opn false lim)] w (RangePost (z5z (C.drop (z05 s.pg.2.2 frm)) to_ opn lim) w):=by
 have hmf:=z0N prog;have HT:=zz ht;have HW:=zz hw;have HC:=zz hC;clear ht hw hC;have bx:=((Blk.new w 57 (rgC frm to_ opn false lim)).alloc (.cells #[.slice none 0 0] 53)).alloc (.cells #[.func (Fn.func 85) #[] #[.pointer (some ⟨w.heap.size,0,none⟩),.pointer (some ⟨w.heap.size+1,0,none⟩)]] 25);have bl:=(Blk.new1 w (.cells (rgC frm to_ opn false lim) 57) 53 #[.slice none 0 0]).alloc (.cells #[.func (Fn.func 85) #[] #[.pointer (some ⟨w.heap.size,0,none⟩),.pointer (some ⟨w.heap.size+1,0,none⟩)]] 25);have bf:=Blk.new ((w.alloc (.cells (rgC frm to_ opn false lim) 57)).alloc (.cells #[.slice none 0 0] 53)) 25 #[.func (Fn.func 85) #[] #[.pointer (some ⟨w.heap.size,0,none⟩),.pointer (some ⟨w.heap.size+1,0,none⟩)]];have hz2:((w.alloc (.cells (rgC frm to_ opn false lim) 57)).alloc (.cells #[.slice none 0 0] 53)).heap.size=w.heap.size+1+1:=by simp
 rw [hz2]at bf;have q3:Below w.heap.size w (((w.alloc (.cells (rgC frm to_ opn false lim) 57)).alloc (.cells #[.slice none 0 0] 53)).alloc (.cells #[.func (Fn.func 85) #[] #[.pointer (some ⟨w.heap.size,0,none⟩),.pointer (some ⟨w.heap.size+1,0,none⟩)]] 25)):=(((y7 _ _).alloc (y5 _) _).alloc (by simp) _).alloc (by simp;omega) _;have BX:=zz bx;have BL:=zz bl;have BF:=zz bf;have HQ:=zz q3;clear bx bl bf hz2 q3;unfold rgC at BX BL BF HQ ⊢;go_enter func51,ntmps51
 go_wp2_with fail
 generalize hgw:(((w.alloc (.cells #[.string (st frm),.string (st to_),.bool opn,.bool false,.int .i64 lim] 57)).alloc (.cells #[.slice none 0 0] 53)).alloc (.cells #[.func (Fn.func 85) #[] #[.pointer (some ⟨w.heap.size,0,none⟩),.pointer (some ⟨w.heap.size+1,0,none⟩)]] 25))=W at*;clear hgw;have hlx:=BX.out.lt;have hll:=BL.out.lt;have hlf:=BF.out.lt;obtain⟨X,hX⟩:∃X,C.drop (z05 s.pg.2.2 frm)=X:=⟨_,rfl⟩;have HX:=zz hX;have hXl:X.length<=1000000:=by rw [<-hX,yI];omega
 have hTak:Tak 87 #[.pointer (some ⟨w.heap.size+1+1,0,none⟩),.pointer (some ⟨w.heap.size,0,none⟩),.pointer (some ⟨w.heap.size+1,0,none⟩)] (RgJ w.heap.size (w.heap.size+1) w.heap.size (w.heap.size+1+1) frm to_ opn lim) (RgE w.heap.size (w.heap.size+1) to_ opn lim) X:=
  ⟨fun _ _=>rfl,fun T cc R fp wr hXX hJ=>zE2 _ _ _ _ _ _ _ _ T fp cc.1 cc.2 wr hJ (by rw [hXX]at hXl;simp at hXl;omega) (Nat.le_of_lt (QY (hJ.lt _ hJ.fl).1 (hJ.lt _ hJ.fl).2)),fun T fp wr wr' hJ hb hz=>hJ.stay hb hz⟩
 have hJ0:RgJ w.heap.size (w.heap.size+1) w.heap.size (w.heap.size+1+1) frm to_ opn lim [] (fun q=>q=w.heap.size+1∨q=w.heap.size∨q=w.heap.size+1+1) W:=
  ⟨⟨none,0,BL.out,Ya _ _ _ _,fun q hq=>(by cases hq)⟩,BX.out,BF.out,.inl rfl,.inr (.inl rfl),.inr (.inr rfl),by omega,fun q hq=>(by rcases hq with rfl|rfl|rfl<;>omega),fun _ h=>(by cases h),by simp;omega⟩
 have hfr:=zGJ g Z P c frm n0 m0 l s 87 #[.pointer (some ⟨w.heap.size+1+1,0,none⟩),.pointer (some ⟨w.heap.size,0,none⟩),.pointer (some ⟨w.heap.size+1,0,none⟩)] (RgJ w.heap.size (w.heap.size+1) w.heap.size (w.heap.size+1+1) frm to_ opn lim) (RgE w.heap.size (w.heap.size+1) to_ opn lim) C _ w W HT.out HQ.out HW.out hL HC.out (by rw [hX];exact hTak) hJ0 (fun q hq=>by rcases hq with rfl|rfl|rfl<;>omega);rw [hX]at hfr ⊢;refine hfr.mono ?_;rintro e w5 ⟨rfl,hb5,hres⟩;obtain⟨T,A5,c5,hT,hB5,hC5⟩:∃T A c,z5z X to_ opn lim=T/\Blk w5 (w.heap.size+1) 53 #[.slice A T.length c]/\Co w5 w.heap.size (.slice A T.length c) T:=by
  rcases hres with⟨fp,hJ⟩|⟨T,cc,R,hXX,⟨A,c,h1,h2⟩,h3,h4,h5⟩
  .obtain⟨A,c,h1,h2,_⟩:=hJ.l;exact⟨X,A,c,zDz hJ.ok hJ.lm,h1,h2⟩
  .exact⟨T,A,c,by rw [hXX];exact zBg h3 h4 h5,h1,h2⟩
 have HB5:=zz hb5;have HC5:=zz hC5;have HTT:=zz hT;have l50:w5.cell? ⟨w.heap.size+1,0,none⟩=some (.slice A5 T.length c5):=hB5.cell 0;clear hfr hTak hJ0 hres hb5 hC5 hB5 hX hT;go_wp2_with fail
 go_ret
 rw [HX.out,HTT.out];exact⟨A5,c5,rfl,HC5.out,HB5.out⟩
end
end Go.Proofs.YthnlcbamjehpdaaGreatDoor
