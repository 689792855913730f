/- Part 36. -/
import Derived.Test.YtdkobefpnjbgnaaGreatDoorMovePutsJ35
namespace Go.Proofs.YtdkobefpnjbgnaaGreatDoor
set_option linter.unusedVariables false
set_option maxHeartbeats 16000000
set_option maxRecDepth 100000
section
open Go Go.RowKit
theorem Bare.mt{D:Dsk}(b:Bare D):z1a D.view 0=(0,1,[]):=by
 have h0:D.view (0+0)=none:=b.out _ (by omega);have h1:D.view (0+1)=none:=b.out _ (by omega);unfold z1a z5h;rw [h0];simp only;rw [h1]
theorem Bare.opens{D:Dsk}(b:Bare D):z5i D 0 200=some (z1Q D 0 200 0 1 (0,fun _=>none)):=by
 unfold z5i;rw [b.mt,if_pos rfl]
theorem Bare.pages{D:Dsk}(b:Bare D):(z1Q D 0 200 0 1 (0,fun _=>none)).pages.length=0:=(zF5 1000 (fun _=> [])).len
theorem Bare.lone{D:Dsk}(b:Bare D)(c:Int→List UInt8):∀i x,((z1Q D 0 200 0 1 (0,fun _=>none)).wp 0 (true,0,[])).pg c i=some x→x.1=true∧x.2.2= []:=fun i x hx=>by
 have h:=(z94 ⟨1,1,480⟩ 1000 c).rep.rep;have e:((z1Q D 0 200 0 1 (0,fun _=>none)).wp 0 (true,0,[])).pg c i=(fT 1000).pg c i:=by
  have h1:=z8H D 1000;have h2:opP (z1Q D 0 200 0 1 (0,fun _=>none))=(z1Q D 0 200 0 1 (0,fun _=>none)).wp 0 (true,0,[]):=if_pos b.pages;rw [←h2,h1];rfl
 rw [e]at hx;obtain⟨i',rfl,hm⟩:=(h.get _ _).1 hx;have hm2:(i',x)=(0,((true,0,[]):Pag)):=by simpa [zCo,Ct.subs,Ct.page]using hm
 injection hm2 with _ hm2
 subst hm2;exact⟨rfl,rfl⟩
section
variable {Q:Prm} {w W W':World} {gs g gl pd:Nat} {Z:Pz} {P:Pgr} {c:Int→List UInt8} {l:Wl} {R:List (List UInt8)} {L:List Cel}
end
end
section
open Go
def QV:Prm:=⟨1,2,139⟩
theorem zEz:QV.Ok:=⟨by decide,by decide,by decide,by decide,by decide,by decide⟩
def Tv(P:Pgr)(c:Int→List UInt8)(D:Nat)(t:Ct D):Prop:=Tree QV P c D t∧D≤3∧1+(Ct.subs D t).length+zIa D≤90
def VT(P:Pgr)(c:Int→List UInt8)(L:List Cel):Prop:=∃D,∃t:Ct D,Tv P c D t∧Ct.cells D t=L
theorem Tree.onV{Q:Prm}{P:Pgr}{c:Int→List UInt8}{D:Nat}{t:Ct D}(T:Tree Q P c D t)(D':Dsk):Tree Q (P.on D') c D t:=by
 obtain⟨⟨a1,a2⟩,h2,h3,h4,h5,h6⟩:=T;exact⟨⟨a1,a2⟩,h2,h3,h4,h5,h6⟩
theorem VT.on{P:Pgr}{c:Int→List UInt8}{L:List Cel}(h:VT P c L)(D':Dsk):VT (P.on D') c L:=by
 obtain⟨D,t,⟨T,a,b⟩,e⟩:=h;exact⟨D,t,⟨T.onV D',a,b⟩,e⟩
theorem zHw(D:Nat)(t:Ct D):wS z8Q D t+wS wHi D t=1+(Ct.subs D t).length:=by
 rw [←z6N D t];exact zEZ z8Q wHi _ (fun h n=>by unfold z8Q wHi;split<;>split<;>omega) D t
theorem zJ6(D:Nat):zIa D≤1:=by unfold zIa;split<;>omega
theorem z9o{c:Int→List UInt8}:∀ (ps:List Chg) (P:Pgr) {D0 l0 h0 f0 k:Nat} {L:List Cel} {D:Nat} {t:Ct D},Bat QV P c D0 l0 h0 f0 k L D t→1+(Ct.subs D t).length+zIa D≤90→∀ {n:Nat},k+ps.length≤n→n≤11→l0+h0+8+2*n≤90→
 (∀x∈ps,x.gone=false∧x.k.length≤139∧x.k.length+x.v.length≤480)→z4x QV c P L ps∧VT (chgsP c P L ps) c (z3Z L ps)
 | [],P,D0,l0,h0,f0,k,L,D,t,b,hs,n,_,_,_,_=>⟨trivial,D,t,⟨b.tree,b.d3,hs⟩,b.cells⟩
 |x::ps,P,D0,l0,h0,f0,k,L,D,t,b,hs,n,hk,hn,hr,hx=>by
  rw [List.length_cons]at hk;obtain⟨hg,hxk,hxl⟩:=hx x (by simp);have hroom:=b.room zEz (n:=n) (by omega) hr;obtain⟨-,-,-,D',t',b',hs'⟩:=b.put zEz (by decide) (n:=n) (by omega) hn hr (x:=(x.k,x.v)) hxk hxl;have eP:chgP P c L x=(putW P c (x.k,x.v)).1:=by unfold chgP;rw [hg];rfl
  have eC:z9W L x=putC L (x.k,x.v):=by unfold z9W;rw [hg];rfl
  have hlow:=zJ6 D';obtain⟨h1,h2⟩:=z9o ps (putW P c (x.k,x.v)).1 b' (by omega) (n:=n) (by omega) hn hr fun y hy=>hx y (by simp [hy])
  refine⟨⟨⟨D,t,b.tree,b.cells,?_⟩,by rw [eP,eC];exact h1⟩,?_⟩
  ·unfold z9k;rw [hg];exact⟨hxk,hxl,hroom⟩
  ·show VT (chgsP c (chgP P c L x) (z9W L x) ps) c (z3Z (z9W L x) ps);rw [eP,eC];exact h2
theorem zFa{P:Pgr}{c:Int→List UInt8}{L:List Cel}(h:VT P c L){ps:List Chg}(hp:∀x∈ps,x.gone=false∧x.k.length≤139∧x.k.length+x.v.length≤480)(hm:z4X P ps=0):
 ∀D',z4x QV c (P.on D') L ps∧VT (chgsP c (P.on D') L ps) c (z3Z L ps):=by
 intro D';obtain⟨D,t,⟨T0,hd3,hs⟩,e⟩:=h;obtain⟨m1,-,m3⟩:=z6R hm;have hpn:z2N ps=ps.length:=by
  unfold z2N;rw [List.filter_eq_self.2 fun x hx=>by simp [(hp x hx).1]]
 have hlen:P.pages.length=1+(Ct.subs D t).length:=by
  have:=T0.rep.len;simpa [zCo,Nat.add_comm]using this
 have T:=T0.onV D';have hlh:=zHw D t;subst e;exact z9o ps (P.on D') (zFB T hd3) hs (n:=ps.length) (by omega) (by omega) (by omega) hp
end
section
open Go Go.RowKit
section
variable {Q:Prm} {P:Pgr} {c:Int→List UInt8} {D:Nat} {t:Ct D}
theorem Tree.range(hQ:Q.Ok)(T:Tree Q P c D t)(hC:(Ct.cells D t).length≤1000000){W:World}{g:Nat}{Z:Pz}(hT:Tg W g Z P c)(frm to_:Key)(opn:Bool)(lim:Int):
 Calls Tryz.prog 55 #[.pointer (some ⟨g,0,none⟩),.agg (rgC frm to_ opn false lim)] W (RangePost (z4n (Ct.cells D t) frm to_ opn lim) W):=by
 obtain⟨w,n,cs,h,cx,h1,h2,h3,a⟩:=T.way frm;have hw:w=(cx.steps h).reverse++ [⟨(h:Int),0,(true,n,cs)⟩]:=by
  have:=congrArg List.reverse h3;rw [List.reverse_reverse,List.reverse_cons]at this;exact this
 have hD:=T.deep hQ;have hl:(cx.steps h).reverse.length≤999:=by
  rw [hw,List.length_append]at h2;simp at h2 ⊢;omega
 obtain⟨e1,e2,e3⟩:=a.cells;have hrg:=zCi g Z P c frm to_ opn lim (D+1) 91 _ _ (cs++cx.cr) W hT (by rw [h1,hw]) hl (T.chain a) (by
  rw [e1,List.append_assoc,List.length_append]at hC;omega)
 have e0:z5g ((cs++cx.cr).drop (z0B (⟨(h:Int),0,(true,n,cs)⟩:TStp).pg.2.2 frm)) to_ opn lim=z4n (Ct.cells D t) frm to_ opn lim:=by
  unfold z4n z6o z5g;rw [e1,z4V e2 e3,List.append_assoc,←List.drop_drop,List.drop_left]
 rw [e0]at hrg;exact hrg
end
def RgAt(g:Nat)(L:List Cel)(w:World):Prop:=∀wg (frm to_:Key) (opn:Bool) (lim:Int),Below w.heap.size w wg→Calls Tryz.prog 55 #[.pointer (some ⟨g,0,none⟩),.agg (rgC frm to_ opn false lim)] wg (RangePost (z4n L frm to_ opn lim) wg)
theorem RgAt.later{g:Nat}{L:List Cel}{w w':World}(h:RgAt g L w)(hb:Below w.heap.size w w'):RgAt g L w':=fun wg frm to_ opn lim hw=>h wg frm to_ opn lim (hb.trans (hw.mono hb.size))
theorem zCL(p:Int)(b:List UInt8):∀ (m k:Nat) (D:Dsk),(z3y D p b m k).1.pend.length≤D.pend.length+m
 |0,k,D=>by rw [z3y];exact Nat.le_refl _
 |m+1,k,D=>by
  rw [z3y]
  split
  ·split
   ·rename_i hw;have ih:=zCL p b m (k+1) (D.write (p+(k:Int)) ((b.drop (512*k)).take 512));have e:(D.write (p+(k:Int)) ((b.drop (512*k)).take 512)).pend.length=D.pend.length+1:=by unfold Dsk.write;rw [if_pos hw];simp [Dsk.put]
    omega
   ·exact Nat.le_add_right _ _
  ·exact Nat.le_add_right _ _
theorem z9r{l:Wl}(ok:l.Ok)(t:List UInt8):(z0P l t).1.D.pend.length≤l.D.pend.length+512*l.size∧(z0P l t).1.size=l.size:=by
 obtain⟨q,hq⟩:∃q,q=(l.last+1)%U64:=⟨_,rfl⟩;obtain⟨head,hh⟩:∃head,head=z6u q titleB:=⟨_,rfl⟩;obtain⟨b,hb⟩:∃b,b=z6u q t:=⟨_,rfl⟩;by_cases hlong:32768<t.length∨512*l.size<head.length+b.length
 ·rw [z2W hq hh hb hlong];exact⟨Nat.le_add_right _ _,rfl⟩
 have key:∀ {L:List Sg} {s:List UInt8} {i:Nat} {fr:Bool},ApC l q head b L s i fr→(z0P l t).1.D.pend.length≤l.D.pend.length+512*l.size∧(z0P l t).1.size=l.size:=by
  intro L s i fr c;obtain⟨r,hr⟩:∃r,z3y l.D (l.a+(i:Int)*l.size) (s++b) (s++b).length (z1L l fr / 512)=r:=⟨_,rfl⟩;have h1:=zCL (l.a+(i:Int)*l.size) (s++b) (s++b).length (z1L l fr / 512) l.D;have h2:=(c.lens ok hlong).1;rw [hr]at h1;by_cases h0:r.2=0
  ·rw [z40 hq hh hb hlong c hr h0];exact⟨by show r.1.pend.length≤_;omega,rfl⟩
  ·rw [z5V hq hh hb hlong c hr h0];cases fr with
   |true=>exact⟨Nat.zero_le _,rfl⟩
   |false=>exact⟨by show r.1.pend.length≤_;omega,rfl⟩
 by_cases hfr:l.stream= []∨512*l.size<l.stream.length+b.length
 ·cases hw:z3Q l.live l.n with
  |none=>rw [z3U hq hh hb hlong hfr hw];exact⟨Nat.le_add_right _ _,rfl⟩
  |some i=>exact key (L:=l.live++ [⟨i,q,0⟩]) (s:=head) (i:=i) (fr:=true) ⟨fun _=>⟨hfr,hw,rfl,rfl⟩,fun e=>(by cases e)⟩
 ·exact key (L:=l.live) (s:=l.stream) (fr:=false) ⟨fun e=>(by cases e),fun _=>⟨hfr,rfl,rfl,rfl⟩⟩
structure Sy(w W:World)(gs g gl:Nat)(Z:Pz)(P:Pgr)(c:Int→List UInt8)(l:Wl)(N:Nat)(L:List Cel):Prop where
 s:Sto W gs g gl Z P c l
 tree:VT P c L
 tb:P.tb=fun _=>none
 new:∀b,Z.has b→w.heap.size≤b
 gsn:w.heap.size≤gs
 gn:w.heap.size≤g
 gln:w.heap.size≤gl
 below:Below w.heap.size w W
 size:l.size=16
 pend:l.D.pend.length≤8192*N
 len:L.length≤11*N
section
variable {w W W':World} {gs g gl:Nat} {Z Z':Pz} {P P':Pgr} {c:Int→List UInt8} {l l':Wl} {N:Nat} {L:List Cel}
theorem Sy.later(x:Sy w W gs g gl Z P c l N L)(hb:Below W.heap.size W W'):Sy w W' gs g gl Z P c l N L:=
 ⟨x.s.later hb,x.tree,x.tb,x.new,x.gsn,x.gn,x.gln,x.below.trans (hb.mono x.below.size),x.size,x.pend,x.len⟩
theorem Sy.range(x:Sy w W gs g gl Z P c l N L)(hN:N≤90):RgAt g L W:=fun wg frm to_ opn lim hb=>by
 obtain⟨D,t,⟨T,-,-⟩,rfl⟩:=x.tree;exact T.range zEz (by have:=x.len;omega) (x.s.T.later hb) frm to_ opn lim
theorem zH3(x:Sy w W gs g gl Z P c l N L)(v0:Value){cs:List Chg}(hr:Ch (fun b=>¬Z.has b∧b≠gl) W v0 cs)(hl:cs.length≤1000000)
 (hd:∀x∈cs,x.k.length≤65536∧x.v.length≤65536) (hrun:z4X P cs=0→∀D',z4x QV c (P.on D') L cs∧VT (chgsP c (P.on D') L cs) c (z3Z L cs)) (hdl:∀y∈cs,y.gone=true→zCX QV) (hN:N≤90) {ps':Nat} (hps:gs=ps'):
 Calls Tryz.prog 62 #[.pointer (some ⟨ps',0,none⟩),v0] W fun e W'=>∃n er:Nat,e= .returned (.tuple #[.int .u64 (n:Int),.int .i64 (er:Int)])∧(z4X P cs=0→(z0P l (z1S cs)).2.2=0→er=0)∧∃Z' P' l',Sy w W' gs g gl Z' P' c l' (N+1) (if er=0 then z3Z L cs else L)∧Sop gl Z W Z' W':=by
 subst hps;have hst:∀D,z4F D P.a P.tb c:=fun D=>by
  rw [x.tb];intro i p l h;cases h
 have hpe:=x.pend;have hap:=z9r x.s.ok (z1S cs);rw [x.size]at hap;refine(zEt zEz gs g gl Z P c L l cs W v0 x.s hr ⟨hl,hd⟩ (by omega) (fun hm=>⟨hst _,fun _=>(hrun hm _).1⟩) hdl).mono ?_;rintro e W' ⟨he,Z',hdn⟩;obtain⟨hb1,hn1⟩:=Sop.to_below hdn.o x.below x.new x.gln;refine⟨_,_,he,fun h1 h2=>(by unfold z2u;rw [if_pos h1,if_pos h2]),Z',_,_,⟨hdn.s,?_,?_,hn1,x.gsn,x.gn,x.gln,hb1,?_,?_,?_⟩,hdn.o⟩
 ·unfold z2u;by_cases hm:z4X P cs=0
  ·rw [if_pos hm];by_cases h0:(z0P l (z1S cs)).2.2=0
   ·rw [if_pos h0,if_pos rfl];exact(hrun hm _).2
   ·rw [if_neg h0,if_neg h0];exact x.tree.on _
  ·rw [if_neg hm,if_neg hm];exact x.tree
 ·unfold z2u
  split
  ·split
   ·exact((Kin.chgsP c _ _ L).tb.trans rfl).trans x.tb
   ·exact x.tb
  ·exact x.tb
 ·unfold z2u
  split
  ·split
   ·exact hap.2
   ·exact hap.2
  ·exact x.size
 ·unfold z2u
  split
  ·split
   ·show(z0P l (z1S cs)).1.D.pend.length≤_;omega
   ·show(z0P l (z1S cs)).1.D.pend.length≤_;omega
  ·show l.D.pend.length≤_;omega
 ·have hlen:=x.len
  split
  ·rename_i h0;have hm:z4X P cs=0:=by
    by_cases hm:z4X P cs=0
    ·exact hm
    ·unfold z2u at h0;rw [if_neg hm]at h0;exact absurd h0 hm
   have h1:=z7X cs L;have h2:=z8O cs;have h3:=(z6R hm).1;omega
  ·omega
end
theorem vt_new(D:Dsk)(c:Int→List UInt8):VT ((opP (z1Q D 0 200 0 1 (0,fun _=>none))).on D) c []:=by
 refine⟨0,(show Ct 0 from(0,[])),⟨?_,by omega,by simp [Ct.subs,zIa]⟩,rfl⟩;rw [z8H D 1000];exact((z94 QV 1000 c).on D).on _
def logNew:Wl:={D:=(Dsk.new 1000).sync,a:=802,n:=8,size:=16,live:= [],stream:= [],last:=0,synced:=0}
theorem zFD{w W:World}{h:Zn}(d:Dp w W h (Dsk.new 1000))(c:Int→List UInt8)(hb:BitsOk W)(h0:0<w.heap.size){pd:Nat}(hpd:h.g=pd):
 Calls Tryz.prog 54 #[.pointer (some ⟨pd,0,none⟩)] W fun e W'=>∃gs g gl Z P l,e= .returned (.tuple #[.pointer (some ⟨gs,0,none⟩),.int .i64 0])∧Sy w W' gs g gl Z P c l 0 []∧(l=logNew∧P.pages.length=1)∧Turn h.has W W'∧(∀b,Z.has b→h.has b∨W.heap.size≤b)∧W.heap.size≤gs∧W.heap.size≤g∧W.heap.size≤gl:=by
 subst hpd;have b:=Bare.new;have hno:=zCf (D:=Dsk.new 1000) (fun _=>rfl) 802 8 16 0;have hck:zGG ((opP (z1Q (Dsk.new 1000) 0 200 0 1 (0,fun _=>none))).pg c) (opP (z1Q (Dsk.new 1000) 0 200 0 1 (0,fun _=>none))).pages.length=true:=by
  rw [z8H (Dsk.new 1000) 1000];have h:=(z94 ⟨1,1,480⟩ 1000 c).rep;have hl:((fT 1000).on (Dsk.new 1000)).pages.length=1:=h.len;rw [hl];exact zHf (h.rep.at (i:=0) (by simp [zCo,Ct.page]))
 refine(zHA zEz h (Dsk.new 1000) c [] (z1Q (Dsk.new 1000) 0 200 0 1 (0,fun _=>none)) W d.dk b.ok hb (fun e=>by have:=d.new 0 e;omega) (zD8 h (Dsk.new 1000) 0 200 W d.dk b.ok ⟨by omega,by omega,by omega,by omega⟩ (by rw [b.mt])) (fun Z w1 hp hb1 hz=>zDU Z _ c w1 hp (b.pr c) hb1 hz b.pages (b.lone c)) b.opens (b.pr c) hck (by rw [b.pend];simp) (fun i p l h=>(by cases h)) (by rw [show(z1Q (Dsk.new 1000) 0 200 0 1 (0,fun _=>none)).tag=0 from rfl,hno];trivial) fun hne=> ?_).mono ?_
 ·exact absurd (by rw [show(z1Q (Dsk.new 1000) 0 200 0 1 (0,fun _=>none)).tag=0 from rfl,hno]) hne
 rintro e W' ⟨gs,g,gl,Z,rfl,hs,hg,hzn,h1,h2,h3,htu⟩;rw [show(z1Q (Dsk.new 1000) 0 200 0 1 (0,fun _=>none)).tag=0 from rfl,hno]at hs;have hsz:=d.below.size;refine⟨gs,g,gl,Z,_,_,rfl,⟨hs,vt_new _ c,?_,fun x hx=>(hzn x hx).elim (d.new x) fun h=>Nat.le_trans hsz h,Nat.le_trans hsz h1,Nat.le_trans hsz h2,Nat.le_trans hsz h3,Turn.below d.below htu hsz d.new,rfl,Nat.zero_le _,Nat.zero_le _⟩,⟨rfl,?_⟩,htu,hzn,h1,h2,h3⟩
 ·exact((Zero.new (Dsk.new 1000)).on _).tb
 ·show((opP (z1Q (Dsk.new 1000) 0 200 0 1 (0,fun _=>none))).on (Dsk.new 1000)).pages.length=1;rw [z8H (Dsk.new 1000) 1000];exact(z94 ⟨1,1,480⟩ 1000 c).rep.len
def z48(ws:List Wri)(i:Nat):Option Key:=if i=0 then none else(ws[i-1]?).map (·.k)
theorem zCu{ws:List Wri}{i:Nat}(h:i<ws.length):z4L (z48 ws i) (ws.drop i)=
 if z97 ws[i]≠0 then z97 ws[i]else if zAI (z48 ws i) ws[i].k=true then 54 else z4L (z48 ws (i+1)) (ws.drop (i+1)):=by
 rw [List.drop_eq_getElem_cons h,z4L];have e:z48 ws (i+1)=some ws[i].k:=by
  unfold z48;rw [if_neg (by omega),Nat.add_sub_cancel,List.getElem?_eq_getElem h];rfl
 rw [e]
theorem zDY{ws:List Wri}{j:Nat}(h:j<ws.length):z48 ws (j+1)=some ws[j].k:=by
 unfold z48;rw [if_neg (by omega),Nat.add_sub_cancel,List.getElem?_eq_getElem h];rfl
theorem zDD(S:Nat→Prop)(v0:Value)(ws:List Wri)(w:World)(hr:Wrs S w v0 ws)(hs:∀x∈ws,x.v.length≤9223372036854775807∧x.k.length≤9223372036854775807):
 Calls Tryz.prog 58 #[.agg #[.int .u64 0,.int .u64 0,.int .u64 0,v0]] w fun e w'=>e= .returned (.int .i64 (z7I ws:Int))∧Below w.heap.size w w':=by
 have HS:=zz hs;obtain⟨A,c,rfl,hlc,hcm,-,hA⟩:=hr.lt.at;have HA:=zz hA;have hm:ws.length≤9223372036854775807:=by unfold maxLen at hcm;omega
 have hb:=Blk.new w 126 #[.int .u64 0,.int .u64 0,.int .u64 0,.slice A ws.length c];have q1:=(Below.refl w.heap.size w).alloc (Nat.le_refl _) (.cells #[.int .u64 0,.int .u64 0,.int .u64 0,.slice A ws.length c] 126);clear hA hr hs;by_cases h0:ws.length=0
 ·have HE:Hid (z7I ws=50):=by rw [Hid];unfold z7I;rw [if_pos (List.eq_nil_of_length_eq_zero h0)]
  have e1:((ws.length:Int)==0)=true:=by rw [beq_iff_eq];omega
  clear h0 HS HA;go_enter Tryz.func58,Tryz.ntmps58
  go_wp2_with fail
  go_ret
  exact⟨by rw [HE.out];rfl,q1⟩
 have e1:((ws.length:Int)==0)=false:=by rw [beq_eq_false_iff_ne];omega
 have HNE:Hid (¬ws= []):=fun e=>h0 (by rw [e];rfl)
 clear h0;by_cases h8:8<ws.length
 ·have HE:Hid (z7I ws=51):=by rw [Hid];unfold z7I;rw [if_neg HNE.out,if_pos h8]
  have e2:decide ((8:Int)<(ws.length:Int))=true:=by rw [decide_eq_true_eq];omega
  clear HS HA;go_enter Tryz.func58,Tryz.ntmps58
  go_wp2_with fail
  go_ret
  exact⟨by rw [HE.out];rfl,q1⟩
 have e2:decide ((8:Int)<(ws.length:Int))=false:=by rw [decide_eq_false_iff_not];omega
 have R0:Hid (z7I ws=z4L (z48 ws 0) (ws.drop 0)∧Hid (Below w.heap.size w (w.alloc (.cells #[.int .u64 0,.int .u64 0,.int .u64 0,.slice A ws.length c] 126)))∧Hid (Blk (w.alloc (.cells #[.int .u64 0,.int .u64 0,.int .u64 0,.slice A ws.length c] 126)) w.heap.size 126 #[.int .u64 0,.int .u64 0,.int .u64 0,.slice A ws.length c])):=by
  refine⟨?_,q1,hb⟩;unfold z7I;rw [if_neg HNE.out,if_neg h8];rfl
 have hl8:ws.length≤8:=by omega
 clear h8 HNE q1 hb;go_enter Tryz.func58,Tryz.ntmps58
 go_wp2_with fail
 clear e1 e2;go_loopw [19] (fun iv wr=>∃i:Nat,iv= .int .i64 (i:Int)∧i≤ws.length∧Hid (z7I ws=z4L (z48 ws i) (ws.drop i)∧Hid (Below w.heap.size w wr)∧Hid (Blk wr w.heap.size 126 #[.int .u64 0,.int .u64 0,.int .u64 0,.slice A ws.length c]))) (fun iv _=>ws.length-(intOf iv).toNat)
 case atStart=>exact⟨0,rfl,by omega,R0⟩
 case round=>
  clear R0;obtain⟨i,rfl,hi,RR⟩:=hrel;have hck:=RR.out.1;have hbl:=RR.out.2.1.out;have HBB:=zz RR.out.2.2.out;by_cases hil:i<ws.length
  ·obtain⟨b,o,rfl,hbs,hc⟩:=HA.out (by omega);have c0:wr.cell? ⟨b,o+i*3,none⟩=some (.string (st ws[i].k)):=(hbl.cell (p:=⟨b,o+i*3,none⟩) hbs.2).trans (hc i hil).1;have c1:wr.cell? ⟨b,o+i*3+1,none⟩=some (.string (st ws[i].v)):=(hbl.cell (p:=⟨b,o+i*3+1,none⟩) hbs.2).trans (hc i hil).2.1;have c2:wr.cell? ⟨b,o+i*3+2,none⟩=some (.bool ws[i].gone):=(hbl.cell (p:=⟨b,o+i*3+2,none⟩) hbs.2).trans (hc i hil).2.2;have hsx:=HS.out _ (List.getElem_mem hil);rw [zCu hil]at hck;have HCK:=zz hck;have HCC:Hid (∀j,(hj:j<ws.length)→wr.cell? ⟨b,o+j*3,none⟩=some (.string (st ws[j].k))):=fun j hj=>(hbl.cell (p:=⟨b,o+j*3,none⟩) hbs.2).trans (hc j hj).1
   obtain⟨x,hx0⟩:∃x,ws[i]=x:=⟨_,rfl⟩;rw [hx0]at c0 c1 c2 hsx HCK;have q3:Below wr.heap.size wr (wr.alloc (.cells #[.string (st x.k),.string (st x.v),.bool x.gone] 49)):=(Below.refl _ _).alloc (Nat.le_refl _) _;have HQ3:=zz (hbl.trans (q3.mono hbl.size));have HB3:=zz (HBB.out.later q3);have HX3:=zz (Blk.new wr 49 #[.string (st x.k),.string (st x.v),.bool x.gone]);have HC3:Hid (∀j,(hj:j<ws.length)→(wr.alloc (.cells #[.string (st x.k),.string (st x.v),.bool x.gone] 49)).cell? ⟨b,o+j*3,none⟩=some (.string (st ws[j].k))):=fun j hj=>cell_later q3 (HCC.out j hj)
   have HBW:=zz (zDh x (wr.alloc (.cells #[.string (st x.k),.string (st x.v),.bool x.gone] 49)) hsx.1 hsx.2);clear hx0 hc hck RR hbl q3 hsx HCC HBB;obtain⟨k,v,gn⟩:=x;simp only at c0 c1 c2 HQ3 HB3 HX3 HC3 HBW HCK;go_wp2_with fail
   generalize hW:wr.alloc (.cells #[.string (st k),.string (st v),.bool gn] 49)=W at*;clear hW;refine HBW.out.mono ?_;rintro e w4 ⟨rfl,hb4⟩;have hq4:=HQ3.out.trans (hb4.mono HQ3.out.size);have hx4:=HX3.out.later hb4;have hbb4:=HB3.out.later hb4;have HC4:Hid (∀j,(hj:j<ws.length)→w4.cell? ⟨b,o+j*3,none⟩=some (.string (st ws[j].k))):=fun j hj=>cell_later hb4 (HC3.out j hj)
   obtain⟨N,hN⟩:∃N,z97 ⟨k,v,gn⟩=N:=⟨_,rfl⟩;rw [hN]at HCK ⊢;clear HBW hb4 HC3 HX3 HB3 HQ3 hN c0 c1 c2;by_cases hz:N=0
   ·subst hz;have HCK2:Hid (z7I ws=if zAI (z48 ws i) k=true then 54 else z4L (z48 ws (i+1)) (ws.drop (i+1))):=by
     have h:=HCK.out;rw [if_neg (by simp)]at h;exact h
    have g3:w4.cell? ⟨w.heap.size,3,none⟩=some (.slice (some ⟨b,o,none⟩) ws.length c):=hbb4.cell 3;have x0:w4.cell? ⟨wr.heap.size,0,none⟩=some (.string (st k)):=hx4.cell 0;have HQ4:=zz hq4;have HBB4:=zz hbb4;clear HCK hq4 hbb4 hx4;generalize wr.heap.size=gx at*;rcases i with _|j
    ·have HCK3:Hid (z7I ws=z4L (z48 ws 1) (ws.drop 1)):=by
      have h:=HCK2.out;rw [if_neg (by simp [z48,zAI])]at h;exact h
     clear HCK2 HC4;go_wp2_with fail
     refine z01 (by kernel_rfl) (by kernel_rfl) ?_;apply Exists.intro;apply And.intro
     ·repeat(first
       |(apply z04 rfl
         intro K hK;go_simp;refine hK _ ?_;clear hK K)
       |(apply z09 rfl
         ·intro wg hwg _;have g3':=cell_later hwg g3;have x0':=cell_later hwg x0;unfold z07;go_simp
          first
           |exact z00 _ _
         intro K hK;go_simp;refine hK _ ?_;clear hK K))
      refine z08 (fun wg hwg _=> ?_);have RF:Hid (z7I ws=z4L (z48 ws 1) (ws.drop 1)∧Hid (Below w.heap.size w wg)∧Hid (Blk wg w.heap.size 126 #[.int .u64 0,.int .u64 0,.int .u64 0,.slice (some ⟨b,o,none⟩) ws.length c])):=⟨HCK3.out,HQ4.out.trans (hwg.mono HQ4.out.size),HBB4.out.later hwg⟩;clear hwg HQ4 HBB4 HCK3;go_wp2_with fail
      go_roundw
      case rel=>exact⟨1,by go_num,by omega,RF⟩
      case measure=>simp [intOf];omega
     ·apply And.intro
      ·repeat(first|exact trivial|(refine⟨Stays.is _,?_⟩)|(refine⟨Stays.bs _,?_⟩)|(refine⟨Stays.pg _ _ _,?_⟩))
      ·rfl
    ·have hjl:j<ws.length:=by omega
     have c5:=HC4.out j hjl;have HP:=zz (zDY hjl);have hib2:(0:Int)≤(j:Int):=by omega
     have hwj:IntKind.i64.wrap (j:Int)=(j:Int):=IntWalk.i64_in _ (by omega);obtain⟨y,hy⟩:∃y,ws[j].k=y:=⟨_,rfl⟩;rw [hy]at c5 HP;clear hy HC4;cases hbs2:Op.bytesLess y k with
     |true=>
      have HCK3:Hid (z7I ws=z4L (z48 ws (j+1+1)) (ws.drop (j+1+1))):=by
       have h:=HCK2.out;rw [HP.out,if_neg (by simp [zAI,hbs2])]at h;exact h
      clear HCK2 HP;go_wp2_with fail
      refine z01 (by kernel_rfl) (by kernel_rfl) ?_;apply Exists.intro;apply And.intro
      ·repeat(first
        |(apply z04 rfl
          intro K hK;go_simp;refine hK _ ?_;clear hK K)
        |(apply z09 rfl
          ·intro wg hwg _;have c5':=cell_later hwg c5;have g3':=cell_later hwg g3;have x0':=cell_later hwg x0;unfold z07;go_simp
           first
            |exact z00 _ _
          intro K hK;go_simp;refine hK _ ?_;clear hK K))
       refine z08 (fun wg hwg _=> ?_);have RF:Hid (z7I ws=z4L (z48 ws (j+1+1)) (ws.drop (j+1+1))∧Hid (Below w.heap.size w wg)∧Hid (Blk wg w.heap.size 126 #[.int .u64 0,.int .u64 0,.int .u64 0,.slice (some ⟨b,o,none⟩) ws.length c])):=⟨HCK3.out,HQ4.out.trans (hwg.mono HQ4.out.size),HBB4.out.later hwg⟩;clear hwg HQ4 HBB4 HCK3;go_wp2_with fail
       go_roundw
       case rel=>exact⟨j+1+1,by go_num,by omega,RF⟩
       case measure=>simp [intOf];omega
      ·apply And.intro
       ·repeat(first|exact trivial|(refine⟨Stays.is _,?_⟩)|(refine⟨Stays.bs _,?_⟩)|(refine⟨Stays.pg _ _ _,?_⟩))
       ·rfl
     |false=>
      have HE:Hid (z7I ws=54):=by
       have h:=HCK2.out;rw [HP.out,if_pos (by simp [zAI,hbs2])]at h;exact h
      clear HCK2 HP;go_wp2_with fail
      refine z01 (by kernel_rfl) (by kernel_rfl) ?_;apply Exists.intro;apply And.intro
      ·repeat(first
        |(apply z04 rfl
          intro K hK;go_simp;refine hK _ ?_;clear hK K)
        |(apply z09 rfl
          ·intro wg hwg _;have c5':=cell_later hwg c5;have g3':=cell_later hwg g3;have x0':=cell_later hwg x0;unfold z07;go_simp
           first
            |exact z00 _ _
          intro K hK;go_simp;refine hK _ ?_;clear hK K))
       refine z08 (fun wg hwg _=> ?_);go_wp2_with fail
       go_ret
       rw [HE.out];exact⟨rfl,HQ4.out.trans (hwg.mono HQ4.out.size)⟩
      ·apply And.intro
       ·repeat(first|exact trivial|(refine⟨Stays.is _,?_⟩)|(refine⟨Stays.bs _,?_⟩)|(refine⟨Stays.pg _ _ _,?_⟩))
       ·rfl
   ·have HE:Hid (z7I ws=N):=by
     have h:=HCK.out;rw [if_pos hz]at h;exact h
    have e5:((N:Int) != 0)=true:=by simp;omega
    clear HCK hz;go_wp2_with fail
    go_ret
    exact⟨by rw [HE.out];rfl,hq4⟩
  ·obtain rfl:i=ws.length:=by omega
   have HE:Hid (z7I ws=0):=by
    rw [List.drop_length,z4L]at hck;exact hck
   clear hck;go_wp2_with fail
   go_ret
   exact⟨by rw [HE.out];rfl,hbl⟩
structure Vv(w:World)(gv gs g:Nat)(l:List Rw)(tl:List Cel)(last hor:Nat):Prop where
 blk:Blk w gv 112 #[.pointer (some ⟨gs,0,none⟩),.int .u64 (last:Int),.int .u64 (hor:Int)]
 sto:∃v1 v2,Blk w gs 118 #[.pointer (some ⟨g,0,none⟩),v1,v2]
 rg:RgAt g (vwC l tl) w
 ok:RowsOk l
 tok:zIO tl
 bits:BitsOk w
theorem Vv.later{w w':World}{gv gs g:Nat}{l:List Rw}{tl:List Cel}{last hor:Nat}(h:Vv w gv gs g l tl last hor)(hb:Below w.heap.size w w'):Vv w' gv gs g l tl last hor:=by
 obtain⟨v1,v2,hs⟩:=h.sto;exact⟨h.blk.later hb,⟨v1,v2,hs.later hb⟩,h.rg.later hb,h.ok,h.tok,h.bits.later hb⟩
def zBb(o:Option Rw):Value:=match o with
 |none=> .tuple #[.string (st []),.bool false]
 |some r=> .tuple #[.string (st r.k),.bool true]
theorem zHp{r:Rw}(h:RwOk r):∃x,VOk x∧(rwC r).take 1= [zAJ r.k x]:=by
 obtain⟨c,cs,hc⟩:=List.exists_cons_of_ne_nil (zIX h);obtain⟨x,hx,rfl⟩:=z39 (r:=r) (c:=c) (by rw [hc];simp);exact⟨x,h.vs x hx,by rw [hc];rfl⟩
end
end Go.Proofs.YtdkobefpnjbgnaaGreatDoor
