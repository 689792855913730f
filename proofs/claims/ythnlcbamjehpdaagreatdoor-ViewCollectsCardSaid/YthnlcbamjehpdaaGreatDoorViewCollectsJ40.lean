/- Part 40. -/
import Derived.Test.YthnlcbamjehpdaaGreatDoorViewCollectsJ21
import Derived.Test.YthnlcbamjehpdaaGreatDoorViewCollectsJ39
namespace Go.Proofs.YthnlcbamjehpdaaGreatDoor
set_option linter.unusedVariables false
set_option maxHeartbeats 16000000
set_option maxRecDepth 100000
section
open Go Go.RowKit Tryz
theorem Bare.mt{D:Dsk}(b:Bare D):z1q D.view 0=(0,1,[]):=by
 have h0:D.view (0+0)=none:=b.out _ (by omega);have h1:D.view (0+1)=none:=b.out _ (by omega);unfold z1q z5x;rw [h0];simp only;rw [h1]
theorem Bare.opens{D:Dsk}(b:Bare D):z8Y D 0 200=some (z20 D 0 200 0 1 (0,fun _=>none)):=by
 unfold z8Y;rw [b.mt,yB rfl]
theorem Bare.pages{D:Dsk}(b:Bare D):(z20 D 0 200 0 1 (0,fun _=>none)).pages.length=0:=(zF2 1000 (fun _=> [])).len
theorem Bare.lone{D:Dsk}(b:Bare D)(c:Int->List UInt8):∀i x,((z20 D 0 200 0 1 (0,fun _=>none)).wp 0 (true,0,[])).pg c i=some x->x.1=true/\x.2.2= []:=fun i x hx=>by
 have h:=(zBF ⟨1,1,480⟩ 1000 c).rep.rep;have e:((z20 D 0 200 0 1 (0,fun _=>none)).wp 0 (true,0,[])).pg c i=(fT 1000).pg c i:=by
  have h1:=zBR D 1000;have h2:opP (z20 D 0 200 0 1 (0,fun _=>none))=(z20 D 0 200 0 1 (0,fun _=>none)).wp 0 (true,0,[]):=yB b.pages;rw [<-h2,h1];rfl
 rw [e]at hx;obtain⟨i',rfl,hm⟩:=(h.get _ _).1 hx;have hm2:(i',x)=(0,((true,0,[]):Pag)):=by simpa [z8q,Ct.subs,Ct.page]using hm
 injection hm2 with _ hm2
 subst hm2;exact⟨rfl,rfl⟩
section
variable {Q:Prm} {P:Pgr} {c:Int->List UInt8} {D:Nat} {t:Ct D}
theorem Tree.range(hQ:Q.Ok)(T:Tree Q P c D t)(hC:(Ct.cells D t).length<=1000000){W:World}{g:Nat}{Z:Pz}(hT:Tg W g Z P c)(frm to_:Key)(opn:Bool)(lim:Int):
 Calls prog 51 #[.pointer (some ⟨g,0,none⟩),.agg (rgC frm to_ opn false lim)] W (RangePost (z34 (Ct.cells D t) frm to_ opn lim) W):=by
 obtain⟨w,n,cs,h,cx,h1,h2,h3,a⟩:=T.way frm;have hw:w=(cx.steps h).reverse++ [⟨(h:Int),0,(true,n,cs)⟩]:=by
  have:=congrArg List.reverse h3;rw [ZM,ZK]at this;exact this
 have hD:=T.deep hQ;have hl:(cx.steps h).reverse.length<=999:=by
  rw [hw,y6]at h2;simp at h2 ⊢;omega
 obtain⟨e1,e2,e3⟩:=a.cells;have hrg:=zEC g Z P c frm to_ opn lim (D+1) 91 _ _ (cs++cx.cr) W hT (by rw [h1,hw]) hl (T.chain a) (by
  rw [e1,yM,y6]at hC;omega)
 have e0:z5z ((cs++cx.cr).drop (z05 (⟨(h:Int),0,(true,n,cs)⟩:TStp).pg.2.2 frm)) to_ opn lim=z34 (Ct.cells D t) frm to_ opn lim:=by
  unfold z34 z7N z5z;rw [e1,z3b e2 e3,yM,<-QU,QT]
 rw [e0]at hrg;exact hrg
end
def RgAt(g:Nat)(L:List Cel)(w:World):Prop:=∀wg (frm to_:Key) (opn:Bool) (lim:Int),Below w.heap.size w wg->Calls prog 51 #[.pointer (some ⟨g,0,none⟩),.agg (rgC frm to_ opn false lim)] wg (RangePost (z34 L frm to_ opn lim) wg)
theorem RgAt.later{g:Nat}{L:List Cel}{w w':World}(h:RgAt g L w)(hb:Below w.heap.size w w'):RgAt g L w':=fun wg frm to_ opn lim hw=>h wg frm to_ opn lim (hb.trans (hw.mono hb.size))
theorem zD1(p:Int)(b:List UInt8):∀ (m k:Nat) (D:Dsk),(z3t D p b m k).1.pend.length<=D.pend.length+m
 |0,k,D=>by rw [z3t];exact y5 _
 |m+1,k,D=>by
  rw [z3t]
  split
  .split
   .rename_i hw;have ih:=zD1 p b m (k+1) (D.write (p+(k:Int)) ((b.drop (512*k)).take 512));have e:(D.write (p+(k:Int)) ((b.drop (512*k)).take 512)).pend.length=D.pend.length+1:=by unfold Dsk.write;rw [yB hw];simp [Dsk.put]
    omega
   .exact Zv _ _
  .exact Zv _ _
theorem zAt{l:Wl}(ok:l.Ok)(t:List UInt8):(z0P l t).1.D.pend.length<=l.D.pend.length+512*l.size/\(z0P l t).1.size=l.size:=by
 obtain⟨q,hq⟩:∃q,q=(l.last+1)%U64:=⟨_,rfl⟩;obtain⟨head,hh⟩:∃head,head=z7Q q titleB:=⟨_,rfl⟩;obtain⟨b,hb⟩:∃b,b=z7Q q t:=⟨_,rfl⟩;by_cases hlong:32768<t.length∨512*l.size<head.length+b.length
 .rw [z36 hq hh hb hlong];exact⟨Zv _ _,rfl⟩
 have key:∀ {L:List Sg} {s:List UInt8} {i:Nat} {fr:Bool},ApC l q head b L s i fr->(z0P l t).1.D.pend.length<=l.D.pend.length+512*l.size/\(z0P l t).1.size=l.size:=by
  intro L s i fr c;obtain⟨r,hr⟩:∃r,z3t l.D (l.a+(i:Int)*l.size) (s++b) (s++b).length (z1l l fr / 512)=r:=⟨_,rfl⟩;have h1:=zD1 (l.a+(i:Int)*l.size) (s++b) (s++b).length (z1l l fr / 512) l.D;have h2:=(c.lens ok hlong).1;rw [hr]at h1;by_cases h0:r.2=0
  .rw [z4U hq hh hb hlong c hr h0];exact⟨by show r.1.pend.length<=_;omega,rfl⟩
  .rw [z5r hq hh hb hlong c hr h0];cases fr with
   |true=>exact⟨yU _,rfl⟩
   |false=>exact⟨by show r.1.pend.length<=_;omega,rfl⟩
 by_cases hfr:l.stream= []∨512*l.size<l.stream.length+b.length
 .cases hw:z37 l.live l.n with
  |none=>rw [z35 hq hh hb hlong hfr hw];exact⟨Zv _ _,rfl⟩
  |some i=>exact key (L:=l.live++ [⟨i,q,0⟩]) (s:=head) (i:=i) (fr:=true) ⟨fun _=>⟨hfr,hw,rfl,rfl⟩,fun e=>(by cases e)⟩
 .exact key (L:=l.live) (s:=l.stream) (fr:=false) ⟨fun e=>(by cases e),fun _=>⟨hfr,rfl,rfl,rfl⟩⟩
structure Sy(w W:World)(gs g gl:Nat)(Z:Pz)(P:Pgr)(c:Int->List UInt8)(l:Wl)(N:Nat)(L:List Cel):Prop where
 s:Sto W gs g gl Z P c l
 tree:VT P c L
 tb:P.tb=fun _=>none
 new:∀b,Z.has b->w.heap.size<=b
 gsn:w.heap.size<=gs
 gn:w.heap.size<=g
 gln:w.heap.size<=gl
 below:Below w.heap.size w W
 size:l.size=16
 pend:l.D.pend.length<=8192*N
 len:L.length<=11*N
 lk:LgK l N
section
variable {w W W':World} {gs g gl:Nat} {Z Z':Pz} {P P':Pgr} {c:Int->List UInt8} {l l':Wl} {N:Nat} {L:List Cel}
theorem Sy.later(x:Sy w W gs g gl Z P c l N L)(hb:Below W.heap.size W W'):Sy w W' gs g gl Z P c l N L:=
 ⟨x.s.later hb,x.tree,x.tb,x.new,x.gsn,x.gn,x.gln,x.below.trans (hb.mono x.below.size),x.size,x.pend,x.len,x.lk⟩
theorem Sy.range(x:Sy w W gs g gl Z P c l N L)(hN:N<=90):RgAt g L W:=fun wg frm to_ opn lim hb=>by
 obtain⟨D,t,⟨T,-,-⟩,rfl⟩:=x.tree;exact T.range zDu (by have:=x.len;omega) (x.s.T.later hb) frm to_ opn lim
theorem Sy.pages(x:Sy w W gs g gl Z P c l N L):P.pages.length<=22*N+1:=by
 obtain⟨D,t,⟨T,-,-⟩,e⟩:=x.tree;have hlen:P.pages.length=1+(Ct.subs D t).length:=by
  have:=T.rep.len;simpa [z8q,Qj]using this
 have hl:=x.len;cases D with
 |zero=>rw [hlen];simp [Ct.subs]
 |succ D=>
  obtain⟨le,inn,h1,h2,h3,h4⟩:=T.bound (by decide);have e1:QV.m=2:=rfl;have e2:QV.a=1:=rfl;rw [e1]at h3;rw [e2,e]at h4;omega
theorem zCu(x:Sy w W gs g gl Z P c l N L)(v0:Value){cs:List Chg}(hr:Ch (fun b=>¬Z.has b/\b≠gl) W v0 cs)(hl:cs.length<=1000000)
 (hd:∀x∈cs,x.k.length<=65536/\x.v.length<=65536) (hrun:z3s P cs=0->∀D',ChRuns QV c (P.on D') L cs/\VT (chgsP c (P.on D') L cs) c (z2P L cs)) (hdl:∀y∈cs,y.gone=true->zD9 QV) (hsh:(z1e cs).length<=7000) (hN:N<=90) {ps':Nat} (hps:gs=ps'):
 Calls prog 43 #[.pointer (some ⟨ps',0,none⟩),v0] W fun e W'=>∃n er:Nat,e= .returned (.tuple #[.int .u64 (n:Int),.int .i64 (er:Int)])/\(er=0∨er=z3s P cs∨er=82/\8<=N)/\∃Z' P' l',Sy w W' gs g gl Z' P' c l' (N+1) (if er=0 then z2P L cs else L)/\Sop gl Z W Z' W':=by
 subst hps;have hst:∀D,z5v D P.a P.tb c:=fun D=>by
  rw [x.tb];intro i p l h;cases h
 have hpe:=x.pend;have hap:=zAt x.s.ok (z1e cs);rw [x.size]at hap;refine(zG2 zDu gs g gl Z P c L l cs W v0 x.s hr ⟨hl,hd⟩ (by omega) (fun hm=>⟨hst _,fun _=>(hrun hm _).1⟩) hdl).mono ?_;rintro e W' ⟨he,Z',hdn⟩;obtain⟨hb1,hn1⟩:=Sop.to_below hdn.o x.below x.new x.gln;have hlk:=x.lk.append x.s.ok hsh;refine⟨_,_,he,?_,Z',_,_,⟨hdn.s,?_,?_,hn1,x.gsn,x.gn,x.gln,hb1,?_,?_,?_,?_⟩,hdn.o⟩
 .unfold z2y;by_cases hm:z3s P cs=0
  .rw [yB hm];by_cases h0:(z0P l (z1e cs)).2.2=0
   .rw [yB h0];exact .inl rfl
   .rw [yA h0];exact .inr (.inr (hlk.2.resolve_left h0))
  .rw [yA hm];exact .inr (.inl rfl)
 .unfold z2y;by_cases hm:z3s P cs=0
  .rw [yB hm];by_cases h0:(z0P l (z1e cs)).2.2=0
   .rw [yB h0,yB rfl];exact(hrun hm _).2
   .rw [yA h0,yA h0];exact x.tree.on _
  .rw [yA hm,yA hm];exact x.tree
 .unfold z2y
  split
  .split
   .exact((Kin.chgsP c _ _ L).tb.trans rfl).trans x.tb
   .exact x.tb
  .exact x.tb
 .unfold z2y
  split
  .split
   .exact hap.2
   .exact hap.2
  .exact x.size
 .unfold z2y
  split
  .split
   .show(z0P l (z1e cs)).1.D.pend.length<=_;omega
   .show(z0P l (z1e cs)).1.D.pend.length<=_;omega
  .show l.D.pend.length<=_;omega
 .have hlen:=x.len
  split
  .rename_i h0;have hm:z3s P cs=0:=by
    by_cases hm:z3s P cs=0
    .exact hm
    .unfold z2y at h0;rw [yA hm]at h0;exact absurd h0 hm
   have h1:=z8E cs L;have h2:=z9O cs;have h3:=(z9H hm).1;omega
  .omega
 .unfold z2y
  split
  .split
   .exact hlk.1
   .exact hlk.1
  .exact x.lk.more (QM _)
end
theorem vt_new(D D':Dsk)(c:Int->List UInt8):VT ((opP (z20 D 0 200 0 1 (0,fun _=>none))).on D') c []:=by
 refine⟨0,(show Ct 0 from(0,[])),⟨?_,by omega,by simp [Ct.subs,z5c]⟩,rfl⟩;rw [zBR D 1000];exact((zBF QV 1000 c).on D).on _
def logNew:Wl:={D:=(Dsk.new 1000).sync,a:=802,n:=8,size:=16,live:= [],stream:= [],last:=0,synced:=0}
theorem logNew_ok:logNew.Ok:=⟨(Dsk.Ok.new (by omega) (by omega)).sync,by decide,by decide,by decide,by decide,by decide,by decide,by decide,by decide,by simp [logNew],fun s h=>(by cases h),fun h=>absurd rfl h,yU _⟩
theorem zG7{w W:World}{h:Zn}(d:Dp w W h (Dsk.new 1000))(c:Int->List UInt8)(hb:BitsOk W)(h0:0<w.heap.size){pd:Nat}(hpd:h.g=pd):
 Calls prog 35 #[.pointer (some ⟨pd,0,none⟩)] W fun e W'=>∃gs g gl Z P l,e= .returned (.tuple #[.pointer (some ⟨gs,0,none⟩),.int .i64 0])/\Sy w W' gs g gl Z P c l 0 []/\Turn h.has W W'/\(∀b,Z.has b->h.has b∨W.heap.size<=b)/\W.heap.size<=gs/\W.heap.size<=g/\W.heap.size<=gl:=by
 subst hpd;have b:=Bare.new;have hck:zHI ((opP (z20 (Dsk.new 1000) 0 200 0 1 (0,fun _=>none))).pg c) (opP (z20 (Dsk.new 1000) 0 200 0 1 (0,fun _=>none))).pages.length=true:=by
  rw [zBR (Dsk.new 1000) 1000];have h:=(zBF ⟨1,1,480⟩ 1000 c).rep;have hl:((fT 1000).on (Dsk.new 1000)).pages.length=1:=h.len;rw [hl];exact zHK (h.rep.at (i:=0) (by simp [z8q,Ct.page]))
 have HPO:=zz (zDp h (Dsk.new 1000) 0 200 W d.dk b.ok ⟨by omega,by omega,by omega,by omega⟩ (by rw [b.mt]));have HTO:Hid (∀ (Z:Pz) (w1:World),Pg w1 Z (z20 (Dsk.new 1000) 0 200 0 1 (0,fun _=>none))->BitsOk w1->¬Z.has 0->Calls prog 72 #[.pointer (some ⟨Z.g,0,none⟩)] w1 (z51 Z (z20 (Dsk.new 1000) 0 200 0 1 (0,fun _=>none)) c w1)):=fun Z w1 hp hb1 hz=>zEB Z _ c w1 hp (b.pr c) hb1 hz b.pages (b.lone c)
 have HP:=zz b.opens;have HCK:=zz hck;have HB:=zz hb;have HDP:=zz d;have HLO:Hid (∀ (h:Zn) (w:World),Dk w h (Dsk.new 1000)->Calls prog 73 #[.pointer (some ⟨h.g,0,none⟩),.int .i64 802,.int .i64 8,.int .i64 16,.int .u64 0] w fun e w'=>∃gl h',e= .returned (.tuple #[.pointer (some ⟨gl,0,none⟩),.slice none 0 0,.int .i64 0])/\
  Dk w' h' (Dsk.new 1000).sync/\Lb w' gl h.g 802 8 16 (.slice none 0 0) (.slice none 0 0) 0 0/\w.heap.size<=gl/\Stp h w h' w'):=fun h w hk=>zJg h (Dsk.new 1000) 802 8 16 0 w hk b.ok (fun _=>rfl) (by omega) (by omega) (by omega) (by omega) (by omega) (by omega) (by rw [b.pend];simp)
 have hpos:=hb.pos;have hh0:¬h.has 0:=fun e=>by have:=d.new 0 e;omega
 have hsz:=d.below.size;have hres2:∀D',VT ((opP (z20 (Dsk.new 1000) 0 200 0 1 (0,fun _=>none))).on D') c []:=fun D'=>vt_new _ _ c
 have HVT:=zz hres2;clear hb hck d hres2;go_enter func35,ntmps35
 go_wp2_with fail
 refine HPO.out.mono ?_;rintro e w1 ⟨⟨P,Z,hP',rfl,hpg,hz,-,hzb⟩|⟨hno,rfl⟩,hb1⟩
 .rw [HP.out]at hP';injection hP' with hP'
  subst hP';subst hz;have hz0:¬Z.has 0:=fun e=>(hzb 0 e).elim hh0 fun e=>by omega
  have HPG:=zz hpg;have HB1:=zz hb1;have HZB:=zz hzb;have HBI:=zz (HB.out.later hb1);clear hpg hb1 hzb b;go_wp2_with fail
  refine(HTO.out Z w1 HPG.out HBI.out hz0).mono ?_;rintro e w2 ⟨hs2,hp2,hkin,hres⟩;rcases hres with⟨_,g,hg,rfl,hT⟩|⟨hno,_⟩
  .have HT:=zz hT;have HS2:=zz hs2;have hsz2:W.heap.size<=g:=yD HB1.out.size hg;have htg:(opP (z20 (Dsk.new 1000) 0 200 0 1 (0,fun _=>none))).tag=0:=hkin.tag;have HKD:Hid ((opP (z20 (Dsk.new 1000) 0 200 0 1 (0,fun _=>none))).D=Dsk.new 1000/\(opP (z20 (Dsk.new 1000) 0 200 0 1 (0,fun _=>none))).tb=fun _=>none):=⟨hkin.D,hkin.tb⟩;generalize opP (z20 (Dsk.new 1000) 0 200 0 1 (0,fun _=>none))=P at*;clear hp2 hs2 hT hg hkin HPO HTO HP HCK;go_wp2_with fail
   refine(zHr Z P w2 HT.out.pg).mono ?_;rintro e w2' ⟨rfl,rfl⟩;rw [htg];go_wp2_with fail
   have hdk2:Dk w2 Z.h (Dsk.new 1000):=by rw [<-HKD.out.1];exact HT.out.pg.dk
   refine(HLO.out Z.h w2 hdk2).mono ?_;rintro e w3 ⟨gl,h',rfl,hk3,hlb,hgl,hstp⟩;have hlg:Lg w3 gl h' logNew:=⟨.slice none 0 0,.slice none 0 0,⟨hk3,by rw [hstp.g];exact hlb,Sl.nil,Sl.nil⟩⟩;have hT3:=HT.out.stpO hk3 hstp logNew_ok.dok (by rw [HKD.out.2];intro i p l h;cases h);have hzh:∀b,(Z.on h').has b->Z.has b∨w2.heap.size<=b:=fun b hb=>by
    rcases hb with e|e|e|e|e|e
    .exact .inl (.inl e)
    .exact .inl (.inr (.inl e))
    .exact .inl (.inr (.inr (.inl e)))
    .exact .inl (.inr (.inr (.inr (.inl e))))
    .exact .inl (.inr (.inr (.inr (.inr (.inl e)))))
    .exact(hstp.has b e).imp (fun h=> .inr (.inr (.inr (.inr (.inr h))))) id
   have hsw2:w1.heap.size<=w2.heap.size:=HS2.out.turn.size;have hsw1:=HB1.out.size;have hz3:∀b,(Z.on h').has b->Z.h.has b∨W.heap.size<=b:=fun b hb=>by
    rcases hzh b hb with e|e
    .exact HZB.out b e
    .exact .inr (by omega)
   have htu:Turn Z.h.has W w3:=((Turn.of_below HB1.out).trans HS2.out.turn fun b hb=>HZB.out b hb).trans hstp.turn fun b hb=> .inl hb
   have q3:=(y7 w3.heap.size w3).alloc (y5 _) (.cells #[.pointer (some ⟨g,0,none⟩),.pointer (some ⟨Z.g,0,none⟩),.pointer (some ⟨gl,0,none⟩)] 120);have hT4:=htu.alloc (.cells #[.pointer (some ⟨g,0,none⟩),.pointer (some ⟨Z.g,0,none⟩),.pointer (some ⟨gl,0,none⟩)] 120);have hw3:=htu.size;have HF:Hid (Sy w (w3.alloc (.cells #[.pointer (some ⟨g,0,none⟩),.pointer (some ⟨Z.g,0,none⟩),.pointer (some ⟨gl,0,none⟩)] 120)) w3.heap.size g gl (Z.on h') (P.on logNew.D) c logNew 0 []/\Turn Z.h.has W (w3.alloc (.cells #[.pointer (some ⟨g,0,none⟩),.pointer (some ⟨Z.g,0,none⟩),.pointer (some ⟨gl,0,none⟩)] 120))/\(∀b,(Z.on h').has b->Z.h.has b∨W.heap.size<=b)/\W.heap.size<=w3.heap.size/\W.heap.size<=g/\W.heap.size<=gl):=
    ⟨⟨⟨Blk.new w3 _ _,hT3.later q3,hlg.later q3,rfl,logNew_ok⟩,HVT.out _,HKD.out.2,fun x hx=>(hz3 x hx).elim (HDP.out.new x) fun h=>yD hsz h,by omega,by omega,by omega,Turn.below HDP.out.below hT4 hsz HDP.out.new,rfl,yU _,yU _,⟨⟨rfl,rfl,rfl⟩,⟨rfl,rfl⟩,fun y hy=>(by cases hy),y5 _⟩⟩,hT4,hz3,hw3,hsz2,by omega⟩
   clear hk3 hlb hgl hstp hlg hT3 hzh hz3 htu q3 hT4 hw3 hdk2 HT HS2 HZB HB1 HBI HPG HKD HVT HLO;go_wp2_with fail
   generalize hW:w3.alloc (.cells #[.pointer (some ⟨g,0,none⟩),.pointer (some ⟨Z.g,0,none⟩),.pointer (some ⟨gl,0,none⟩)] 120)=W4 at*;clear hW;go_loopw [48] (fun iv wr=>iv= .int .i64 0/\wr=W4) (fun _ _=>0)
   case atStart=>exact⟨rfl,rfl⟩
   case round=>
    obtain⟨rfl,rfl⟩:=hrel;go_wp2_with fail
    go_ret2
    obtain⟨h1,h2,h3,h4,h5,h6⟩:=HF.out;exact⟨_,g,gl,Z.on h',_,_,rfl,h1,h2,h3,h4,h5,h6⟩
  .rw [HCK.out]at hno;cases hno
 .rw [HP.out]at hno;cases hno
def z4Z(ws:List Wri)(i:Nat):Option Key:=if i=0 then none else(ws[i-1]?).map (·.k)
theorem zDF{ws:List Wri}{i:Nat}(h:i<ws.length):z4k (z4Z ws i) (ws.drop i)=
 if z9t ws[i]≠0 then z9t ws[i]else if zB1 (z4Z ws i) ws[i].k=true then 54 else z4k (z4Z ws (i+1)) (ws.drop (i+1)):=by
 rw [yL h,z4k];have e:z4Z ws (i+1)=some ws[i].k:=by
  unfold z4Z;rw [yA (by omega),YS,yK h];rfl
 rw [e]
theorem zDr{ws:List Wri}{j:Nat}(h:j<ws.length):z4Z ws (j+1)=some ws[j].k:=by
 unfold z4Z;rw [yA (by omega),YS,yK h];rfl
theorem z8B(S:Nat->Prop)(v0:Value)(ws:List Wri)(w:World)(hr:Wrs S w v0 ws)(hs:∀x∈ws,x.v.length<=9223372036854775807/\x.k.length<=9223372036854775807):
 Calls prog 44 #[.agg #[.int .u64 0,.int .u64 0,.int .u64 0,v0]] w fun e w'=>e= .returned (.int .i64 (z5w ws:Int))/\Below w.heap.size w w':=by
 have HS:=zz hs;obtain⟨A,c,rfl,hlc,hcm,-,hA⟩:=hr.lt.at;have HA:=zz hA;have hm:ws.length<=9223372036854775807:=by unfold maxLen at hcm;omega
 have hb:=Blk.new w 109 #[.int .u64 0,.int .u64 0,.int .u64 0,.slice A ws.length c];have q1:=(y7 w.heap.size w).alloc (y5 _) (.cells #[.int .u64 0,.int .u64 0,.int .u64 0,.slice A ws.length c] 109);clear hA hr hs;by_cases h0:ws.length=0
 .have HE:Hid (z5w ws=50):=by rw [Hid];unfold z5w;rw [yB (yX h0)]
  have e1:((ws.length:Int)==0)=true:=by rw [Z9];omega
  clear h0 HS HA;go_enter func44,ntmps44
  go_wp2_with fail
  go_ret
  exact⟨by rw [HE.out];rfl,q1⟩
 have e1:((ws.length:Int)==0)=false:=by rw [yV];omega
 have HNE:Hid (¬ws= []):=fun e=>h0 (by rw [e];rfl)
 clear h0;by_cases h8:8<ws.length
 .have HE:Hid (z5w ws=51):=by rw [Hid];unfold z5w;rw [yA HNE.out,yB h8]
  have e2:decide ((8:Int)<(ws.length:Int))=true:=by rw [yd];omega
  clear HS HA;go_enter func44,ntmps44
  go_wp2_with fail
  go_ret
  exact⟨by rw [HE.out];rfl,q1⟩
 have e2:decide ((8:Int)<(ws.length:Int))=false:=by rw [yj];omega
 have R0:Hid (z5w ws=z4k (z4Z ws 0) (ws.drop 0)/\Hid (Below w.heap.size w (w.alloc (.cells #[.int .u64 0,.int .u64 0,.int .u64 0,.slice A ws.length c] 109)))/\Hid (Blk (w.alloc (.cells #[.int .u64 0,.int .u64 0,.int .u64 0,.slice A ws.length c] 109)) w.heap.size 109 #[.int .u64 0,.int .u64 0,.int .u64 0,.slice A ws.length c])):=by
  refine⟨?_,q1,hb⟩;unfold z5w;rw [yA HNE.out,yA h8];rfl
 have hl8:ws.length<=8:=by omega
 clear h8 HNE q1 hb;go_enter func44,ntmps44
 go_wp2_with fail
 clear e1 e2;go_loopw [19] (fun iv wr=>∃i:Nat,iv= .int .i64 (i:Int)/\i<=ws.length/\Hid (z5w ws=z4k (z4Z ws i) (ws.drop i)/\Hid (Below w.heap.size w wr)/\Hid (Blk wr w.heap.size 109 #[.int .u64 0,.int .u64 0,.int .u64 0,.slice A ws.length c]))) (fun iv _=>ws.length-(intOf iv).toNat)
 case atStart=>exact⟨0,rfl,by omega,R0⟩
 case round=>
  clear R0;obtain⟨i,rfl,hi,RR⟩:=hrel;have hck:=RR.out.1;have hbl:=RR.out.2.1.out;have HBB:=zz RR.out.2.2.out;by_cases hil:i<ws.length
  .obtain⟨b,o,rfl,hbs,hc⟩:=HA.out (by omega);have c0:wr.cell? ⟨b,o+i*3,none⟩=some (.string (st ws[i].k)):=(hbl.cell (p:=⟨b,o+i*3,none⟩) hbs.2).trans (hc i hil).1;have c1:wr.cell? ⟨b,o+i*3+1,none⟩=some (.string (st ws[i].v)):=(hbl.cell (p:=⟨b,o+i*3+1,none⟩) hbs.2).trans (hc i hil).2.1;have c2:wr.cell? ⟨b,o+i*3+2,none⟩=some (.bool ws[i].gone):=(hbl.cell (p:=⟨b,o+i*3+2,none⟩) hbs.2).trans (hc i hil).2.2;have hsx:=HS.out _ (yQ hil);rw [zDF hil]at hck;have HCK:=zz hck;have HCC:Hid (∀j,(hj:j<ws.length)->wr.cell? ⟨b,o+j*3,none⟩=some (.string (st ws[j].k))):=fun j hj=>(hbl.cell (p:=⟨b,o+j*3,none⟩) hbs.2).trans (hc j hj).1
   obtain⟨x,hx0⟩:∃x,ws[i]=x:=⟨_,rfl⟩;rw [hx0]at c0 c1 c2 hsx HCK;have q3:Below wr.heap.size wr (wr.alloc (.cells #[.string (st x.k),.string (st x.v),.bool x.gone] 66)):=(y7 _ _).alloc (y5 _) _;have HQ3:=zz (hbl.trans (q3.mono hbl.size));have HB3:=zz (HBB.out.later q3);have HX3:=zz (Blk.new wr 66 #[.string (st x.k),.string (st x.v),.bool x.gone]);have HC3:Hid (∀j,(hj:j<ws.length)->(wr.alloc (.cells #[.string (st x.k),.string (st x.v),.bool x.gone] 66)).cell? ⟨b,o+j*3,none⟩=some (.string (st ws[j].k))):=fun j hj=>yN q3 (HCC.out j hj)
   have HBW:=zz (zDJ x (wr.alloc (.cells #[.string (st x.k),.string (st x.v),.bool x.gone] 66)) hsx.1 hsx.2);clear hx0 hc hck RR hbl q3 hsx HCC HBB;obtain⟨k,v,gn⟩:=x;simp only at c0 c1 c2 HQ3 HB3 HX3 HC3 HBW HCK;go_wp2_with fail
   generalize hW:wr.alloc (.cells #[.string (st k),.string (st v),.bool gn] 66)=W at*;clear hW;refine HBW.out.mono ?_;rintro e w4 ⟨rfl,hb4⟩;have hq4:=HQ3.out.trans (hb4.mono HQ3.out.size);have hx4:=HX3.out.later hb4;have hbb4:=HB3.out.later hb4;have HC4:Hid (∀j,(hj:j<ws.length)->w4.cell? ⟨b,o+j*3,none⟩=some (.string (st ws[j].k))):=fun j hj=>yN hb4 (HC3.out j hj)
   obtain⟨N,hN⟩:∃N,z9t ⟨k,v,gn⟩=N:=⟨_,rfl⟩;rw [hN]at HCK ⊢;clear HBW hb4 HC3 HX3 HB3 HQ3 hN c0 c1 c2;by_cases hz:N=0
   .subst hz;have HCK2:Hid (z5w ws=if zB1 (z4Z ws i) k=true then 54 else z4k (z4Z ws (i+1)) (ws.drop (i+1))):=by
     have h:=HCK.out;rw [yA (by simp)]at h;exact h
    have g3:w4.cell? ⟨w.heap.size,3,none⟩=some (.slice (some ⟨b,o,none⟩) ws.length c):=hbb4.cell 3;have x0:w4.cell? ⟨wr.heap.size,0,none⟩=some (.string (st k)):=hx4.cell 0;have HQ4:=zz hq4;have HBB4:=zz hbb4;clear HCK hq4 hbb4 hx4;generalize wr.heap.size=gx at*;rcases i with _|j
    .have HCK3:Hid (z5w ws=z4k (z4Z ws 1) (ws.drop 1)):=by
      have h:=HCK2.out;rw [yA (by simp [z4Z,zB1])]at h;exact h
     clear HCK2 HC4;go_wp2_with fail
     refine z06 (by kernel_rfl) (by kernel_rfl) ?_;apply Exists.intro;apply And.intro
     .repeat(first
       |(apply z0J rfl
         intro K hK;go_simp;refine hK _ ?_;clear hK K)
       |(apply z0D rfl
         .intro wg hwg _;have g3':=yN hwg g3;have x0':=yN hwg x0;unfold z03;go_simp
          first
           |exact z00 _ _
         intro K hK;go_simp;refine hK _ ?_;clear hK K))
      refine z0f (fun wg hwg _=> ?_);have RF:Hid (z5w ws=z4k (z4Z ws 1) (ws.drop 1)/\Hid (Below w.heap.size w wg)/\Hid (Blk wg w.heap.size 109 #[.int .u64 0,.int .u64 0,.int .u64 0,.slice (some ⟨b,o,none⟩) ws.length c])):=⟨HCK3.out,HQ4.out.trans (hwg.mono HQ4.out.size),HBB4.out.later hwg⟩;clear hwg HQ4 HBB4 HCK3;go_wp2_with fail
      go_roundw
      case rel=>exact⟨1,by go_num,by omega,RF⟩
      case measure=>simp [intOf];omega
     .apply And.intro
      .repeat(first|exact trivial|(refine⟨Stays.is _,?_⟩)|(refine⟨Stays.bs _,?_⟩)|(refine⟨Stays.pg _ _ _,?_⟩))
      .rfl
    .have hjl:j<ws.length:=by omega
     have c5:=HC4.out j hjl;have HP:=zz (zDr hjl);have hib2:(0:Int)<=(j:Int):=by omega
     have hwj:IntKind.i64.wrap (j:Int)=(j:Int):=YB _ (by omega);obtain⟨y,hy⟩:∃y,ws[j].k=y:=⟨_,rfl⟩;rw [hy]at c5 HP;clear hy HC4;cases hbs2:Op.bytesLess y k with
     |true=>
      have HCK3:Hid (z5w ws=z4k (z4Z ws (j+1+1)) (ws.drop (j+1+1))):=by
       have h:=HCK2.out;rw [HP.out,yA (by simp [zB1,hbs2])]at h;exact h
      clear HCK2 HP;go_wp2_with fail
      refine z06 (by kernel_rfl) (by kernel_rfl) ?_;apply Exists.intro;apply And.intro
      .repeat(first
        |(apply z0J rfl
          intro K hK;go_simp;refine hK _ ?_;clear hK K)
        |(apply z0D rfl
          .intro wg hwg _;have c5':=yN hwg c5;have g3':=yN hwg g3;have x0':=yN hwg x0;unfold z03;go_simp
           first
            |exact z00 _ _
          intro K hK;go_simp;refine hK _ ?_;clear hK K))
       refine z0f (fun wg hwg _=> ?_);have RF:Hid (z5w ws=z4k (z4Z ws (j+1+1)) (ws.drop (j+1+1))/\Hid (Below w.heap.size w wg)/\Hid (Blk wg w.heap.size 109 #[.int .u64 0,.int .u64 0,.int .u64 0,.slice (some ⟨b,o,none⟩) ws.length c])):=⟨HCK3.out,HQ4.out.trans (hwg.mono HQ4.out.size),HBB4.out.later hwg⟩;clear hwg HQ4 HBB4 HCK3;go_wp2_with fail
       go_roundw
       case rel=>exact⟨j+1+1,by go_num,by omega,RF⟩
       case measure=>simp [intOf];omega
      .apply And.intro
       .repeat(first|exact trivial|(refine⟨Stays.is _,?_⟩)|(refine⟨Stays.bs _,?_⟩)|(refine⟨Stays.pg _ _ _,?_⟩))
       .rfl
     |false=>
      have HE:Hid (z5w ws=54):=by
       have h:=HCK2.out;rw [HP.out,yB (by simp [zB1,hbs2])]at h;exact h
      clear HCK2 HP;go_wp2_with fail
      refine z06 (by kernel_rfl) (by kernel_rfl) ?_;apply Exists.intro;apply And.intro
      .repeat(first
        |(apply z0J rfl
          intro K hK;go_simp;refine hK _ ?_;clear hK K)
        |(apply z0D rfl
          .intro wg hwg _;have c5':=yN hwg c5;have g3':=yN hwg g3;have x0':=yN hwg x0;unfold z03;go_simp
           first
            |exact z00 _ _
          intro K hK;go_simp;refine hK _ ?_;clear hK K))
       refine z0f (fun wg hwg _=> ?_);go_wp2_with fail
       go_ret
       rw [HE.out];exact⟨rfl,HQ4.out.trans (hwg.mono HQ4.out.size)⟩
      .apply And.intro
       .repeat(first|exact trivial|(refine⟨Stays.is _,?_⟩)|(refine⟨Stays.bs _,?_⟩)|(refine⟨Stays.pg _ _ _,?_⟩))
       .rfl
   .have HE:Hid (z5w ws=N):=by
     have h:=HCK.out;rw [yB hz]at h;exact h
    have e5:((N:Int) != 0)=true:=by simp;omega
    clear HCK hz;go_wp2_with fail
    go_ret
    exact⟨by rw [HE.out];rfl,hq4⟩
  .obtain rfl:i=ws.length:=by omega
   have HE:Hid (z5w ws=0):=by
    rw [Zr,z4k]at hck;exact hck
   clear hck;go_wp2_with fail
   go_ret
   exact⟨by rw [HE.out];rfl,hbl⟩
structure Vv(w:World)(gv gs g:Nat)(l:List Rw)(tl:List Cel)(last hor:Nat):Prop where
 blk:Blk w gv 99 #[.pointer (some ⟨gs,0,none⟩),.int .u64 (last:Int),.int .u64 (hor:Int)]
 sto:∃v1 v2,Blk w gs 120 #[.pointer (some ⟨g,0,none⟩),v1,v2]
 rg:RgAt g (vwC l tl) w
 ok:RowsOk l
 tok:zEK tl
 bits:BitsOk w
theorem Vv.later{w w':World}{gv gs g:Nat}{l:List Rw}{tl:List Cel}{last hor:Nat}(h:Vv w gv gs g l tl last hor)(hb:Below w.heap.size w w'):Vv w' gv gs g l tl last hor:=by
 obtain⟨v1,v2,hs⟩:=h.sto;exact⟨h.blk.later hb,⟨v1,v2,hs.later hb⟩,h.rg.later hb,h.ok,h.tok,h.bits.later hb⟩
def zC9(o:Option Rw):Value:=match o with
 |none=> .tuple #[.string (st []),.bool false]
 |some r=> .tuple #[.string (st r.k),.bool true]
theorem zI2{r:Rw}(h:RwOk r):∃x,VOk x/\(rwC r).take 1= [z7s r.k x]:=by
 obtain⟨c,cs,hc⟩:=Zq (zG1 h);obtain⟨x,hx,rfl⟩:=z3e (r:=r) (c:=c) (by rw [hc];simp);exact⟨x,h.vs x hx,by rw [hc];rfl⟩
def VCv(R:List Cel):VP:=fun v wg=>∃A c,v= .slice A R.length c/\Cs (fun b=>b<wg.heap.size) wg (.slice A R.length c) R
theorem VCv.stays(R:List Cel):Stays (VCv R):=fun v w1 w2 hb ⟨A,c,he,h⟩=>⟨A,c,he,(Sl.below h hb fun _ h=>h).more fun _ h=>yE h hb.size⟩
theorem RangePost.co{R:List Cel}{w w':World}{e:Ending}(h:RangePost R w e w'):∃v,e= .returned v/\Below w.heap.size w w'/\VCv R v w':=by
 obtain⟨A,c,he,hc,hb⟩:=h;exact⟨_,he,hb,A,c,rfl,(Sl.of_own (by omega) hc).more fun b h=>h.2⟩
theorem Vv.range{w wg:World}{gv gs g:Nat}{l:List Rw}{tl:List Cel}{last hor:Nat}(h:Vv w gv gs g l tl last hor)(hb:Below w.heap.size w wg)(frm to_:Key)(lim:Int){R:List Cel}(hR:z34 (vwC l tl) frm to_ false lim=R):
 Calls prog 51 #[.pointer (some ⟨g,0,none⟩),.agg #[.string (st frm),.string (st to_),.bool false,.bool false,.int .i64 lim]] wg fun e w'=>∃v,e= .returned v/\Below wg.heap.size wg w'/\VCv R v w':=by
 have:=h.rg wg frm to_ false lim hb;rw [hR]at this;exact this.mono fun e w' hp=>hp.co
theorem z8m{w:World}{gv gs g:Nat}{l:List Rw}{tl:List Cel}{last hor:Nat}(h:Vv w gv gs g l tl last hor)(key:List UInt8)(hk:key.length<=9223372036854775807){pg:Nat}(hpg:gv=pg):
 Calls prog 46 #[.pointer (some ⟨pg,0,none⟩),.string (st key)] w fun e w'=>e= .returned (zC9 (z3v l key))/\Below w.heap.size w w':=by
 subst hpg;have hR:=zB4 h.ok h.tok key;have HFR:Hid (∀wg,Below w.heap.size w wg->Calls prog 84 #[.string (st key)] wg fun e w'=>e= .returned (.string (st (z6w key)))/\Below wg.heap.size wg w'):=fun wg hwg=>zGc key wg (h.bits.later hwg) hk
 have HOK:=zz h.ok;obtain⟨s1,s2,hs⟩:=h.sto;have b0:w.cell? ⟨gv,0,none⟩=some (.pointer (some ⟨gs,0,none⟩)):=h.blk.cell 0;have b1:w.cell? ⟨gs,0,none⟩=some (.pointer (some ⟨g,0,none⟩)):=hs.cell 0;obtain⟨F,hF⟩:∃F,z6w key=F:=⟨_,rfl⟩;rw [hF]at hR HFR;cases ho:z3v l key with
 |none=>
  rw [ho]at hR;have HRG:Hid (∀wg,Below w.heap.size w wg->Calls prog 51 #[.pointer (some ⟨g,0,none⟩),.agg #[.string (st F),.string (st ttlK),.bool false,.bool false,.int .i64 1]] wg fun e w'=>∃v,e= .returned v/\Below wg.heap.size wg w'/\VCv [] v w'):=fun wg hwg=>h.range hwg F ttlK 1 hR
  clear h hs hR hF ho HOK;go_enter func46,ntmps46
  go_wp2_with fail
  refine z06 (by kernel_rfl) (by kernel_rfl) ?_;apply Exists.intro;apply And.intro
  .repeat(first
    |(apply z0J rfl
      intro K hK;go_simp;refine hK _ ?_;clear hK K)
    |(apply z0D rfl
      .intro wg hwg _;have b0':=yN hwg b0;have b1':=yN hwg b1;unfold z03;go_simp
       first
        |exact z00 _ _
        |(exact z0Z (HFR.out wg hwg))
      intro K hK;go_simp;refine hK _ ?_;clear hK K))
   apply z1N (V:=VCv []) rfl
   .intro wg hwg hf;unfold z03;go_simp;refine⟨y7 _ _,?_⟩;exact HRG.out wg hwg
   intro xv hxv K hK;obtain⟨wx,_,hbx⟩:=hxv;have hbo:=hbx;obtain⟨A10,c10,rfl,hc10⟩:=hbo;go_simp;refine hK _ ?_;clear hK K hbx;apply z1N (V:=VCv []) rfl
   .intro wg hwg hf;have hcb:VCv [] (.slice A10 ([]:List Cel).length c10) wg:=hf ⟨10,.data⟩ (by simp) rfl _ _ (by kernel_rfl);unfold z03;go_simp;exact⟨y7 _ _,hcb⟩
   intro xv hxv K hK;obtain⟨wx,_,hbx⟩:=hxv;have hbo:=hbx;obtain⟨A11,c11,rfl,hc11⟩:=hbo;go_simp;refine hK _ ?_;clear hK K hbx;refine z0f (fun wg hwg _=> ?_);have HB:=zz hwg;clear hwg hc10 hc11;go_wp2_with fail
   go_ret2
   exact⟨rfl,HB.out⟩
  .apply And.intro
   .repeat(first|exact trivial|(refine⟨Stays.is _,?_⟩)|(refine⟨VCv.stays _,?_⟩))
   .rfl
 |some r=>
  rw [ho]at hR;simp only at hR;have hm:=yr ho;have hro:=h.ok.rw r hm;obtain⟨x,hx,hx1⟩:=zI2 hro;rw [hx1]at hR;have HVP:Hid (∀wg,Calls prog 53 #[.agg #[.string (st (z10 r.k x.t)),.string (st (z90 x))]] wg fun e w'=>e= .returned (.tuple #[.string (st r.k),zH3 x,.bool true])/\Below wg.heap.size wg w'):=fun wg=>z5q r.k x wg hro.k64 hx
  have HRG:Hid (∀wg,Below w.heap.size w wg->Calls prog 51 #[.pointer (some ⟨g,0,none⟩),.agg #[.string (st F),.string (st ttlK),.bool false,.bool false,.int .i64 1]] wg fun e w'=>∃v,e= .returned v/\Below wg.heap.size wg w'/\VCv [z7s r.k x] v w'):=fun wg hwg=>h.range hwg F ttlK 1 hR
  obtain⟨kb,hkb⟩:∃kb,z10 r.k x.t=kb:=⟨_,rfl⟩;obtain⟨vb,hvb⟩:∃vb,z90 x=vb:=⟨_,rfl⟩;have hdc:z7s r.k x=(kb,vb):=by unfold z7s;rw [hkb,hvb]
  rw [hdc]at HRG;rw [hkb,hvb]at HVP;unfold zH3 at HVP;obtain⟨rk,hrk⟩:∃rk,r.k=rk:=⟨_,rfl⟩;have HRK:=zz hrk;rw [hrk]at HVP;clear h hs hR hF ho HOK hm hro hx hx1 hkb hvb hdc hrk;go_enter func46,ntmps46
  go_wp2_with fail
  refine z06 (by kernel_rfl) (by kernel_rfl) ?_;apply Exists.intro;apply And.intro
  .repeat(first
    |(apply z0J rfl
      intro K hK;go_simp;refine hK _ ?_;clear hK K)
    |(apply z0D rfl
      .intro wg hwg _;have b0':=yN hwg b0;have b1':=yN hwg b1;unfold z03;go_simp
       first
        |exact z00 _ _
        |(exact z0Z (HFR.out wg hwg))
      intro K hK;go_simp;refine hK _ ?_;clear hK K))
   apply z1N (V:=VCv [(kb,vb)]) rfl
   .intro wg hwg hf;unfold z03;go_simp;refine⟨y7 _ _,?_⟩;exact HRG.out wg hwg
   intro xv hxv K hK;obtain⟨wx,_,hbx⟩:=hxv;have hbo:=hbx;obtain⟨A10,c10,rfl,hc10⟩:=hbo;go_simp;refine hK _ ?_;clear hK K hbx;apply z1N (V:=VCv [(kb,vb)]) rfl
   .intro wg hwg hf;have hcb:VCv [(kb,vb)] (.slice A10 [(kb,vb)].length c10) wg:=hf ⟨10,.data⟩ (by simp) rfl _ _ (by kernel_rfl);unfold z03;go_simp;exact⟨y7 _ _,hcb⟩
   intro xv hxv K hK;obtain⟨wx,_,hbx⟩:=hxv;have hbo:=hbx;obtain⟨A11,c11,rfl,hc11⟩:=hbo;go_simp;refine hK _ ?_;clear hK K hbx;refine z0f (fun wg hwg hf=> ?_);have HB:=zz hwg;obtain⟨A13,c13,he13,hc13⟩:VCv [(kb,vb)] (.slice A11 [(kb,vb)].length c11) wg:=hf 11 _ _ rfl;injection he13 with hA13 _ hc13'
   subst hA13 hc13';obtain⟨A12,c12,hv12,-,-,-,hA12⟩:=hc13.at;injection hv12 with hA12' _ _
   subst hA12';obtain⟨b,o,rfl,hbs,hcell⟩:=hA12 (by simp);have k0:wg.cell? ⟨b,o,none⟩=some (.string (st kb)):=(hcell 0 (by simp)).1;have k1:wg.cell? ⟨b,o+1,none⟩=some (.string (st vb)):=(hcell 0 (by simp)).2;clear hwg hf hc10 hc11 hc13 hA12 hcell;go_wp2_with fail
   refine(HVP.out wg).mono ?_;rintro e w2 ⟨rfl,hb2⟩;have HB2:=zz (HB.out.trans (hb2.mono HB.out.size));clear hb2;go_wp2_with fail
   go_ret2
   refine⟨?_,HB2.out.alloc HB2.out.size _⟩;show _=Ending.returned (.tuple #[.string (st r.k),.bool true]);rw [HRK.out];rfl
  .apply And.intro
   .repeat(first|exact trivial|(refine⟨Stays.is _,?_⟩)|(refine⟨VCv.stays _,?_⟩))
   .rfl
theorem zD0(l:List Rw)(key:List UInt8):(z1Y l key).length<=(z0x l).length:=by
 unfold z1Y
 split
 .rename_i r hr;have hm:=yr hr;clear hr;unfold z0x
  induction l with
  |nil=>cases hm
  |cons a l ih=>
   rw [yb,y6];rcases y9.1 hm with rfl|hm
   .have:(rwC r).length=r.vs.length:=by unfold rwC;simp
    omega
   .have:=ih hm;omega
 .exact yU _
def z6A(vs:List Vsn)(w:World)(e:Ending)(w':World):Prop:=∃A c,e= .returned (.slice A vs.length c)/\Vs (fun b=>w.heap.size<=b/\b<w'.heap.size) w' (.slice A vs.length c) vs/\Below w.heap.size w w'
theorem Vs.nilV{S:Nat->Prop}{w:World}:Vs S w (.slice none 0 0) []:=Sl.nil
theorem z7g{l:List Rw}(h:RowsOk l){key:List UInt8}{x:Vsn}(hx:x∈z1Y l key):VOk x/\key.length<=64:=by
 obtain⟨r,hr,hk,hv⟩:=z4S hx;exact⟨(h.rw r hr).vs x (hv▸hx),hk▸(h.rw r hr).k64⟩
theorem z2X{w:World}{gv gs g:Nat}{l:List Rw}{tl:List Cel}{last hor:Nat}(h:Vv w gv gs g l tl last hor)(hfew:(z0x l).length<=100000)(key:List UInt8)(hk:key.length<=9223372036854775807){pg:Nat}(hpg:gv=pg):
 Calls prog 22 #[.pointer (some ⟨pg,0,none⟩),.string (st key)] w (z6A (z1Y l key) w):=by
 subst hpg;by_cases h64:64<key.length
 .have hn:z1Y l key= []:=by
   cases hv:z1Y l key with
   |nil=>rfl
   |cons x r=>
    have:=(z7g h.ok (key:=key) (x:=x) (by rw [hv];simp)).2;omega
  have e1:decide ((64:Int)<(key.length:Int))=true:=by rw [yd];omega
  rw [hn];clear h hn;go_enter func22,ntmps22
  go_wp2_with fail
  go_ret
  exact⟨none,0,rfl,Vs.nilV,y7 _ _⟩
 .have e1:decide ((64:Int)<(key.length:Int))=false:=by rw [yj];omega
  have hk64:key.length<=64:=by omega
  have hR:=zIS h.ok h.tok key;have HFI:Hid (∀wg,Below w.heap.size w wg->Calls prog 52 #[.string (st key)] wg fun e w'=>e= .returned (.string (st (z10 key 18446744073709551615)))/\Below wg.heap.size wg w'):=fun wg hwg=>z8n key wg (h.bits.later hwg) hk64
  have HBY:Hid (∀wg,Below w.heap.size w wg->Calls prog 42 #[.string (st key),.int .u64 0] wg fun e w'=>e= .returned (.string (st (z10 key 0)))/\Below wg.heap.size wg w'):=fun wg hwg=>z2C key 0 wg (h.bits.later hwg) hk64 z64
  have hd0:=z3a 0 hk64;have hvl:=yD (zD0 l key) hfew;have HVP:Hid (∀i,(hi:i<(z1Y l key).length)->∀wg,Calls prog 53 #[.agg #[.string (st (z10 key ((z1Y l key).reverse[i]'(by simpa using hi)).t)),.string (st (z90 ((z1Y l key).reverse[i]'(by simpa using hi))))]] wg fun e w'=>e= .returned (.tuple #[.string (st key),zH3 ((z1Y l key).reverse[i]'(by simpa using hi)),.bool true])/\Below wg.heap.size wg w'):=fun i hi wg=>by
   have hm:(z1Y l key).reverse[i]'(by simpa using hi)∈z1Y l key:=Zu.1 (yQ _);exact z5q key _ wg hk64 (z7g h.ok hm).1
  obtain⟨s1,s2,hs⟩:=h.sto;have b0:w.cell? ⟨gv,0,none⟩=some (.pointer (some ⟨gs,0,none⟩)):=h.blk.cell 0;have b1:w.cell? ⟨gs,0,none⟩=some (.pointer (some ⟨g,0,none⟩)):=hs.cell 0;obtain⟨vs,hvs⟩:∃vs,z1Y l key=vs:=⟨_,rfl⟩;rw [hvs]at hR hvl HVP ⊢;obtain⟨R,hRR⟩:∃R,vs.reverse.map (z7s key)=R:=⟨_,rfl⟩;rw [hRR]at hR;have hRl:R.length=vs.length:=by rw [<-hRR];simp
  have HRA:Hid (∀i (hi:i<vs.length) (hiR:i<R.length),R[i]=(z10 key (vs.reverse[i]'(by simpa using hi)).t,z90 (vs.reverse[i]'(by simpa using hi)))):=fun i hi hiR=>by
   subst hRR;rw [Z5];rfl
  obtain⟨F,hF⟩:∃F,z10 key 18446744073709551615=F:=⟨_,rfl⟩;obtain⟨T0,hT⟩:∃T,z10 key 0=T:=⟨_,rfl⟩;rw [hF]at hR HFI;rw [hT]at hR HBY hd0;have HRG:Hid (∀wg,Below w.heap.size w wg->Calls prog 51 #[.pointer (some ⟨g,0,none⟩),.agg #[.string (st F),.string (st (T0++ [0])),.bool false,.bool false,.int .i64 (-1)]] wg fun e w'=>∃v,e= .returned v/\Below wg.heap.size wg w'/\VCv R v w'):=fun wg hwg=>h.range hwg F (T0++ [0]) (-1) hR
  have a1:¬9223372036854775807<T0.length+1:=by omega
  have HRL:=zz hRl;clear h hs hR hF hT hvs hRR hd0 hRl hfew;go_enter func22,ntmps22
  go_wp2_with fail
  refine z06 (by kernel_rfl) (by kernel_rfl) ?_;apply Exists.intro;apply And.intro
  .repeat(first
    |(apply z0J rfl
      intro K hK;go_simp;refine hK _ ?_;clear hK K)
    |(apply z0D rfl
      .intro wg hwg _;have b0':=yN hwg b0;have b1':=yN hwg b1;unfold z03;go_simp
       first
        |exact z00 _ _
        |(exact z0Z (HFI.out wg hwg))
        |(exact z0Z (HBY.out wg hwg))
      intro K hK;go_simp;refine hK _ ?_;clear hK K))
   apply z1N (V:=VCv R) rfl
   .intro wg hwg hf;unfold z03;go_simp;refine⟨y7 _ _,?_⟩;exact HRG.out wg hwg
   intro xv hxv K hK;obtain⟨wx,_,hbx⟩:=hxv;have hbo:=hbx;obtain⟨A10,c10,rfl,hc10⟩:=hbo;go_simp;refine hK _ ?_;clear hK K hbx
   repeat(first
    |(apply z0J rfl
      intro K hK;go_simp;refine hK _ ?_;clear hK K)
    |(apply z0D rfl
      .intro wg hwg _
       skip
       unfold z03;go_simp
       first
        |exact z00 _ _
      intro K hK;go_simp;refine hK _ ?_;clear hK K))
   refine z0f (fun wg hwg hf=> ?_);have HB:=zz hwg;obtain⟨A13,c13,he13,hc13⟩:VCv R (.slice A10 R.length c10) wg:=hf 13 _ _ rfl;injection he13 with hA13 _ hc13'
   subst hA13 hc13';have HCR:=zz hc13;have hzz:=hwg.size;have R0:Hid (Vs (fun b=>w.heap.size<=b/\b<wg.heap.size) wg (.slice none 0 0) ((vs.reverse.take 0).reverse)/\Below wg.heap.size wg wg):=⟨by rw [ZS];exact Vs.nilV,y7 _ _⟩;rw [HRL.out];clear hwg hf hc10 hc13 b0 b1 HFI HBY HRG a1;go_wp2_with fail
   generalize wg=wo at*;go_loopw [5,29] (fun sv iv wr=>∃ (i:Nat) (A:Option Addr) (c':Nat),sv= .slice A i c'/\iv= .int .i64 (i:Int)/\i<=vs.length/\Hid (Vs (fun b=>w.heap.size<=b/\b<wr.heap.size) wr (.slice A i c') ((vs.reverse.take i).reverse)/\Below wo.heap.size wo wr)) (fun _ iv _=>vs.length-(intOf iv).toNat)
   case atStart=>exact⟨0,none,0,rfl,rfl,by omega,R0⟩
   case round=>
    clear R0;obtain⟨i,A,c',rfl,rfl,hi,RR⟩:=hrel;have hbl:=RR.out.2;have HPV:=zz RR.out.1;clear RR;by_cases hil:i<vs.length
    .obtain⟨A12,c12,hv12,-,-,-,hA12⟩:=HCR.out.at;injection hv12 with hA12' _ hc12'
     subst hA12' hc12';have hiR:i<R.length:=by rw [HRL.out];exact hil
     obtain⟨b,o,rfl,hbs,hcell⟩:=hA12 (by omega);have k0:wr.cell? ⟨b,o+i*2,none⟩=some (.string (st R[i].1)):=(hbl.cell (p:=⟨b,o+i*2,none⟩) hbs).trans (hcell i hiR).1;have k1:wr.cell? ⟨b,o+i*2+1,none⟩=some (.string (st R[i].2)):=(hbl.cell (p:=⟨b,o+i*2+1,none⟩) hbs).trans (hcell i hiR).2;have HPC:=zz (HVP.out i hil);have hrl:i<vs.reverse.length:=by simpa using hil
     have HNX:Hid ((vs.reverse.take (i+1)).reverse=vs.reverse[i]::(vs.reverse.take i).reverse):=by
      rw [Hid,yO hrl,QQ];rfl
     have HPL:Hid (((vs.reverse.take i).reverse).length=i):=by rw [Hid];simp;omega
     have hra:=HRA.out i hil hiR;rw [hra]at k0 k1;simp only at k0 k1;obtain⟨x,hx0⟩:∃x,vs.reverse[i]=x:=⟨_,rfl⟩;rw [hx0]at k0 k1 HPC HNX;obtain⟨kb,hkb⟩:∃kb,z10 key x.t=kb:=⟨_,rfl⟩;obtain⟨vb,hvb⟩:∃vb,z90 x=vb:=⟨_,rfl⟩;rw [hkb]at k0 HPC;rw [hvb]at k1 HPC;obtain⟨t,v,gn⟩:=x;unfold zH3 at HPC;simp only at HPC;obtain⟨prev,hprev⟩:∃prev,(vs.reverse.take i).reverse=prev:=⟨_,rfl⟩;rw [hprev]at HPV HNX HPL;have q6:Below wr.heap.size wr (wr.alloc (.cells #[.string (st kb),.string (st vb)] 94)):=(y7 _ _).alloc (y5 _) _;have HQ6:=zz q6;have HBL:=zz hbl;have hib:(0:Int)<=(i:Int):=by omega
     clear hra hx0 hkb hvb hprev hcell hA12 hrl q6 hbl;go_wp2_with fail
     generalize hW:wr.alloc (.cells #[.string (st kb),.string (st vb)] 94)=W at*;clear hW;refine(HPC.out W).mono ?_;rintro e w2 ⟨rfl,hb2⟩;have hq7:Below wr.heap.size wr w2:=HQ6.out.trans (hb2.mono HQ6.out.size);have hz2:=hq7.size;have hzw:=HB.out.size;have hzb:=HBL.out.size;have HQ8:Hid (∀o1 o2,Below wr.heap.size wr ((w2.alloc o1).alloc o2)):=fun o1 o2=>(hq7.alloc hz2 o1).alloc (by simp;omega) o2
     have hin:i<=100000:=by omega
     have HSZ:Hid (w.heap.size<=w2.heap.size/\w.heap.size<=wr.heap.size/\wo.heap.size<=wr.heap.size/\wo.heap.size<=w2.heap.size):=⟨by omega,by omega,by omega,by omega⟩;clear HPC HQ6 hb2 hq7 hz2 hzw hzb k0 k1 hzz;go_wp2_with (at_builtin;go_loud (refine z0A _ rfl (.tmp 40) (.tmp 41) elemVsn rfl (z7E _ w.heap.size _ (zH2 ⟨t,v,gn⟩) (by simp) (by have:=HSZ.out.1;simp;omega)) (Sl.below HPV.out (HQ8.out _ _) fun b hb=>hb.2) rfl rfl (zKH prev) (by rw [HPL.out];simp only [maxLen];omega) (by rw [HPL.out];omega) (by have:=HSZ.out.1;simp;omega) ?_);intro A5 k5 c5 w5 hown5 hg5 hat5)
     have hk5:=z0h hown5;rw [HPL.out]at hk5;obtain rfl:k5=i+1:=by omega
     have hq9:=HQ8.out;have hb5:Below wo.heap.size wo w5:=z01 ((HBL.out.trans ((HQ8.out _ _).mono HBL.out.size))) (z7E _ wo.heap.size _ (zH2 ⟨t,v,gn⟩) (g:=w2.heap.size+1) (by simp) (by have:=HSZ.out.2.2.2;simp;omega)) hg5 (by have:=HSZ.out.2.2.2;simp;omega);have RF:Hid (Vs (fun b=>w.heap.size<=b/\b<w5.heap.size) w5 (.slice A5 (i+1) c5) ((vs.reverse.take (i+1)).reverse)/\Below wo.heap.size wo w5):=by
      refine⟨?_,hb5⟩;rw [HNX.out];unfold Vs;have h1:=Sl.of_own (by omega) hown5;have e2:(((⟨t,v,gn⟩:Vsn)::prev)).length=1+prev.length:=by rw [y8];omega
      rw [e2];exact h1
     clear hown5 hg5 hat5 hb5 HPV HNX HPL HQ8 HBL HSZ hk5 hq9;go_wp2_with fail
     go_roundw
     case rel=>exact⟨i+1,A5,c5,rfl,by go_num,by omega,RF⟩
     case measure=>simp [intOf];omega
    .obtain rfl:i=vs.length:=by omega
     have hfin:=HPV.out;rw [show vs.reverse.take vs.length=vs.reverse from by rw [ya];simp,ZM]at hfin;have HFN:=zz hfin;have HBL:=zz hbl;clear hfin HPV hbl;go_wp2_with fail
     go_ret
     exact⟨A,c',rfl,HFN.out,HB.out.trans (HBL.out.mono HB.out.size)⟩
  .apply And.intro
   .repeat(first|exact trivial|(refine⟨Stays.is _,?_⟩)|(refine⟨VCv.stays _,?_⟩))
   .rfl
theorem zGh(vs:List Vsn):∀v∈vsC vs,v.oneCell'=true:=by
 intro v hv;obtain⟨x,_,hx⟩:=YE.1 hv;simp [zH2]at hx;rcases hx with rfl|rfl|rfl<;>rfl
theorem zKI:(Tryz.prog.info? 62).map (·.size)=some 3:=by kernel_rfl
theorem zCz(S:Nat->Prop)(v0:Value)(vs:List Vsn)(w:World)(hr:Vs S w v0 vs)(hl:vs.length<=1000000):
 Calls prog 79 #[v0] w (z6A vs w):=by
 obtain⟨hlen,A,c,rfl,hlc,hcm,hA0,hcell⟩:=Sl.lt hr (by omega);obtain⟨i,hi,hz,hsz,hby⟩:=elemVsn.info;have HC:=zz hcell;have hlb:vs.length<=140737488355328:=by omega
 clear hcell hr;go_enter func79,ntmps79
 go_wp2_with (refine wpList_make_full _ rfl (.tmp 5) (.tmp 5) 33 rfl w.heap.size 62 i _ 3 elemVsn.under hi hz hsz .i64 .i64 _ _ vs.length rfl rfl rfl rfl (by rw [hby];omega) (by simp only [maxLen];omega) (y5 _) ?_;intro w1 hown1 hg1)
 have hb1:Below w.heap.size w w1:=(y7 _ _).grown hg1 (y5 _) (fun k hk=>by cases hk);rcases hown1.2 with⟨hv,_⟩|⟨g,cap,cur,hv,hgb,hh,hk1,hk2,hcs,ht⟩
 .cases hv
 .injection hv with hv1 _ hv2
  injection hv1 with hv1
  injection hv1 with hv1
  subst hv1 hv2;have hmin:Nat.min vs.length vs.length=vs.length:=Nat.min_self _;cases A with
  |none=>
   obtain rfl:=hA0 rfl;obtain rfl:vs= []:=yX (by omega);have hcp:=fun ty=>run_copy_nil (P:=prog) w1 33 33 ty 62 ⟨w.heap.size,0,none⟩ 0 0 underlying33 (by rw [hi];rfl)
   clear hlen;go_wp2_with fail
   go_ret
   exact⟨_,_,rfl,⟨rfl,_,_,rfl,y5 _,yU _,fun h=>(by cases h),fun h=>absurd h (Yi 0)⟩,hb1⟩
  |some a=>
   have hn3:(vsC vs).length=vs.length*3:=hlen;have hcp:=fun ty=>z1r prog w1 33 33 ty 62 w.heap.size 0 vs.length vs.length a vs.length c 3 cur 62 (vsC vs) underlying33 zKI hh (by rw [hmin];exact hn3)
    (fun j v hj=>by
      have hj2:j<(vsC vs).length:=(yg.1 hj).1;obtain⟨b,o,ha,hbs,hc⟩:=HC.out (by omega);injection ha with ha
      subst ha;rw [Zt];exact(hb1.cell (p:=⟨b,o+j,none⟩) hbs.2).trans (hc j v hj)) (by omega) (zGh vs)
   obtain⟨row,hrow⟩:∃row,(cur.toList.take 0++vsC vs++cur.toList.drop (0+(vsC vs).length)).toArray=row:=⟨_,rfl⟩;rw [hrow,hmin]at hcp;have hre:row=(vsC vs).toArray:=by
    rw [<-hrow,ZS,yz,Yg (by rw [ye];omega),yf]
   obtain⟨W2,hW2⟩:∃W2,w1.setRow w.heap.size row=W2:=⟨_,rfl⟩;have hb2:Below w.heap.size w W2:=by rw [<-hW2];exact z0j hb1 (y5 _) _
   have hg2:W2.heap[w.heap.size]? =some (.cells row 62 (0,0)):=by rw [<-hW2];exact setRow_heap _ _ _ _ _ _ hh
   rw [hW2]at hcp;have hown:W2.ownsRow w.heap.size 62 3 (.slice (some ⟨w.heap.size,0,none⟩) vs.length vs.length) vs.length (vsC vs):=
    ⟨hn3,.inr ⟨w.heap.size,vs.length,row,rfl,y5 _,hg2,y5 _,hk2,by rw [hre,Yo,hn3],by rw [hre,ya (by simp;omega)]⟩⟩
   have HO:=zz hown;have HB2:=zz hb2;clear hown hg2 hW2 hre hrow hh hcs ht hown1 hg1 HC hA0 hlen;go_wp2_with fail
   go_ret
   exact⟨_,_,rfl,(Sl.of_own (by omega) HO.out).more fun b hb=>hb,HB2.out⟩
theorem zIN(gb ga:Nat)(S:Nat->Prop)(v0:Value)(vs:List Vsn)(at_ i:Nat)(w:World)(hb:Blk w gb 33 #[v0])(ha:Blk w ga 27 #[.int .u64 (at_:Int)])(hr:Vs S w v0 vs)(hi:i<vs.length)(hl:vs.length<=1000000):
 Calls prog 155 (#[.int .i64 (i:Int)]++ #[.pointer (some ⟨gb,0,none⟩),.pointer (some ⟨ga,0,none⟩)]) w fun e w'=>e= .returned (.bool (decide (at_<vs[i].t)))/\∃m,w'=w.drewN m:=by
 obtain⟨A,c,rfl,hlc,hcm,_,hA⟩:=hr.at;obtain⟨b,o,rfl,_,hc⟩:=hA (by omega);have c0:=(hc i hi).1;have p0:w.cell? ⟨gb,0,none⟩=some (.slice (some ⟨b,o,none⟩) vs.length c):=hb.cell 0;have k0:w.cell? ⟨ga,0,none⟩=some (.int .u64 (at_:Int)):=ha.cell 0;generalize vs[i]=x at*;clear hA hc hb ha hr;show Calls _ _ #[.int .i64 (i:Int),.pointer (some ⟨gb,0,none⟩),.pointer (some ⟨ga,0,none⟩)] _ _;go_enter func155,ntmps155
 go_wp2_with fail
 go_quiet (fail)
 go_wp2_with fail
 go_ret
 exact⟨rfl,_,rfl⟩
theorem zIO(S:Nat->Prop)(v0:Value)(vs:List Vsn)(at_:Nat)(w:World)(hr:Vs S w v0 vs)(hri:z5u vs)(hl:vs.length<=1000000):
 Calls prog 117 #[v0,.int .u64 (at_:Int)] w fun e w'=>e= .returned (.int .i64 (z0O vs at_:Int))/\Below w.heap.size w w':=by
 have HR:=zz hr.lt;obtain⟨A,c,rfl,hlc,hcm,hA0,-⟩:=hr.at;have b1:Blk ((w.alloc (.cells #[.slice A vs.length c] 33)).alloc (.cells #[.int .u64 (at_:Int)] 27)) w.heap.size 33 #[.slice A vs.length c]:=(Blk.new _ _ _).alloc _;have b2:Blk ((w.alloc (.cells #[.slice A vs.length c] 33)).alloc (.cells #[.int .u64 (at_:Int)] 27)) (w.heap.size+1) 27 #[.int .u64 (at_:Int)]:=Blk.new1 _ _ _ _;have q0:Below w.heap.size w ((w.alloc (.cells #[.slice A vs.length c] 33)).alloc (.cells #[.int .u64 (at_:Int)] 27)):=((y7 _ _).alloc (y5 _) _).alloc (by simp) _;have hmf:=z0N prog;have hK:=z3F vs at_;have HI:Hid (∀i (h:i<vs.length),decide (at_<vs[i].t)=decide (z0O vs at_<=i)):=fun i h=>by
  have:=z4H hri (at_:=at_) h;rw [Zd];simp only [yd];omega
 clear hr hri;go_enter func117,ntmps117
 go_upto_region 1 with(fail)
 generalize hW:((w.alloc (.cells #[.slice A vs.length c] 33)).alloc (.cells #[.int .u64 (at_:Int)] 27))=W at*;clear hW;have HRW:Hid (Vs (fun b=>b<w.heap.size) W (.slice A vs.length c) vs):=Vs.later (Sl.more HR.out fun b h=>h.2) q0;have c1:W.cell? ⟨w.heap.size,0,none⟩=some (.slice A vs.length c):=b1.cell 0;have B1:=zz b1;have B2:=zz b2;clear b1 b2;go_wp2_with fail
 refine(z7L 155 #[.pointer (some ⟨w.heap.size,0,none⟩),.pointer (some ⟨w.heap.size+1,0,none⟩)] vs.length (z0O vs at_) W hl hK (fun args w=>by rfl) (fun i m hi=> ?_)).mono ?_
 .have h:=zIN w.heap.size (w.heap.size+1) (fun b=>b<w.heap.size) _ vs at_ i (W.drewN m) B1.out B2.out HRW.out hi hl;rw [HI.out i hi]at h;refine h.mono ?_;rintro e w' ⟨rfl,m',rfl⟩;exact⟨rfl,_,World.drewN_drewN _ _ _⟩
 rintro e w1 ⟨rfl,m,rfl⟩;go_wp2_with fail
 go_ret
 exact⟨rfl,below_drewN q0 _⟩
theorem zIQ(S:Nat->Prop)(v0:Value)(vs:List Vsn)(at_:Nat)(w:World)(hr:Vs S w v0 vs)(hri:z5u vs)(hl:vs.length<=1000000):
 Calls prog 78 #[v0,.int .u64 (at_:Int)] w fun e w'=>e= .returned (.int .i64 (z0s vs at_:Int))/\Below w.heap.size w w':=by
 have HA:=zz (zIO S v0 vs at_ w hr hri hl);have hK:=z3F vs at_;have HD:Hid (z0s vs at_=if z1D vs (z0O vs at_)then z0O vs at_-1 else z0O vs at_):=rfl;obtain⟨A,c,rfl,hlc,hcm,hA0,hc⟩:=hr.lt.at;obtain⟨d,hd⟩:∃d,z0s vs at_=d:=⟨_,rfl⟩;rw [hd]at HD ⊢;obtain⟨n,hn⟩:∃n,z0O vs at_=n:=⟨_,rfl⟩;rw [hn]at HA HD hK;have HC:=zz hc;clear hr hri hd hn hc;go_enter func78,ntmps78
 go_wp2_with fail
 refine HA.out.mono ?_;rintro e w1 ⟨rfl,hb1⟩;by_cases h0:0<n
 .obtain⟨b,o,rfl,hbs,hcc⟩:=HC.out (by omega);have hn1:n-1<vs.length:=by omega
  have c2:w1.cell? ⟨b,o+(n-1)*3+2,none⟩=some (.bool vs[n-1].gone):=(hb1.cell (p:=⟨b,o+(n-1)*3+2,none⟩) hbs.2).trans (hcc (n-1) hn1).2.2;have HL:Hid (z1D vs n= !vs[n-1].gone):=by
   rw [Hid];unfold z1D;rw [yK hn1];simp [h0]
  obtain⟨gn,hgn⟩:∃gn,vs[n-1].gone=gn:=⟨_,rfl⟩;rw [hgn]at c2 HL;obtain⟨q,hq⟩:∃q,n-1=q:=⟨_,rfl⟩;have hqi:(n:Int)-1=(q:Int):=by omega
  have hqw:IntKind.i64.wrap ((n:Int)-1)=(q:Int):=by rw [hqi];exact YB _ (by omega)
  rw [hq]at c2 HD;have hn0:(0:Int)<(n:Int):=by omega
  have hql:q<vs.length:=by omega
  clear hcc hgn;cases gn with
  |true=>
   obtain rfl:d=n:=by rw [HD.out,HL.out];rfl
   go_wp2_with fail
   go_ret
   exact⟨rfl,hb1⟩
  |false=>
   obtain rfl:d=q:=by rw [HD.out,HL.out];rfl
   go_wp2_with fail
   go_ret
   exact⟨rfl,hb1⟩
 .obtain rfl:n=0:=by omega
  obtain rfl:d=0:=by
   rw [HD.out]
   split<;>rfl
  go_wp2_with fail
  go_ret
  exact⟨rfl,hb1⟩
theorem zGa(S:Nat->Prop)(v0:Value)(vs:List Vsn)(at_:Nat)(w:World)(hr:Vs S w v0 vs)(hri:z5u vs)(hl:vs.length<=1000000):
 Calls prog 41 #[v0,.int .u64 (at_:Int)] w (z6A (vs.take (z0s vs at_)) w):=by
 have HF:=zz (zIQ S v0 vs at_ w hr hri hl);have hK:=z5A vs at_;have HR:=zz hr.lt;obtain⟨A,c,rfl,hlc,hcm,hA0,hc⟩:=hr.lt.at;obtain⟨d,hd⟩:∃d,z0s vs at_=d:=⟨_,rfl⟩;rw [hd]at HF hK ⊢;have HC:=zz hc;clear hr hri hd hc;go_enter func41,ntmps41
 go_wp2_with fail
 refine HF.out.mono ?_;rintro e w1 ⟨rfl,hb1⟩;have HT:Hid (∀u:Value,u= .slice A d d->Vs (fun b=>S b/\b<w.heap.size) w1 u (vs.take d)):=fun u hu=>by
  subst hu;obtain⟨h1,A',c',h2,h3,h4,h5,h6⟩:=HR.out;injection h2 with h2 _ _
  subst h2;have hle:(vs.take d).length=d:=by rw [yC];omega
  refine⟨by rw [zKG],A,d,by rw [hle],by omega,by omega,fun e=>by have:=hA0 e;omega,fun h0=> ?_⟩;obtain⟨b,o,ha,hs,hcell⟩:=h6 (by omega);refine⟨b,o,ha,hs,fun j v hj=> ?_⟩;have:(vsC vs)[j]? =some v:=by
   rw [<-yT d vs,zKF];rw [Yh (yg.1 hj).1];exact hj
  exact(hb1.cell (p:=⟨b,o+j,none⟩) hs.2).trans (hcell j v this)
 have hdc:(d:Int)<=(c:Int):=by omega
 have hle:(vs.take d).length=d:=by rw [yC];omega
 have hll:(vs.take d).length<=1000000:=by omega
 cases A with
 |none=>
  obtain rfl:=hA0 rfl;obtain rfl:d=0:=by omega
  have HO:=zz (zCz _ _ _ w1 (HT.out _ rfl) hll);clear HT HF HR HC hA0;go_wp2_with fail
  refine HO.out.mono ?_;rintro e w2 ⟨A2,c2,rfl,h1,h2⟩;go_wp2_with fail
  go_ret
  refine⟨A2,c2,?_,h1.more fun b hb=>⟨yD hb1.size hb.1,hb.2⟩,hb1.trans (h2.mono hb1.size)⟩;rw [hle];rfl
 |some a=>
  have HO:=zz (zCz _ _ _ w1 (HT.out _ rfl) hll);clear HT HF HR HC hA0;go_wp2_with fail
  refine HO.out.mono ?_;rintro e w2 ⟨A2,c2,rfl,h1,h2⟩;go_wp2_with fail
  go_ret
  refine⟨A2,c2,?_,h1.more fun b hb=>⟨yD hb1.size hb.1,hb.2⟩,hb1.trans (h2.mono hb1.size)⟩;rw [hle];rfl
end
end Go.Proofs.YthnlcbamjehpdaaGreatDoor
