/- Part 42. -/
import Derived.Test.YthnlcbamjehpdaaGreatDoorViewCollectsJ41
namespace Go.Proofs.YthnlcbamjehpdaaGreatDoor
set_option linter.unusedVariables false
set_option maxHeartbeats 16000000
set_option maxRecDepth 100000
section
open Go Go.RowKit Tryz
def z13(many:Int):Nat:=if many<0 then 0 else if many<10 then many.toNat else 10
def zEs(k:List UInt8)(x:Vsn):Chg:=⟨z10 k x.t,[],true⟩
structure Cst(w W:World)(gc gm ga gf:Nat)(many:Int)(at_:Nat)(sv:Value)(cs:List Chg):Prop where
 c:Blk W gc 100 #[sv]
 own:W.ownsRow w.heap.size 96 3 sv cs.length (chs cs)
 m:Blk W gm 3 #[.int .i64 many]
 a:Blk W ga 27 #[.int .u64 (at_:Int)]
 f:Blk W gf 25 #[.func (Fn.func 38) #[] #[.pointer (some ⟨gc,0,none⟩),.pointer (some ⟨gm,0,none⟩)]]
 below:Below w.heap.size w W
 gc0:w.heap.size<=gc
 gm0:w.heap.size<=gm
 ga0:w.heap.size<=ga
 gf0:w.heap.size<=gf
section
variable {w W W':World} {gc gm ga gf:Nat} {many:Int} {at_:Nat} {sv:Value} {cs:List Chg}
theorem Cst.later(h:Cst w W gc gm ga gf many at_ sv cs)(q:Below W.heap.size W W'):Cst w W' gc gm ga gf many at_ sv cs:=
 ⟨h.c.later q,z17 h.own q,h.m.later q,h.a.later q,h.f.later q,h.below.trans (q.mono h.below.size),h.gc0,h.gm0,h.ga0,h.gf0⟩
theorem zEY(h:Cst w W gc gm ga gf many at_ sv cs)(hm: -9223372036854775808<=many/\many<=9223372036854775807):
 Calls prog 38 #[.pointer (some ⟨gc,0,none⟩),.pointer (some ⟨gm,0,none⟩)] W fun e w'=>e= .returned (.bool (decide (z13 many<cs.length)))/\w'=W:=by
 obtain⟨A,k,c,rfl⟩:=z0v h.own;obtain rfl:=z0h h.own;have c0:W.cell? ⟨gc,0,none⟩=some (.slice A cs.length c):=h.c.cell 0;have m0:W.cell? ⟨gm,0,none⟩=some (.int .i64 many):=h.m.cell 0;obtain⟨mx,hmx⟩:∃mx:Nat,max many 0=(mx:Int):=⟨(max many 0).toNat,by omega⟩;obtain⟨cap,hcap⟩:∃cap,z13 many=cap:=⟨_,rfl⟩;have hmn:min (mx:Int) 10=(cap:Int):=by
  rw [<-hcap];unfold z13
  split
  .omega
  .split<;>omega
 rw [hcap];clear h hcap;by_cases hlt:cap<cs.length
 .have e1:(cap:Int)<(cs.length:Int):=by omega
  rw [yq hlt];clear hlt;go_enter func38,ntmps38
  go_wp2_with fail
  go_ret
  exact⟨rfl,rfl⟩
 .have e1:¬ (cap:Int)<(cs.length:Int):=by omega
  rw [yZ hlt];clear hlt;go_enter func38,ntmps38
  go_wp2_with fail
  go_ret
  exact⟨rfl,rfl⟩
end
def CstStore(B gc:Nat)(n:Nat)(xs:List Value)(ob:Option Nat)(s0:Nat):VP:=fun _ w=>∃A c,Blk w gc 100 #[.slice A n c]/\w.ownsRow B 96 3 (.slice A n c) n xs/\((Value.slice A n c).ownBlock=ob∨∃g,(Value.slice A n c).ownBlock=some g/\s0<=g)
theorem CstStore.stays{B gc n:Nat}{xs:List Value}{ob:Option Nat}{s0:Nat}:Stays (CstStore B gc n xs ob s0):=fun v w1 w2 hb ⟨A,c,h1,h2,h3⟩=>⟨A,c,h1.later hb,z17 h2 hb,h3⟩
theorem zEm{w W:World}{gc gm ga gf:Nat}{many:Int}{at_:Nat}{sv:Value}{cs:List Chg}(h:Cst w W gc gm ga gf many at_ sv cs)(hm: -9223372036854775808<=many/\many<=9223372036854775807)(hbits:BitsOk w)(hw0:0<w.heap.size)(hcs:cs.length<=11)
 (k:List UInt8) (hk:k.length<=64) (v0:Value) (vs:List Vsn) (hv:Vs (fun b=>b<W.heap.size) W v0 vs) (hri:z5u vs) (ht:∀x∈vs,x.t<U64) (hl:vs.length<=1000000):
 Calls prog 40 #[.string (st k),v0,.pointer (some ⟨ga,0,none⟩),.pointer (some ⟨gf,0,none⟩),.pointer (some ⟨gc,0,none⟩)] W fun e w'=>∃sv',Cst w w' gc gm ga gf many at_ sv' (cs++(vs.take (min (z0s vs at_) (z13 many+1-cs.length))).map (zEs k))/\
  e= .returned (.bool (!decide (z13 many<cs.length+min (z0s vs at_) (z13 many+1-cs.length)))):=by
 have HD:=zz (zGa _ v0 vs at_ W hv hri hl);have hdl:=z5A vs at_;obtain⟨r,hr⟩:∃r,z13 many+1-cs.length=r:=⟨_,rfl⟩;obtain⟨cap,hcap⟩:∃cap,z13 many=cap:=⟨_,rfl⟩;have hcap10:cap<=10:=by
  rw [<-hcap];unfold z13
  split
  .omega
  .split<;>omega
 obtain⟨dn,hdn⟩:∃dn,z0s vs at_=dn:=⟨_,rfl⟩;obtain⟨dead,hdead⟩:∃dead,vs.take dn=dead:=⟨_,rfl⟩;have hdd:dead.length=dn:=by rw [<-hdead,yC];omega
 have htake:∀j,j<=dn->vs.take (min j r)=dead.take (min j r):=fun j hj=>by rw [<-hdead,Q9,Ye (show min j r<=dn by omega)]
 rw [hdn,hdead]at HD;have HTD:Hid (∀x∈dead,x.t<U64):=fun x hx=>ht x (by rw [<-hdead]at hx;exact yY hx)
 have HFU:Hid (∀ {W' sv' cs'},Cst w W' gc gm ga gf many at_ sv' cs'->Calls prog 38 #[.pointer (some ⟨gc,0,none⟩),.pointer (some ⟨gm,0,none⟩)] W' fun e w'=>e= .returned (.bool (decide (cap<cs'.length)))/\w'=W'):=fun h'=>hcap▸zEY h' hm
 rw [hcap]at hr;rw [hdn,hcap,hr,htake dn (y5 _)];have HC:=zz h;have HBT:=zz hbits;obtain⟨A,c,rfl,-⟩:=hv.at;have a0:W.cell? ⟨ga,0,none⟩=some (.int .u64 (at_:Int)):=h.a.cell 0;have hdM:dead.length<=1000000:=by omega
 have hn1:cs.length=cap+1-r∨(r=0/\cap+1<=cs.length):=by omega
 clear h hbits hv hri ht hdn hdead hcap hdl htake hm;go_enter func40,ntmps40
 go_wp2_with fail
 refine HD.out.mono ?_;rintro e w1 ⟨A2,c2,rfl,hvd,hb1⟩;have hz1:=hb1.size;have HC1:=zz (HC.out.later hb1);have HOL:Hid (∀q,sv.ownBlock=some q->q<W.heap.size∨w1.heap.size<=q):=fun q hq=> .inl (HC.out.own.lt q hq).2
 obtain⟨D0,hD0⟩:∃D0,W.heap.size=D0:=⟨_,rfl⟩;obtain⟨D1,hD1⟩:∃D1,w1.heap.size=D1:=⟨_,rfl⟩;have hgD:gc<D0/\gm<D0/\ga<D0/\gf<D0:=by
  have h1:=HC.out.c.lt;have h2:=HC.out.m.lt;have h3:=HC.out.a.lt;have h4:=HC.out.f.lt;omega
 have HVD:=zz hvd;rw [hD0,hD1]at HVD HOL;have R0:Hid (Cst w w1 gc gm ga gf many at_ sv (cs++(dead.take (min 0 r)).map (zEs k))/\Vs (fun b=>D0<=b/\b<D1) w1 (.slice A2 dead.length c2) dead/\(∀q,sv.ownBlock=some q->q<D0∨D1<=q)/\D1<=w1.heap.size):=by
  refine⟨?_,HVD.out,HOL.out,by omega⟩;rw [Nat.zero_min,ZS,Yx,yf];exact HC1.out
 have hd01:D0<=D1:=by omega
 clear hvd hb1 HC HC1 HOL HVD HD a0 hD0 hD1 hz1;go_wp2_with fail
 go_loopw [14] (fun jv wr=>∃ (j:Nat) (sv':Value),jv= .int .i64 (j:Int)/\j<=dead.length/\Hid (Cst w wr gc gm ga gf many at_ sv' (cs++(dead.take (min j r)).map (zEs k))/\Vs (fun b=>D0<=b/\b<D1) wr (.slice A2 dead.length c2) dead/\(∀q,sv'.ownBlock=some q->q<D0∨D1<=q)/\D1<=wr.heap.size)) (fun jv _=>dead.length-(intOf jv).toNat)
 case atStart=>exact⟨0,sv,rfl,by omega,R0⟩
 case round=>
  clear R0;obtain⟨j,sv',rfl,hj,RR⟩:=hrel;have HST:=zz RR.out.1;have HVD:=zz RR.out.2.1;have HOL:=zz RR.out.2.2.1;have hzr:=RR.out.2.2.2;have hpl:(cs++(dead.take (min j r)).map (zEs k)).length=cs.length+min j r:=by rw [y6,yw,yC];omega
  have HPL:=zz hpl;clear RR hpl;have f0:wr.cell? ⟨gf,0,none⟩=some (.func (Fn.func 38) #[] #[.pointer (some ⟨gc,0,none⟩),.pointer (some ⟨gm,0,none⟩)]):=HST.out.f.cell 0;by_cases hjd:j<dead.length
  .obtain⟨A2',c2',hA2,-,-,-,hcell⟩:=HVD.out.at;injection hA2 with hA2 _ hA3
   subst hA2 hA3;obtain⟨b,o,rfl,hbs,hc⟩:=hcell (by omega);have d0:wr.cell? ⟨b,o+j*3,none⟩=some (.int .u64 (dead[j].t:Int)):=(hc j hjd).1;have d1:wr.cell? ⟨b,o+j*3+1,none⟩=some (.string (st dead[j].v)):=(hc j hjd).2.1;have d2:wr.cell? ⟨b,o+j*3+2,none⟩=some (.bool dead[j].gone):=(hc j hjd).2.2;have hxt:=HTD.out _ (yQ hjd);have HNX:Hid (j<r->dead.take (min (j+1) r)=dead.take (min j r)++ [dead[j]]):=fun h=>by
    rw [show min (j+1) r=j+1 by omega,show min j r=j by omega,yO hjd]
   have HNY:Hid (r<=j->min (j+1) r=min j r):=fun h=>by omega
   obtain⟨x,hx0⟩:∃x,dead[j]=x:=⟨_,rfl⟩;rw [hx0]at d0 d1 d2 hxt HNX;obtain⟨t,v,gn⟩:=x;simp only at d0 d1 d2 hxt;have q3:Below wr.heap.size wr (wr.alloc (.cells #[.int .u64 (t:Int),.string (st v),.bool gn] 62)):=(y7 _ _).alloc (y5 _) _;have HX:=zz (Blk.new wr 62 #[.int .u64 (t:Int),.string (st v),.bool gn]);have HST1:=zz (HST.out.later q3);have HVD1:Hid (Vs (fun b=>D0<=b/\b<D1) (wr.alloc (.cells #[.int .u64 (t:Int),.string (st v),.bool gn] 62)) (.slice (some ⟨b,o,none⟩) dead.length c2) dead):=Sl.below HVD.out q3 fun b hb=>by omega
   have hz3:=q3.size;have HGX:Hid (∀q,sv'.ownBlock=some q->q≠wr.heap.size):=fun q hq=>by
    have:=(HST.out.own.lt q hq).2;omega
   have hgxD:D1<=wr.heap.size:=hzr;have hgxW:wr.heap.size<(wr.alloc (.cells #[.int .u64 (t:Int),.string (st v),.bool gn] 62)).heap.size:=by simp
   clear hx0 hc hcell HST HVD q3 f0;go_upto_region 4 with(fail)
   generalize hW:wr.alloc (.cells #[.int .u64 (t:Int),.string (st v),.bool gn] 62)=W3 at*;clear hW;generalize wr.heap.size=gx at*;clear d0 d1 d2;have f0:W3.cell? ⟨gf,0,none⟩=some (.func (Fn.func 38) #[] #[.pointer (some ⟨gc,0,none⟩),.pointer (some ⟨gm,0,none⟩)]):=HST1.out.f.cell 0;go_wp2_with fail
   refine(HFU.out HST1.out).mono ?_;rintro e w4 ⟨rfl,rfl⟩;rw [HPL.out];by_cases hjr:r<=j
   .have hfull:cap<cs.length+min j r:=by omega
    rw [yq hfull];have RF:Hid (Cst w w4 gc gm ga gf many at_ sv' (cs++(dead.take (min (j+1) r)).map (zEs k))/\Vs (fun b=>D0<=b/\b<D1) w4 (.slice (some ⟨b,o,none⟩) dead.length c2) dead/\(∀q,sv'.ownBlock=some q->q<D0∨D1<=q)/\D1<=w4.heap.size):=by
     rw [HNY.out hjr];exact⟨HST1.out,HVD1.out,HOL.out,by omega⟩
    clear HST1 HVD1 HOL HX hfull f0;go_wp2_with fail
    go_roundw
    case rel=>exact⟨j+1,sv',by go_num,hjd,RF⟩
    case measure=>simp [intOf];omega
   .have hfull:¬cap<cs.length+min j r:=by omega
    rw [yZ hfull];have HKB:Hid (∀wg,BitsOk wg->Calls prog 42 #[.string (st k),.int .u64 (t:Int)] wg fun e w'=>e= .returned (.string (st (z10 k t)))/\Below wg.heap.size wg w'):=fun wg hbw=>z2C k t wg hbw hk hxt
    have HWC:Hid (zEs k ⟨t,v,gn⟩=⟨z10 k t,[],true⟩):=rfl;obtain⟨kb,hkb⟩:∃kb,z10 k t=kb:=⟨_,rfl⟩;rw [hkb]at HKB HWC;obtain⟨prev,hprev⟩:∃prev,cs++(dead.take (min j r)).map (zEs k)=prev:=⟨_,rfl⟩;rw [hprev]at HST1 HPL;have HPV:=zz hprev;obtain⟨A',n',c',rfl⟩:=z0v HST1.out.own;obtain rfl:n'=prev.length:=z0h HST1.out.own;have hpl10:prev.length<=10:=by have:=HPL.out;omega
    have HOW:=zz HST1.out.own;have HGC:=zz HST1.out.c;generalize hFC:(fun b=>(Value.slice A' prev.length c').ownBlock=some b)=FC at*;have HFC:=zz hFC;have HF:Hid (∀q,FC q->(Value.slice A' prev.length c').ownBlock=some q):=fun q h=>by subst hFC;exact h
    have HF0:Hid (∀q,FC q->w.heap.size<=q/\q<w4.heap.size):=fun q h=>HOW.out.lt q (HF.out q h)
    have HNC:Hid (∀q,FC q->q≠gc/\q≠gm/\q≠ga/\q≠gf):=fun q h=>by
     have h1:=HF.out q h;exact⟨fun e=>z31 HOW.out HST1.out.c (by decide) (e▸h1),fun e=>z31 HOW.out HST1.out.m (by decide) (e▸h1),fun e=>z31 HOW.out HST1.out.a (by decide) (e▸h1),fun e=>z31 HOW.out HST1.out.f (by decide) (e▸h1)⟩
    have HE:Hid (∀q,trE [TrP.of 7 FC,TrP.of 8 fun b=>b=gc] q->FC q∨q=gc):=fun q h=>(zKA.1 h)
    have hgxN:gx≠gc:=by omega
    have HXC:Hid (¬trE [TrP.of 7 FC,TrP.of 8 fun b=>b=gc] gx):=fun h=>(HE.out _ h).elim (fun h=>HGX.out _ (HF.out _ h) rfl) hgxN
    have x0:w4.cell? ⟨gx,0,none⟩=some (.int .u64 (t:Int)):=HX.out.cell 0;have HBI:Hid (∀wg,Turn (trE [TrP.of 7 FC,TrP.of 8 fun b=>b=gc]) w4 wg->BitsOk wg):=fun wg hwg=>by
     have hb4:BitsOk w4:=HBT.out.later HST1.out.below;intro q hq;rw [<-hb4 q hq];unfold World.cell?;rw [hwg.block 0 (by have:=HST1.out.below.size;omega) fun h=>by
      have hgc:=HST1.out.gc0;rcases HE.out _ h with h|h
      .have:=(HF0.out _ h).1;omega
      .omega]
    have HZW:Hid (w.heap.size<=w4.heap.size):=HST1.out.below.size;have c0:w4.cell? ⟨gc,0,none⟩=some (.slice A' prev.length c'):=HST1.out.c.cell 0;clear hFC hprev f0 hkb hfull;go_wp2_with fail
    refine z1F [TrP.of 7 FC,TrP.of 8 (fun b=>b=gc)] (by kernel_rfl) (by kernel_rfl) ?_;apply Exists.intro;apply And.intro
    .apply z4Y (c:= .slice A' prev.length c') rfl (by kernel_rfl)
     .intro wg hwg hf;have hb:Blk wg gc 100 #[.slice A' prev.length c']:=HGC.out.turn hwg (zBq (fun p hp=>by
       simp only [y9,yH,yp]at hp;rcases hp with rfl|rfl
       .exact .inr (.inl (by kernel_rfl))
       .exact .inr (.inl (by kernel_rfl))))
      have v0:wg.cell? ⟨gc,0,none⟩=some (.slice A' prev.length c'):=hb.cell 0;clear hb hwg hf;unfold z03;go_simp;exact z00 _ _
     intro K hK;go_simp;refine hK _ ?_;clear hK K
     repeat(first
      |(apply z1L rfl
        intro K hK;go_simp;refine hK _ ?_;clear hK K)
      |(apply z2M rfl (by kernel_rfl)
        .intro wg hwg _;have x0':=Turn.cell hwg x0 HXC.out;unfold z03;go_simp
         first
          |exact z00 _ _
          |(exact z0Z (HKB.out wg (HBI.out wg hwg)))
        intro K hK;go_simp;refine hK _ ?_;clear hK K))
     apply zGx (V:=VSl w4.heap.size 3 1 [.string (st kb),.string (st []),.bool true]) rfl (by kernel_rfl)
     .intro wg hwg hf;unfold z03;go_simp;exact⟨(y7 _ _).alloc (y5 _) _,⟨_,_,_,rfl⟩,(Sl.newb (S:=fun b=>b=wg.heap.size) wg 96 [.string (st kb),.string (st []),.bool true] rfl rfl).more fun b h=>⟨by subst h;exact hwg.size,by subst h;simp⟩⟩
     intro xv hxv K hK;obtain⟨wx,hwx,hbx⟩:=hxv;have hbo:=hbx;obtain⟨⟨A78,k78,c78,rfl⟩,_⟩:=hbo;go_simp;refine hK _ ?_;clear hK K hbx hwx;apply z1Z (V:=VRow w.heap.size 96 3 (prev.length+1) (chs prev++([.string (st kb),.string (st []),.bool true]:List Value)) (Value.slice A' prev.length c').ownBlock w4.heap.size) (TrP.of 7 FC);exact rfl
     kernel_rfl
     .intro wg hwg hf;have hsl:VSl w4.heap.size 3 1 [.string (st kb),.string (st []),.bool true] (.slice A78 k78 c78) wg:=hf ⟨6,.data⟩ (by simp) rfl _ _ rfl;have hwg2:=z1s (fun p hp=>by simp only [y9,yH,yp]at hp;rcases hp with rfl|rfl;exact .inl rfl;exact .inr (by kernel_rfl)) hwg;have hownz:=z17 HOW.out hwg2;show steps _ _ _ wg (Turn FC) _;rw [<-HFC.out];exact z1i (s:= .tmp 21) (x:= .tmp 27) zCO rfl hownz hsl.2 rfl rfl (by intro y hy;simp at hy;rcases hy with rfl|rfl|rfl<;>rfl) (by simp only [maxLen];omega) (by omega) (yD HZW.out hwg2.size) hwg2.size
     intro xv hxv K hK;obtain⟨wx,hwx,hbx⟩:=hxv;have hbo:=hbx;obtain⟨⟨A79,c79,rfl⟩,_⟩:=hbo;go_simp;refine hK _ ?_;clear hK K hbx hwx;apply z1Z (V:=CstStore w.heap.size gc (prev.length+1) (chs prev++([.string (st kb),.string (st []),.bool true]:List Value)) (Value.slice A' prev.length c').ownBlock w4.heap.size) (TrP.of 8 (fun b=>b=gc));exact rfl
     kernel_rfl
     .intro wg hwg hf;have hrow:VRow w.heap.size 96 3 (prev.length+1) (chs prev++([.string (st kb),.string (st []),.bool true]:List Value)) (Value.slice A' prev.length c').ownBlock w4.heap.size (.slice A79 (prev.length+1) c79) wg:=hf ⟨7,.data⟩ (by simp) rfl _ _ rfl;have hb:Blk wg gc 100 #[.slice A' prev.length c']:=HGC.out.turn hwg (zBq (fun p hp=>by simp only [y9,yH,yp]at hp;rcases hp with rfl|rfl;exact .inr (.inr (fun h=>(HNC.out _ h).1 rfl));exact .inl rfl));have v0:wg.cell? ⟨gc,0,none⟩=some (.slice A' prev.length c'):=hb.cell 0;have f0:=hb.free 0;show steps _ _ _ wg (Turn fun b=>b=gc) _;unfold steps;go_simp;exact⟨(Turn.refl (fun b=>b=gc) wg).setCell (p:=⟨gc,0,none⟩) (.inl rfl) _,A79,c79,hb.put 0 _,zHk hrow.2.1 (z31 hrow.2.1 hb (by decide)) 0 _,hrow.2.2⟩
     intro xv hxv K hK;obtain⟨wx,hwx,hbx⟩:=hxv
     skip
     go_simp;refine hK _ ?_;clear hK K hbx hwx;refine z39 (fun w6 hE hf=> ?_);have g8:=hf 8 _ _ rfl;clear hf;obtain⟨A8,c8,hbc,hown8,hob8⟩:=g8;have hz6:=hE.size;have hjr2:j<r:=by omega
     have HG:=zz HST1.out.gc0;have RF:Hid (Cst w w6 gc gm ga gf many at_ (.slice A8 (prev.length+1) c8) (cs++(dead.take (min (j+1) r)).map (zEs k))/\Vs (fun b=>D0<=b/\b<D1) w6 (.slice (some ⟨b,o,none⟩) dead.length c2) dead/\(∀q,(Value.slice A8 (prev.length+1) c8).ownBlock=some q->q<D0∨D1<=q)/\D1<=w6.heap.size):=by
      have eP:cs++(dead.take (min (j+1) r)).map (zEs k)=prev++ [⟨kb,[],true⟩]:=by
       rw [HNX.out hjr2,Y6,<-yM,HPV.out,yy,Yx,HWC.out]
      rw [eP];have hnE:∀ {g:Nat} {t:TypeId} {us:Array Value},Blk w4 g t us->t≠100->t≠96->¬trE [TrP.of 7 FC,TrP.of 8 fun b=>b=gc] g:=fun {g t us} hb h1 h2 h=>by
       rcases HE.out _ h with h|h
       .exact z31 HOW.out hb h2.symm (HF.out _ h)
       .subst h;exact Blk.ne hb HGC.out h1 rfl
      refine⟨⟨hbc,?_,HST1.out.m.turn hE (hnE HST1.out.m (by decide) (by decide)),HST1.out.a.turn hE (hnE HST1.out.a (by decide) (by decide)),HST1.out.f.turn hE (hnE HST1.out.f (by decide) (by decide)),Turn.below HST1.out.below hE HZW.out (fun q hq=>(HE.out _ hq).elim (fun h=>(HF0.out _ h).1) fun h=>h▸HG.out),HG.out,HST1.out.gm0,HST1.out.ga0,HST1.out.gf0⟩,Sl.keep HVD1.out fun b o hb=>yR (hE.block b (by omega) fun h=> ?_),fun q hq=> ?_,by omega⟩
      .rw [y6,Y7,zEc];exact hown8
      .rcases HE.out _ h with h|h
       .have:=HOL.out _ (HF.out _ h);omega
       .omega
      .rcases hob8 with h|⟨g,h,hg⟩
       .rw [h]at hq;exact HOL.out q hq
       .rw [h]at hq;injection hq with hq
        omega
     clear hE hbc hown8 hob8 HNX HWC HPL HPV HOW HGC HF HF0 HNC HE HXC HBI HKB HST1 HVD1 HOL x0 c0 HFC;go_wp2_with fail
     go_roundw
     case rel=>exact⟨j+1,_,by go_num,by omega,RF⟩
     case measure=>simp [intOf];omega
    .apply And.intro
     .repeat(first
       |exact trivial
       |(refine⟨z5y _ _,?_⟩)
       |(refine⟨z7C VSl.stays (fun p hp hn hw=>by simp only [y9,yH,yp]at hp;rcases hp with rfl|rfl;exact VSl.tstays (fun g h=>(HF0.out g h).2);exact VSl.tstays (fun g h=>by have h1:g=gc:=h;have:=HGC.out.lt;omega)),?_⟩)
       |(refine⟨z7C VRow.stays (fun p hp hn hw=>by simp only [y9,yH,yp]at hp;rcases hp with rfl|rfl;exact absurd rfl hn;exact VRow.tstays (fun g h h1=>z31 HOW.out HGC.out (by decide) (by have h2:g=gc:=h1;rw [<-h2];exact h)) (fun g h=>by have h1:g=gc:=h;have:=HGC.out.lt;omega)),?_⟩)
       |(refine⟨zIv CstStore.stays (i:=7) (by kernel_rfl) (fun p hp=>by simp only [y9,yH,yp]at hp;rcases hp with rfl|rfl;exact .inr rfl;exact .inl rfl),?_⟩)
       )
     .rfl
  .obtain rfl:j=dead.length:=by omega
   clear HVD HOL;go_wp2_with fail
   refine(HFU.out HST.out).mono ?_;rintro e w4 ⟨rfl,rfl⟩;rw [HPL.out];go_wp2_with fail
   go_ret
   rw [<-hdd];exact⟨sv',HST.out,rfl⟩
end
end Go.Proofs.YthnlcbamjehpdaaGreatDoor
