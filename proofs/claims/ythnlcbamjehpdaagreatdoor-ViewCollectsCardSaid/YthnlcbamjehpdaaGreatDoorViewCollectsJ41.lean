/- Part 41. -/
import Derived.Test.YthnlcbamjehpdaaGreatDoorViewCollectsJ40
namespace Go.Proofs.YthnlcbamjehpdaaGreatDoor
set_option linter.unusedVariables false
set_option maxHeartbeats 16000000
set_option maxRecDepth 100000
section
open Go Go.RowKit Tryz
theorem zCO:Elem prog 100 96 (.agg #[.string ⟨#[]⟩,.string ⟨#[]⟩,.bool false]) 3 40:=Elem.mk' underlying100 (by kernel_rfl) rfl (by omega)
theorem zBu{w:World}{gv:Nat}{u0:Value}{last hor:Nat}(hb:Blk w gv 99 #[u0,.int .u64 (last:Int),.int .u64 (hor:Int)])(S:Nat->Prop)(v0:Value)(ws:List Wri)(hr:Wrs S w v0 ws)(hs:∀x∈ws,x.v.length<=9223372036854775807/\x.k.length<=9223372036854775807)(hl:last+1<=9223372036854775807)(hc:z5w ws≠0){pg:Nat}(hpg:gv=pg):
 Calls prog 16 #[.pointer (some ⟨pg,0,none⟩),.int .u64 ((last+1:Nat):Int),v0] w fun e w'=>e= .returned (.int .i64 174)/\Below w.heap.size w w':=by
 subst hpg;have c1:w.cell? ⟨gv,1,none⟩=some (.int .u64 (last:Int)):=hb.cell 1;have HC:=zz (z8B S v0 ws w hr hs);obtain⟨A,c,rfl,-⟩:=hr.at;obtain⟨a,ha⟩:∃a,last+1=a:=⟨_,rfl⟩;have hw:IntKind.u64.wrap ((last:Int)+1)=(a:Int):=by rw [z1a (by omega) (by unfold U64;omega)];omega
 have e1:((a:Int) != (a:Int))=false:=by simp
 have e2:decide ((9223372036854775807:Int)<(a:Int))=false:=by rw [yj];omega
 obtain⟨N,hN⟩:∃N,z5w ws=N:=⟨_,rfl⟩;rw [hN]at HC hc;have e4:((N:Int) != 0)=true:=by simp;omega
 rw [ha];clear hb hr hs hN hc ha;go_enter func16,ntmps16
 go_wp2_with fail
 refine HC.out.mono ?_;rintro e w1 ⟨rfl,hb1⟩;go_wp2_with fail
 go_ret
 exact⟨rfl,hb1⟩
theorem zIG{ops:Array Oper}{i:Nat}{F:Nat->Prop}{b:Nat}(h:trX ops [TrP.of i F] i b):False:=by
 obtain⟨r,hr,hne,_,hF⟩:=h;obtain rfl:=yJ.1 hr;exact hne rfl
structure CmSt(w wr:World)(sv:Value)(xs:List Chg):Prop where
 own:wr.ownsRow w.heap.size 96 3 sv xs.length (chs xs)
 below:Below w.heap.size w wr
def zD8(AP:Nat->World->Prop)(gv:Nat)(cs:Array Value)(at_:Nat)(e:Ending)(w':World):Prop:=
 ∃er w1,AP er w1/\Blk w1 gv 99 cs/\(er≠0->e= .returned (.int .i64 (er:Int))/\w'=w1)/\(er=0->e= .returned (.int .i64 0)/\w'=w1.setCell ⟨gv,1,none⟩ (.int .u64 (at_:Int)))
theorem zBC(at_ hor:Nat){ws:List Wri}{i:Nat}(h:i<ws.length):(z0b at_ hor ws).take (i+1+1)=(z0b at_ hor ws).take (i+1)++ [wriC at_ ws[i]]:=by
 unfold z0b;rw [Zx,Zx,<-List.map_take,<-List.map_take,yO h,Y6,Y8];rfl
theorem zHO{x:Vsn}(h:x.v.length<=256):(z90 x).length<=257:=by
 unfold z90
 split
 .simp
 .simp;omega
theorem zBt{w:World}{gv gs:Nat}{last hor:Nat}(hb:Blk w gv 99 #[.pointer (some ⟨gs,0,none⟩),.int .u64 (last:Int),.int .u64 (hor:Int)])(hbits:BitsOk w)(S:Nat->Prop)(v0:Value)(ws:List Wri)(hr:Wrs S w v0 ws)(hl:last+1<=9223372036854775807)(hh:hor<U64)(hc:z5w ws=0)
 (AP:Nat->World->Prop) (hap:∀wg v0,Below w.heap.size w wg->Ch (fun b=>w.heap.size<=b/\b<wg.heap.size) wg v0 (z0b (last+1) hor ws)->Calls prog 43 #[.pointer (some ⟨gs,0,none⟩),v0] wg fun e w'=>∃n er:Nat,e= .returned (.tuple #[.int .u64 (n:Int),.int .i64 (er:Int)])/\AP er w'/\Blk w' gv 99 #[.pointer (some ⟨gs,0,none⟩),.int .u64 (last:Int),.int .u64 (hor:Int)]) {pg:Nat} (hpg:gv=pg):
 Calls prog 16 #[.pointer (some ⟨pg,0,none⟩),.int .u64 ((last+1:Nat):Int),v0] w (zD8 AP gv #[.pointer (some ⟨gs,0,none⟩),.int .u64 (last:Int),.int .u64 (hor:Int)] (last+1)):=by
 subst hpg;obtain⟨ne,h8,hok,-⟩:=zEQ hc;have HC:=zz (z8B S v0 ws w hr fun x hx=>by have h1:=(hok x hx).v;have h2:=(hok x hx).k64;omega);rw [hc]at HC;have HOK:=zz hok;have HB:=zz hb;have HBT:=zz hbits;have HAP:=zz hap;obtain⟨A,c,rfl,hlc,hcm,-,hA⟩:=hr.lt.at;have HA:=zz hA;have c1:w.cell? ⟨gv,1,none⟩=some (.int .u64 (last:Int)):=hb.cell 1;obtain⟨a,ha⟩:∃a,last+1=a:=⟨_,rfl⟩;have hw:IntKind.u64.wrap ((last:Int)+1)=(a:Int):=by rw [z1a (by omega) (by unfold U64;omega)];omega
 have e1:((a:Int) != (a:Int))=false:=by simp
 have e2:decide ((9223372036854775807:Int)<(a:Int))=false:=by rw [yj];omega
 have haU:a<U64:=by unfold U64;omega
 rw [ha]at HAP ⊢;clear hb hr hc ha hA hbits hap hok ne;go_enter func16,ntmps16
 go_wp2_with fail
 refine HC.out.mono ?_;rintro e w1 ⟨rfl,hb1⟩;have HQ1:=zz hb1;have hbv:=HB.out.later hb1;have d1:w1.cell? ⟨gv,2,none⟩=some (.int .u64 (hor:Int)):=hbv.cell 2;clear HC hb1 hbv c1 hw e1 e2;go_wp2_with fail
 refine(zAs a hor w1 haU hh).mono ?_;rintro e w2 ⟨rfl,hb2⟩;have hq2:=HQ1.out.trans (hb2.mono HQ1.out.size);have R0:Hid (CmSt w (w2.alloc (.cells #[.string (st ttlK),.string (st (z62 a hor)),.bool false] 96)) (.slice (some ⟨w2.heap.size,0,none⟩) 1 1) ((z0b a hor ws).take (0+1))):=by
  refine⟨?_,hq2.alloc hq2.size _⟩;have h1:=z7E w2 w.heap.size 96 [.string (st ttlK),.string (st (z62 a hor)),.bool false] rfl hq2.size;exact h1
 clear hb2 hq2 HQ1 d1;go_wp2_with fail
 go_loopw [7,38] (fun sv iv wr=>∃ (i:Nat) (A':Option Addr) (c':Nat),sv= .slice A' (i+1) c'/\iv= .int .i64 (i:Int)/\i<=ws.length/\Hid (CmSt w wr (.slice A' (i+1) c') ((z0b a hor ws).take (i+1)))) (fun _ iv _=>ws.length-(intOf iv).toNat)
 case atStart=>exact⟨0,some ⟨w2.heap.size,0,none⟩,1,rfl,rfl,by omega,R0⟩
 case round=>
  clear R0;obtain⟨i,A',c',rfl,rfl,hi,RR⟩:=hrel;have hbl:=RR.out.below;by_cases hil:i<ws.length
  .obtain⟨b,o,rfl,hbs,hcl⟩:=HA.out (by omega);have c0:wr.cell? ⟨b,o+i*3,none⟩=some (.string (st ws[i].k)):=(hbl.cell (p:=⟨b,o+i*3,none⟩) hbs.2).trans (hcl i hil).1;have c1:wr.cell? ⟨b,o+i*3+1,none⟩=some (.string (st ws[i].v)):=(hbl.cell (p:=⟨b,o+i*3+1,none⟩) hbs.2).trans (hcl i hil).2.1;have c2:wr.cell? ⟨b,o+i*3+2,none⟩=some (.bool ws[i].gone):=(hbl.cell (p:=⟨b,o+i*3+2,none⟩) hbs.2).trans (hcl i hil).2.2;have hxo:=HOK.out _ (yQ hil);have HNX:=zz (zBC a hor hil);have hib:(0:Int)<=(i:Int):=by omega
   obtain⟨x,hx0⟩:∃x,ws[i]=x:=⟨_,rfl⟩;rw [hx0]at c0 c1 c2 hxo HNX;obtain⟨prev,hprev⟩:∃prev,(z0b a hor ws).take (i+1)=prev:=⟨_,rfl⟩;have hpl:prev.length=i+1:=by
    rw [<-hprev,yC];unfold z0b;rw [y8,yw];omega
   rw [hprev]at RR HNX;have HCM:=zz RR.out;have HPL:=zz hpl;have hk64:=hxo.k64;have hv256:=hxo.v;have HKB:=zz (fun(wg:World) (hbw:BitsOk wg)=>z2C x.k a wg hbw hk64 haU);have HSH:=zz (fun(wg:World)=>zGi ⟨0,x.v,x.gone⟩ wg (by simp only;omega));obtain⟨kb,hkb⟩:∃kb,z10 x.k a=kb:=⟨_,rfl⟩;obtain⟨vb,hvb⟩:∃vb,z90 ⟨0,x.v,x.gone⟩=vb:=⟨_,rfl⟩;have HWC:Hid (wriC a x=⟨kb,vb,false⟩):=by
    rw [Hid,<-hkb,<-hvb];rfl
   rw [hkb]at HKB;rw [hvb]at HSH;unfold zH3 at HSH;obtain⟨k,v,gn⟩:=x;simp only at c0 c1 c2 HKB HSH;have HX:=zz (Blk.new wr 66 #[.string (st k),.string (st v),.bool gn]);have q3:Below wr.heap.size wr (wr.alloc (.cells #[.string (st k),.string (st v),.bool gn] 66)):=(y7 _ _).alloc (y5 _) _;have hown:=z17 HCM.out.own q3;have HOW:=zz hown;have HBW:=zz (hbl.trans (q3.mono hbl.size));have HNE:Hid (∀q,(Value.slice A' (i+1) c').ownBlock=some q->q≠wr.heap.size/\w.heap.size<=q/\q<wr.heap.size):=fun q hq=>by
    have:=HCM.out.own.lt q hq;exact⟨by omega,this.1,this.2⟩
   have HW0:Hid (BitsOk (wr.alloc (.cells #[.string (st k),.string (st v),.bool gn] 66))):=HBT.out.later (hbl.trans (q3.mono hbl.size));have HWP:Hid (0<w.heap.size):=HBT.out.pos;have hzz:=hbl.size;clear hx0 hprev hpl hxo hkb hvb hcl RR q3 hown hbl HCM;go_wp2_with fail
   have hgw:wr.heap.size<(wr.alloc (.cells #[.string (st k),.string (st v),.bool gn] 66)).heap.size:=by simp
   generalize hW:wr.alloc (.cells #[.string (st k),.string (st v),.bool gn] 66)=W at*;clear hW;generalize wr.heap.size=gx at*;clear c0 c1 c2;have x0:W.cell? ⟨gx,0,none⟩=some (.string (st k)):=HX.out.cell 0;have x1:W.cell? ⟨gx,1,none⟩=some (.string (st v)):=HX.out.cell 1;have x2:W.cell? ⟨gx,2,none⟩=some (.bool gn):=HX.out.cell 2;generalize hFC:(fun b=>(Value.slice A' (i+1) c').ownBlock=some b)=FC at*;have HFC:=zz hFC;have HF:Hid (∀q,FC q->(Value.slice A' (i+1) c').ownBlock=some q):=fun q h=>by subst hFC;exact h
   have HFlt:Hid (∀q,FC q->q<W.heap.size):=fun q h=>by have:=(HNE.out q (HF.out q h)).2.2;omega
   have hE:¬trE [TrP.of 13 FC] gx:=fun h=>by
    rw [zK9]at h;exact(HNE.out _ (HF.out _ h)).1 rfl
   have HBI:Hid (∀wg,Turn (trE [TrP.of 13 FC]) W wg->BitsOk wg):=fun wg hwg j hj=>by
    rw [<-HW0.out j hj];unfold World.cell?;rw [hwg.block 0 (by have:=HWP.out;omega) (fun h=>by
     rw [zK9]at h;have:=(HNE.out _ (HF.out _ h)).2.1;have:=HWP.out;omega)]
   have hin:i+1<=8:=by omega
   have HZW:Hid (w.heap.size<=W.heap.size):=by rw [Hid];omega
   clear hFC HX hgw hzz;go_wp2_with fail
   refine z4G [TrP.of 13 FC] (by kernel_rfl) (by kernel_rfl) ?_;apply Exists.intro;apply And.intro
   .repeat(first
     |(apply z1y rfl
       intro K hK;go_simp;refine hK _ ?_;clear hK K)
     |(apply z3n rfl (by kernel_rfl)
       .intro wg hwg _;have x0':=Turn.cell hwg x0 hE;have x1':=Turn.cell hwg x1 hE;have x2':=Turn.cell hwg x2 hE;unfold z03;go_simp
        first
         |exact z00 _ _
         |(exact z0Z (HKB.out wg (HBI.out wg hwg)))
         |(exact z0Z (HSH.out wg))
       intro K hK;go_simp;refine hK _ ?_;clear hK K))
    apply z1x (V:=VSl W.heap.size 3 1 [.string (st kb),.string (st vb),.bool false]) rfl (by kernel_rfl)
    .intro wg hwg hf;unfold z03;go_simp;exact⟨(y7 _ _).alloc (y5 _) _,⟨_,_,_,rfl⟩,(Sl.newb (S:=fun b=>b=wg.heap.size) wg 96 [.string (st kb),.string (st vb),.bool false] rfl rfl).more fun b h=>⟨by subst h;exact hwg.size,by subst h;simp⟩⟩
    intro xv hxv K hK;obtain⟨wx,hwx,hbx⟩:=hxv;have hbo:=hbx;obtain⟨⟨A78,k78,c78,rfl⟩,_⟩:=hbo;go_simp;refine hK _ ?_;clear hK K hbx hwx;apply z4F (V:=VRow w.heap.size 96 3 (i+1+1) (chs prev++([.string (st kb),.string (st vb),.bool false]:List Value)) (Value.slice A' (i+1) c').ownBlock W.heap.size) (TrP.of 13 FC);exact rfl
    kernel_rfl
    .intro wg hwg hf;have hsl:VSl W.heap.size 3 1 [.string (st kb),.string (st vb),.bool false] (.slice A78 k78 c78) wg:=hf ⟨12,.data⟩ (by simp) rfl _ _ (by kernel_rfl);have hownz:=z2V (HPL.out▸HOW.out) hwg (fun g hg hx=>zIG hx);show steps _ _ _ wg (Turn FC) _;rw [<-HFC.out];exact z1i (s:= .tmp 42) (x:= .tmp 54) zCO rfl hownz hsl.2 rfl rfl (by intro y hy;simp at hy;rcases hy with rfl|rfl|rfl<;>rfl) (by simp only [maxLen];omega) (by omega) (yD HZW.out hwg.size) hwg.size
    intro xv hxv K hK;obtain⟨wx,hwx,hbx⟩:=hxv;have hbo:=hbx;obtain⟨⟨A79,c79,rfl⟩,_⟩:=hbo;go_simp;refine hK _ ?_;clear hK K hbx hwx;apply z1x (V:=VRow w.heap.size 96 3 (i+1+1) (chs prev++([.string (st kb),.string (st vb),.bool false]:List Value)) (Value.slice A' (i+1) c').ownBlock W.heap.size) rfl (by kernel_rfl)
    .intro wg hwg hf;unfold z03;go_simp;have hq:VRow w.heap.size 96 3 (i+1+1) (chs prev++([.string (st kb),.string (st vb),.bool false]:List Value)) (Value.slice A' (i+1) c').ownBlock W.heap.size (.slice A79 (i+1+1) c79) wg:=hf ⟨13,.data⟩ (by simp) rfl _ _ (by kernel_rfl);exact⟨y7 _ _,hq⟩
    intro xv hxv K hK;obtain⟨wx,hwx,hbx⟩:=hxv;have hbo:=hbx;obtain⟨⟨A4,c4,rfl⟩,_⟩:=hbo;go_simp;refine hK _ ?_;clear hK K hbx hwx;refine z9p (fun w6 hw6 hv6=> ?_);have h14:VRow w.heap.size 96 3 (i+1+1) (chs prev++([.string (st kb),.string (st vb),.bool false]:List Value)) (Value.slice A' (i+1) c').ownBlock W.heap.size (.slice A4 (i+1+1) c4) w6:=hv6 14 _ _ rfl;have RF:Hid (CmSt w w6 (.slice A4 (i+1+1) c4) ((z0b a hor ws).take (i+1+1))):=by
     refine⟨?_,Turn.below HBW.out hw6 HZW.out fun q hq=> ?_⟩
     .rw [HNX.out,HWC.out,y6,Y7,HPL.out,zEc];exact h14.2.1
     .rw [zK9]at hq;exact(HNE.out _ (HF.out _ hq)).2.1
    clear hw6 hv6 h14 HNX HWC HPL HBW HOW HNE HF HFlt HBI HKB HSH x0 x1 x2 hE HW0;go_wp2_with fail
    go_roundw
    case rel=>exact⟨i+1,A4,c4,rfl,by go_num,by omega,RF⟩
    case measure=>simp [intOf];omega
   .apply And.intro
    .repeat(first
      |exact trivial
      |(refine⟨okTr _ _,?_⟩)
      |(refine⟨zJr VSl.stays (.inr (.inr (VSl.tstays HFlt.out))),?_⟩)
      |(refine⟨zJr VRow.stays (.inl rfl),?_⟩)
      |(refine⟨zJr VRow.stays (.inr (.inl (by kernel_rfl))),?_⟩)
      )
    .rfl
  .obtain rfl:i=ws.length:=by omega
   have hlast:(z0b a hor ws).take (ws.length+1)=z0b a hor ws:=by
    rw [ya];unfold z0b;simp
   have hcm:=RR.out;rw [hlast]at hcm;have hcl:(z0b a hor ws).length=ws.length+1:=by unfold z0b;simp
   have HCH:Hid (Ch (fun b=>w.heap.size<=b/\b<wr.heap.size) wr (.slice A' (ws.length+1) c') (z0b a hor ws)):=Sl.of_own (by omega) hcm.own;have HQ:=zz hbl;have hbv:=HB.out.later hbl;have c0:wr.cell? ⟨gv,0,none⟩=some (.pointer (some ⟨gs,0,none⟩)):=hbv.cell 0;clear RR hcm hlast hcl hbl hbv;go_wp2_with fail
   refine(HAP.out wr _ HQ.out HCH.out).mono ?_;rintro e w5 ⟨n,er,rfl,hAP,hbv5⟩;have HA5:=zz hAP;have f1:=hbv5.free 1;have g1:w5.cell? ⟨gv,1,none⟩=some (.int .u64 (last:Int)):=hbv5.cell 1;have HB5:=zz hbv5;clear hAP hbv5 HAP HCH HQ c0;by_cases he:er=0
   .subst he;go_wp2_with fail
    go_ret
    exact⟨0,w5,HA5.out,HB5.out,fun h=>absurd rfl h,fun _=>⟨rfl,rfl⟩⟩
   .have e5:((er:Int) != 0)=true:=by simp;omega
    have HNZ:=zz he;clear he;go_wp2_with fail
    go_ret
    exact⟨er,w5,HA5.out,HB5.out,fun _=>⟨rfl,rfl⟩,fun h=>absurd h HNZ.out⟩
end
end Go.Proofs.YthnlcbamjehpdaaGreatDoor
