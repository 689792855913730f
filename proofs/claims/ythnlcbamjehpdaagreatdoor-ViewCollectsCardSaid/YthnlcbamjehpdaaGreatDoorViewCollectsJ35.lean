/- Part 35. -/
import Derived.Test.YthnlcbamjehpdaaGreatDoorViewCollectsJ20
import Derived.Test.YthnlcbamjehpdaaGreatDoorViewCollectsJ34
namespace Go.Proofs.YthnlcbamjehpdaaGreatDoor
set_option linter.unusedVariables false
set_option maxHeartbeats 16000000
set_option maxRecDepth 100000
section
open Go Go.RowKit
theorem zI5(S:Nat->Prop)(v0:Value)(l:List Chg)(w:World)(hr:Ch S w v0 l)(hok:ChOk l):
 Calls Tryz.prog 82 #[v0] w fun e w'=>e= .returned (.string (st (z1e l)))/\Below w.heap.size w w':=by
 have HR:=zz hr.lt;obtain⟨A,c,rfl,hlc,hcm,hA0,hA⟩:=hr.lt.at;have HA:=zz hA;have HX:=zz hok.2;have hl11:=hok.1;have HLEN:=zz (z6D hok.2);clear hA hr hok hA0;go_enter Tryz.func82,Tryz.ntmps82
 go_wp2_with fail
 refine(z5U w).mono ?_;rintro e w1 ⟨rfl,hw1,hb1,hs1⟩;obtain⟨G,hG⟩:∃G,w.heap.size=G:=⟨_,rfl⟩;have hwG:Hid (Wr w1 G G []):=by rw [Hid,<-hG];exact hw1
 have HG:=zz hG;have hGlt:G<w1.heap.size:=by omega
 have HB1:Hid (Below w.heap.size w w1):=hb1;have hwu:IntKind.u64.wrap (l.length:Int)=(l.length:Int):=z1a (by omega) (by unfold U64;omega);have hslx:Sl (fun b=>b≠G/\b<(w1.alloc (.cells #[.int .u64 (l.length:Int)] 27)).heap.size) (w1.alloc (.cells #[.int .u64 (l.length:Int)] 27)) 1 (.slice (some ⟨w1.heap.size,0,none⟩) 1 1) [l.length].length (zIt [l.length]):=Sl.new1 w1 _ _ rfl ⟨by omega,by simp⟩;have HSLX:=zz hslx;rw [hG];clear hw1 hb1 hslx hG hs1;go_wp2_with fail
 refine(z5R G G [] [l.length] _ _ (hwG.out.alloc _) (by simp;omega) (y5 _) (by intro y hy;simp at hy;subst hy;unfold U64;omega) (by simp) HSLX.out).mono ?_;rintro e w2 ⟨rfl,hw2,hg2⟩;simp only [yb,YZ,yf,yz]at hw2;have hz2:=hg2.size;have HB2:Hid (Below w.heap.size w w2):=(HB1.out.alloc HB1.out.size _).trans (z0T hg2 (by have:=HG.out;omega) (by have:=HB1.out.size;simp;omega));have hG2:G<w2.heap.size:=by simp at hz2;omega
 have R0:Hid (Wr w2 G G (z0C l.length++(l.take 0).flatMap z7r)/\Below w.heap.size w w2/\G<w2.heap.size):=⟨by simpa using hw2,HB2.out,hG2⟩;clear hw2 hg2 HSLX hwG HB1 HB2 hz2;have hv10:(z0C l.length).length<=10:=z09 (by unfold U64;omega);go_wp2_with fail
 go_loopw [17] (fun iv wr=>∃i:Nat,iv= .int .i64 (i:Int)/\i<=l.length/\Hid (Wr wr G G (z0C l.length++(l.take i).flatMap z7r)/\Below w.heap.size w wr/\G<wr.heap.size)) (fun iv _=>l.length-(intOf iv).toNat)
 case atStart=>exact⟨0,rfl,by omega,R0⟩
 case round=>
  obtain⟨i,rfl,hi,RR⟩:=hrel;clear R0;have hbl:=RR.out.2.1;have hGr:=RR.out.2.2;by_cases hil:i<l.length
  .obtain⟨b,o,rfl,hbs,hc⟩:=HA.out (by omega);have c0:wr.cell? ⟨b,o+i*3,none⟩=some (.string (st l[i].k)):=(hbl.cell (p:=⟨b,o+i*3,none⟩) hbs).trans (hc i hil).1;have c1:wr.cell? ⟨b,o+i*3+1,none⟩=some (.string (st l[i].v)):=(hbl.cell (p:=⟨b,o+i*3+1,none⟩) hbs).trans (hc i hil).2.1;have c2:wr.cell? ⟨b,o+i*3+2,none⟩=some (.bool l[i].gone):=(hbl.cell (p:=⟨b,o+i*3+2,none⟩) hbs).trans (hc i hil).2.2;have hx:=HX.out _ (yQ hil);have HS:Hid ((l.take (i+1)).flatMap z7r=(l.take i).flatMap z7r++z7r l[i]):=by
    rw [Hid,yO hil,Yq];simp
   have HLP:Hid (((l.take i).flatMap z7r).length<=11000):=by
    have:=z6D (l:=l.take i) fun x hx=>HX.out x (yY hx)
    rw [yC]at this;have h2:min i l.length<=11:=by omega
    have h3:=YT 1000 h2;rw [Hid];omega
   obtain⟨x,hx0⟩:∃x,l[i]=x:=⟨_,rfl⟩;rw [hx0]at c0 c1 c2 hx HS;clear hx0 hc;obtain⟨k,v,gn⟩:=x;simp only at c0 c1 c2 hx;have HKL:=zz hx;have hsz:=hbl.size;have q5:=(y7 wr.heap.size wr).alloc (y5 _) (.cells #[.string (st k),.string (st v),.bool gn] 96);have q6:=q5.alloc q5.size (.cells #[.string (st k)] 9);have HW6:=zz (RR.out.1.later q6);have B6:=zz ((Blk.new wr 96 #[.string (st k),.string (st v),.bool gn]).alloc (.cells #[.string (st k)] 9));have HSL6:Hid (Sl (fun b=>b≠G/\b<((wr.alloc (.cells #[.string (st k),.string (st v),.bool gn] 96)).alloc (.cells #[.string (st k)] 9)).heap.size) ((wr.alloc (.cells #[.string (st k),.string (st v),.bool gn] 96)).alloc (.cells #[.string (st k)] 9)) 1 (.slice (some ⟨wr.heap.size+1,0,none⟩) 1 1) [k].length (zKR [k])):=Sl.new1 _ _ _ (by simp) ⟨by omega,by simp⟩;have HB6:=zz (hbl.trans (q6.mono hbl.size));have hz6:((wr.alloc (.cells #[.string (st k),.string (st v),.bool gn] 96)).alloc (.cells #[.string (st k)] 9)).heap.size=wr.heap.size+1+1:=by simp
   clear q5 q6 hbl RR hx;go_wp2_with fail
   generalize (wr.alloc (.cells #[.string (st k),.string (st v),.bool gn] 96)).alloc (.cells #[.string (st k)] 9)=W6 at*;refine(z5V G G _ [k] _ _ HW6.out (by omega) (y5 _) (by intro y hy;simp at hy;subst hy;have:=HKL.out.1;omega) (by have:=HLP.out;simp only [y6,y8,yW];omega) HSL6.out).mono ?_;rintro e w7 ⟨rfl,hw7,hg7⟩;simp only [yb,YZ,yf]at hw7;have hz7:=hg7.size;have B7:=zz (B6.out.grown hg7 (by simp;omega));have HB7:=zz (HB6.out.trans (z0T hg7 (by have:=HG.out;omega) HB6.out.size));have x2:w7.cell? ⟨wr.heap.size,2,none⟩=some (.bool gn):=B7.out.cell 2;have HW7:=zz hw7;have hkl:=HKL.out.1;have hlk:=z1j k (by omega);have hvk:(z0C k.length).length<=10:=z09 (by unfold U64;omega);have hlen7:(z0C l.length++(l.take i).flatMap z7r++z0y k).length<=1000000:=by
    have:=HLP.out;simp only [y6];omega
   clear hw7 hg7 HW6 HSL6 B6 HB6 c0 c1 c2;go_wp2_with fail
   refine(zAw G G _ gn w7 HW7.out (by omega) (y5 _) (by omega)).mono ?_;rintro e w8 ⟨rfl,hw8,hg8⟩;have hz8:=hg8.size;have B8:=zz (B7.out.grown hg8 (by simp;omega));have HB8:=zz (HB7.out.trans (z0T hg8 (by have:=HG.out;omega) HB7.out.size));have y1:w8.cell? ⟨wr.heap.size,1,none⟩=some (.string (st v)):=B8.out.cell 1;have y2:w8.cell? ⟨wr.heap.size,2,none⟩=some (.bool gn):=B8.out.cell 2;have HW8:=zz hw8;have hfl:(z3I gn).length=1:=by cases gn<;>rfl
   have hlen8:(z0C l.length++(l.take i).flatMap z7r++z0y k++z3I gn).length<=1000001:=by rw [y6];omega
   clear hw8 hg8 HW7 B7 HB7 x2;cases gn with
   |true=>
    have HE:Hid (z7r ⟨k,v,true⟩=z0y k++z3I true):=by rw [Hid];unfold z7r;simp
    have RF:Hid (Wr w8 G G (z0C l.length++(l.take (i+1)).flatMap z7r)/\Below w.heap.size w w8/\G<w8.heap.size):=by
     refine⟨?_,HB8.out,by omega⟩;rw [HS.out,HE.out];simp only [<-yM];exact HW8.out
    clear HW8 HB8 hlen7 hlen8 HS HE;go_wp2_with fail
    go_roundw
    case rel=>exact⟨i+1,by go_num,by omega,RF⟩
    case measure=>simp [intOf];omega
   |false=>
    have hvl:=HKL.out.2 rfl;have HE:Hid (z7r ⟨k,v,false⟩=z0y k++(z3I false++z0y v)):=by rw [Hid];unfold z7r;simp
    have HSL9:Hid (Sl (fun b=>b≠G/\b<(w8.alloc (.cells #[.string (st v)] 9)).heap.size) (w8.alloc (.cells #[.string (st v)] 9)) 1 (.slice (some ⟨w8.heap.size,0,none⟩) 1 1) [v].length (zKR [v])):=Sl.new1 _ _ _ rfl ⟨by omega,by simp⟩;have HW9:=zz (HW8.out.alloc (.cells #[.string (st v)] 9));have HB9:=zz (HB8.out.alloc HB8.out.size (.cells #[.string (st v)] 9));have hz9:(w8.alloc (.cells #[.string (st v)] 9)).heap.size=w8.heap.size+1:=by simp
    clear HW8 HB8;go_wp2_with fail
    generalize w8.alloc (.cells #[.string (st v)] 9)=W9 at*;refine(z5V G G _ [v] _ _ HW9.out (by omega) (y5 _) (by intro y hy;simp at hy;subst hy;omega) (by simp only [y8,yW];omega) HSL9.out).mono ?_;rintro e wa ⟨rfl,hwa,hga⟩;simp only [yb,YZ,yf]at hwa;have hza:=hga.size;have RF:Hid (Wr wa G G (z0C l.length++(l.take (i+1)).flatMap z7r)/\Below w.heap.size w wa/\G<wa.heap.size):=by
     refine⟨?_,HB9.out.trans (z0T hga (by have:=HG.out;omega) HB9.out.size),by omega⟩;rw [HS.out,HE.out];simp only [<-yM];exact hwa
    clear HW9 HB9 hwa hga hlen7 hlen8 HS HE HSL9;go_wp2_with fail
    go_roundw
    case rel=>exact⟨i+1,by go_num,by omega,RF⟩
    case measure=>simp [intOf];omega
  .obtain rfl:i=l.length:=by omega
   have hw:=RR.out.1;rw [YG]at hw;have HW:Hid (Wr wr G G (z1e l)):=hw;have hlen:(z1e l).length<=1000000:=by
    unfold z1e;rw [y6];have:=HLEN.out;have h3:=YT 1000 hl11;omega
   clear hw RR;go_wp2_with fail
   refine(z4W G G (z1e l) wr HW.out (by omega)).mono ?_;rintro e w5 ⟨A5,k5,c5,rfl,hown5,hbl5⟩;have HB5:=zz (hbl.trans (hbl5.mono hbl.size));have hbs5:=hown5.bs;obtain⟨body,hbody⟩:∃body,z1e l=body:=⟨_,rfl⟩;have HBD:=zz hbody;rw [hbody]at hbs5;clear hbody hlen HW HLEN;clear hown5 hbl5 hbl;go_wp2_with (refine z1H _ rfl (.tmp 44) rfl tB tU tS hbs5 rfl ?_)
   go_wp2_with fail
   go_ret
   exact⟨by rw [HBD.out];rfl,HB5.out⟩
noncomputable def z2y(P:Pgr)(c:Int->List UInt8)(L:List Cel)(l:Wl)(x:List Chg):Pgr×Wl×Nat×Nat:=
 if z3s P x=0 then
  (if(z0P l (z1e x)).2.2=0 then(chgsP c (P.on (z0P l (z1e x)).1.D) L x,(z0P l (z1e x)).1,(z0P l (z1e x)).2.1,0)
  else(P.on (z0P l (z1e x)).1.D,(z0P l (z1e x)).1,0,(z0P l (z1e x)).2.2))
 else(P,l,0,z3s P x)
def zC7(P:Pgr)(c:Int->List UInt8)(l:Wl)(t:List UInt8):Prop:=z5v (z0P l t).1.D P.a P.tb c
structure StoDone(w w':World)(gs g gl:Nat)(Z:Pz)(P':Pgr)(c:Int->List UInt8)(l':Wl)(Z':Pz):Prop where
 s:Sto w' gs g gl Z' P' c l'
 o:Sop gl Z w Z' w'
theorem Kin.putT(P:Pgr)(l:List TStp)(x:Cel):Kin P (putT P l x).1:=by
 unfold Go.Proofs.YthnlcbamjehpdaaGreatDoor.putT
 split
 .exact Kin.refl P
 .split
  .exact Kin.refl P
  .split
   .exact Kin.refl P
   .split
    .exact Kin.refl P
    .exact Kin.up _ _ _ _
theorem Kin.deleteT(P:Pgr)(c:Int->List UInt8)(l:List TStp)(k:List UInt8):Kin P (deleteT P c l k).1:=by
 unfold Go.Proofs.YthnlcbamjehpdaaGreatDoor.deleteT
 split
 .exact Kin.refl P
 .split
  .exact Kin.down _ _ _ _ _
  .exact Kin.refl P
theorem Kin.chgP(P:Pgr)(c:Int->List UInt8)(L:List Cel)(x:Chg):Kin P (chgP P c L x):=by
 unfold Go.Proofs.YthnlcbamjehpdaaGreatDoor.chgP
 split
 .split
  .exact Kin.deleteT _ _ _ _
  .exact Kin.refl P
 .exact Kin.putT _ _ _
theorem chgP_D(P:Pgr)(c:Int->List UInt8)(L:List Cel)(x:Chg):(chgP P c L x).D=P.D:=(Kin.chgP P c L x).D
theorem zEa(c:Int->List UInt8):∀ (l:List Chg) (P:Pgr) (L:List Cel),(chgsP c P L l).D=P.D
 | [],P,L=>rfl
 |x::r,P,L=>by
  rw [chgsP,zEa c r,chgP_D]
theorem Mtp.behind{h h':Zn}{g:Nat}{w w1 w':World}(m:Mtp h g w1 h' w')(hb:Below w.heap.size w w1):Mtp h g w h' w':=
 ⟨m.g,(Turn.of_below hb).trans m.turn fun x hx=> .inl hx,fun x hx=>(m.has x hx).imp id fun h=>yD hb.size h⟩
def VApl(w:World)(gl:Nat)(h:Zn)(r:Wl×Nat×Nat):VP:=fun v wg=>v= .tuple #[.int .u64 (r.2.1:Int),.int .i64 (r.2.2:Int)]/\∃h',Lg wg gl h' r.1/\Mtp h gl w h' wg
theorem VApl.stays{w:World}{gl:Nat}{h:Zn}{r:Wl×Nat×Nat}:Stays (VApl w gl h r):=fun v w1 w2 hb ⟨he,h',hl,hm⟩=>
 ⟨he,h',hl.later hb,hm.g,hm.turn.trans (Turn.of_below hb) fun x hx=> .inl hx,hm.has⟩
theorem zG5{l:List Chg}(h:ChOk l):(z1e l).length<=100000:=by
 have:=z6D h.2;unfold z1e;rw [y6];have h2:=z5p 8 l.length (by have:=h.1;omega);have h3:=h.1;omega
theorem zG2{Q:Prm}(hQ:Q.Ok)(gs g gl:Nat)(Z:Pz)(P:Pgr)(c:Int->List UInt8)(L:List Cel)(l:Wl)(x:List Chg)(w:World)(v0:Value)(hs:Sto w gs g gl Z P c l)(hr:Ch (fun b=>¬Z.has b/\b≠gl) w v0 x)(hx:x.length<=1000000/\∀y∈x,y.k.length<=65536/\y.v.length<=65536)
 (hp:l.D.pend.length<=800000) (hk:z3s P x=0->zC7 P c l (z1e x)/\((z0P l (z1e x)).2.2=0->ChRuns Q c (P.on (z0P l (z1e x)).1.D) L x)) (hdl:∀y∈x,y.gone=true->zD9 Q):
 Calls Tryz.prog 43 #[.pointer (some ⟨gs,0,none⟩),v0] w fun e w'=>e= .returned (.tuple #[.int .u64 ((z2y P c L l x).2.2.1:Int),.int .i64 ((z2y P c L l x).2.2.2:Int)])/\∃Z',StoDone w w' gs g gl Z (z2y P c L l x).1 c (z2y P c L l x).2.1 Z':=by
 have HS:=zz hs;have HR:=zz hr;have HK:=zz hk;obtain⟨A,c0,rfl,hxc,hcm,-,-⟩:=hr.at;obtain⟨R,hR⟩:∃R,z2y P c L l x=R:=⟨_,rfl⟩;have HRR:=zz hR;rw [hR];have hmy:=zI6 gs Z P _ _ x w hs.T.pg hs.blk hr hx.1 hx.2;have HMY:=zz hmy;have HDL:=zz hdl;clear hmy hs hr hk hR hx hdl;go_enter Tryz.func43,Tryz.ntmps43
 go_wp2_with fail
 refine HMY.out.mono ?_;rintro e w1 ⟨rfl,hb1⟩;clear HMY;have HS1:=zz (HS.out.later hb1);have HR1:Hid (Ch (fun b=>(¬Z.has b/\b≠gl)/\b<w1.heap.size) w1 (.slice A x.length c0) x):=by
  have h1:Ch (fun b=>(¬Z.has b/\b≠gl)/\b<w.heap.size) w (.slice A x.length c0) x:=Sl.lt HR.out (by omega);have hsz:=hb1.size;exact(Sl.below h1 hb1 fun b h=>h.2).more fun b h=>⟨h.1,by omega⟩
 have HB1:=zz hb1;clear hb1 HR HS;by_cases hm:z3s P x=0
 .have HK2:=zz (HK.out hm);obtain⟨r,hr0⟩:∃r,z0P l (z1e x)=r:=⟨_,rfl⟩;have HRE:Hid ((if r.2.2=0 then(chgsP c (P.on r.1.D) L x,r.1,r.2.1,0)else(P.on r.1.D,r.1,0,r.2.2))=R):=by
   rw [Hid,<-HRR.out];unfold z2y;rw [yB hm,hr0]
  have hz:((z3s P x:Nat):Int)=0:=by omega
  rw [hz];have HK3:Hid (z5v r.1.D P.a P.tb c/\(r.2.2=0->ChRuns Q c (P.on r.1.D) L x)):=by
   have:=HK2.out;unfold zC7 at this;rw [hr0]at this;exact this
  have HRO:=zz hr0;have HCO:=zz (zFS hm);have HOK:Hid (r.1.Ok):=by rw [<-hr0];exact Wl.Ok.append HS1.out.ok _
  clear hz hr0 hm HK HK2 HRR;go_upto_region 4 with(fail)
  have HSH:Hid (∀wg,Below w1.heap.size w1 wg->Calls Tryz.prog 82 #[.slice A x.length c0] wg fun e w'=>e= .returned (.string (st (z1e x)))/\Below wg.heap.size wg w'):=fun wg hwg=>zI5 _ _ x wg (Sl.below HR1.out hwg fun b h=>h.2) HCO.out
  have HAP:Hid (∀wg,Below w1.heap.size w1 wg->Calls Tryz.prog 81 #[.pointer (some ⟨gl,0,none⟩),.string (st (z1e x))] wg fun e w'=>∃v,e= .returned v/\Turn (fun b=>Z.h.has b∨b=gl) wg w'/\VApl w1 gl Z.h r v w'):=fun wg hwg=>by
   have hsl:=zG5 HCO.out;refine(zAL Z.h l gl (z1e x) wg (HS1.out.lg.later hwg) HS1.out.ok (HS1.out.T.bits.later hwg) (by omega) hp).mono ?_;rintro e w' ⟨rfl,h',hlg,hm⟩;rw [HRO.out]at hlg ⊢;exact⟨_,rfl,hm.turn,rfl,h',hlg,hm.behind hwg⟩
  have HGL:Hid (∃cs,Blk w1 gl 208 cs):=by
   obtain⟨lv,sv,v⟩:=HS1.out.lg;exact⟨_,v.lb⟩
  have HK4:Hid (∀wg,Turn (trE [TrP.of 6 (fun b=>Z.h.has b∨b=gl)]) w1 wg->Blk wg gs 120 #[.pointer (some ⟨g,0,none⟩),.pointer (some ⟨Z.g,0,none⟩),.pointer (some ⟨gl,0,none⟩)]):=fun wg h=>HS1.out.blk.turn h (by
   rintro⟨p,hp,hF⟩;simp only [y9,yH,yp]at hp;subst hp;rcases hF with hF|hF
   .exact Pz.not_kind HS1.out.T.pg (z0I HS1.out.blk) (by decide) (by decide) (by decide) (by decide) (.inr (.inr (.inr (.inr (.inr hF)))))
   .obtain⟨cs,hcs⟩:=HGL.out;exact absurd hF (Blk.ne HS1.out.blk hcs (by decide)))
  clear HGL;refine z1F [TrP.of 6 (fun b=>Z.h.has b∨b=gl)] (by kernel_rfl) (by kernel_rfl) ?_;apply Exists.intro;apply And.intro
  .repeat(first
    |(apply z1L rfl
      intro K hK;go_simp;refine hK _ ?_;clear hK K)
    |(apply z2M rfl (by kernel_rfl)
      .intro wg hwg _;have hb:=HK4.out wg hwg;have s2:wg.cell? ⟨gs,2,none⟩=some (.pointer (some ⟨gl,0,none⟩)):=hb.cell 2;unfold z03;go_simp
       first
        |exact z00 _ _
        |(fail)
      intro K hK;go_simp;refine hK _ ?_;clear hK K))
   apply z4Y (c:= .string (st (z1e x))) rfl (by kernel_rfl)
   .intro wg hwg hf;have hwg2:=z1s (fun p hp=>by simp only [y9,yH,yp]at hp;subst hp;exact .inr (by kernel_rfl)) hwg;unfold z03;go_simp;exact z0Z (HSH.out wg hwg2)
   intro K hK;go_simp;refine hK _ ?_;clear hK K;apply z1Z (V:=VApl w1 gl Z.h r) (TrP.of 6 (fun b=>Z.h.has b∨b=gl));exact rfl
   kernel_rfl
   .intro wg hwg hf;have hwg2:=z1s (fun p hp=>by simp only [y9,yH,yp]at hp;subst hp;exact .inl rfl) hwg;clear hwg hf;unfold steps;go_simp;apply z1V;exact HAP.out wg hwg2
   intro xv hxv K hK;obtain⟨wx,hwx,hbx⟩:=hxv;have hbo:=hbx;obtain⟨rfl,_⟩:=hbo;go_simp;refine hK _ ?_;clear hK K hbx hwx
   repeat(first
    |(apply z1L rfl
      intro K hK;go_simp;refine hK _ ?_;clear hK K)
    |(apply z2M rfl (by kernel_rfl)
      .intro wg hwg _
       skip
       unfold z03;go_simp
       first
        |exact z00 _ _
        |(fail)
      intro K hK;go_simp;refine hK _ ?_;clear hK K))
   refine z39 (fun wf hE hf=> ?_);have g6:=hf 6 _ _ rfl;clear hf hE;obtain⟨_,h',hlg,hm⟩:=g6;have H6:=zz (HS1.out.log hlg hm HOK.out HK3.out.1);have HO6:Hid (Sop gl Z w (Z.on h') wf):=(Sop.below HB1.out).trans (Sop.mtp hm);have HC6:Hid (Ch (fun b=>¬ (Z.on h').has b) wf (.slice A x.length c0) x):=by
    have h1:Ch (fun b=>(¬Z.has b/\b≠gl)/\b<w1.heap.size) wf (.slice A x.length c0) x:=Sl.keep HR1.out fun b o hb=>yR (hm.turn.block b hb.2 (by
     rintro(e|e)
     .exact hb.1.1 (.inr (.inr (.inr (.inr (.inr e)))))
     .exact hb.1.2 e))
    exact Sl.more h1 fun b hb e=>by
     rcases(Sop.mtp hm).has b e with h2|h2
     .exact hb.1.1 h2
     .omega
   have HKR:=zz HK3.out.2;have HRE2:=HRE;clear hlg hm HS1 HR1 HB1 HK3 HK4 HAP HSH HRE HRO;by_cases hz:r.2.2=0
   .have hz1:((r.2.2:Nat):Int)=0:=by omega
    have HRE:Hid ((chgsP c (P.on r.1.D) L x,r.1,r.2.1,0)=R):=by
     rw [Hid,<-HRE2.out,yB hz]
    have HKK:=zz (HKR.out hz);rw [hz1];clear hz hz1 HRE2 HKR;go_wp2_with fail
    refine(zK6 hQ gs g (Z.on h') (P.on r.1.D) c L x wf _ H6.out.T H6.out.blk HC6.out HKK.out (by have:=HCO.out.1;omega) HDL.out).mono ?_;rintro e w8 ⟨rfl,hd8⟩;have H8:=zz (H6.out.tree hd8 (zEa _ _ _ _));have HO8:Hid (Sop gl Z w (Z.on h') w8):=HO6.out.trans (Sop.ptp hd8.2);clear hd8 H6 HO6 HC6 HKK;go_wp2_with fail
    go_ret2
    rw [<-HRE.out];exact⟨rfl,_,H8.out,HO8.out⟩
   .have hz1:(((r.2.2:Nat):Int) != 0)=true:=by simp;omega
    have HRE:Hid ((P.on r.1.D,r.1,0,r.2.2)=R):=by
     rw [Hid,<-HRE2.out,yA hz]
    clear hz HRE2 HKR HC6;go_wp2_with fail
    go_ret2
    rw [<-HRE.out];exact⟨rfl,_,H6.out,HO6.out⟩
  .apply And.intro
   .repeat(first
     |exact trivial
     |(refine⟨z5y _ _,?_⟩)
     |(refine⟨z7C VApl.stays (fun p hp hn hw=>by simp only [y9,yH,yp]at hp;subst hp;exact absurd rfl hn),?_⟩)
     )
   .rfl
 .have HRE:Hid ((P,l,0,z3s P x)=R):=by
   rw [Hid,<-HRR.out];unfold z2y;rw [yA hm]
  obtain⟨m,hm0⟩:∃m,z3s P x=m:=⟨_,rfl⟩;rw [hm0]at hm HRE ⊢;have hz:((m:Int) != 0)=true:=by simp;omega
  clear HRR HK hm0;go_wp2_with fail
  go_ret2
  rw [<-HRE.out];exact⟨rfl,Z,HS1.out,Sop.below HB1.out⟩
theorem Pg.stpO{Z:Pz}{w w':World}{P:Pgr}{h':Zn}{D':Dsk}(p:Pg w Z P)(k:Dk w' h' D')(m:Stp Z.h w h' w'):Pg w' (Z.on h') (P.on D'):=by
 have hs:SameK [some 246,some 199,some 5] w w':=m.same p.dk (by decide) (by decide) (by decide);have hk:∀b,b<w.heap.size->¬Z.h.has b->w'.heap[b]? =w.heap[b]? :=fun b hb hn=>m.turn.block b hb hn
 have hn:∀b,b<w.heap.size->¬Z.h.has b->¬h'.has b:=fun b hb hn e=>(m.has b e).elim hn fun h=>by omega
 have hb:=p.blk.sameK hs (by decide);have hm:=p.mt.blk.sameK hs (by decide);exact⟨k,⟨by show Blk w' Z.gm _ #[.pointer (some ⟨h'.g,0,none⟩),_,_,_];rw [m.g];exact hm⟩,by show Blk w' Z.g _ #[.pointer (some ⟨h'.g,0,none⟩),_,_,_,_,_,_,_];rw [m.g];exact hb,
  p.tb.at (hk _ p.tb.lt p.m1),p.wr.at (hk _ p.wr.lt p.m2) (hs.less (by decide)),p.gn.at (hk _ p.gn.lt p.m3),p.n1,p.n2,p.n3,hn _ p.tb.lt p.m1,hn _ p.wr.lt p.m2,hn _ p.gn.lt p.m3⟩
theorem Tg.stpO{Z:Pz}{w w':World}{P:Pgr}{c:Int->List UInt8}{g:Nat}{h':Zn}{D':Dsk}(t:Tg w g Z P c)(k:Dk w' h' D')(m:Stp Z.h w h' w')(hok:D'.Ok)(hst:z5v D' P.a P.tb c):Tg w' g (Z.on h') (P.on D') c:=by
 have hs:SameK [some 202] w w':=m.same t.pg.dk (by decide) (by decide) (by decide);have hz:¬Z.h.has 0:=fun h=>t.z0 (.inr (.inr (.inr (.inr (.inr h)))))
 refine⟨t.pg.stpO k m,t.blk.sameK hs (by decide),⟨hok,hst,t.pr.wlen,t.pr.a0,t.pr.a1⟩,fun i hi=> ?_,?_⟩
 .have hb:=m.turn.block 0 t.bits.pos hz;rw [<-t.bits i hi];unfold World.cell?;rw [hb]
 .have hp:=t.bits.pos;rintro(e|e|e|e|e|e)
  .exact t.z0 (.inl e)
  .exact t.z0 (.inr (.inl e))
  .exact t.z0 (.inr (.inr (.inl e)))
  .exact t.z0 (.inr (.inr (.inr (.inl e))))
  .exact t.z0 (.inr (.inr (.inr (.inr (.inl e)))))
  .rcases m.has 0 e with h|h
   .exact hz h
   .omega
end
section
open Go
theorem zHH(L:List Cel)(x:Chg):(z8v L x).length<=L.length+(if x.gone then 0 else 1):=by
 obtain⟨k,v,gn⟩:=x;unfold z8v;cases gn with
 |true=>
  simp only [YN]
  split
  .have:=z94 L k;omega
  .omega
 |false=>
  have:=z3h L (k,v);simp only [yu,yv];omega
theorem zDt(x:Chg)(r:List Chg):z2A (x::r)=(if x.gone then 0 else 1)+z2A r:=by
 obtain⟨k,v,gn⟩:=x;cases gn
 .simp [z2A];omega
 .simp [z2A]
end
section
open Go Go.RowKit
end
section
open Go
end
section
open Go Go.RowKit
end
end Go.Proofs.YthnlcbamjehpdaaGreatDoor
