/- Part 19. -/
import Derived.Test.YthnlcbamjehpdaaGreatDoorViewCollectsJ18
namespace Go.Proofs.YthnlcbamjehpdaaGreatDoor
set_option linter.unusedVariables false
set_option maxHeartbeats 16000000
set_option maxRecDepth 100000
section
open Go Go.RowKit Tryz
def ApPost(gl:Nat)(h:Zn)(l:Wl)(t:List UInt8)(w:World)(e:Ending)(w':World):Prop:=
 e= .returned (.tuple #[.int .u64 ((z0P l t).2.1:Int),.int .i64 ((z0P l t).2.2:Int)])/\∃h',Lg w' gl h' (z0P l t).1/\Mtp h gl w h' w'
theorem z36{l:Wl}{t head b:List UInt8}{q:Nat}(hq:q=(l.last+1)%U64)(hh:head=z7Q q titleB)(hb:b=z7Q q t)(h:32768<t.length∨512*l.size<head.length+b.length):z0P l t=(l,0,81):=by
 subst hq hh hb;unfold z0P;rw [yB h]
theorem z35{l:Wl}{t head b:List UInt8}{q:Nat}(hq:q=(l.last+1)%U64)(hh:head=z7Q q titleB)(hb:b=z7Q q t)(ht:¬ (32768<t.length∨512*l.size<head.length+b.length))(h1:l.stream= []∨512*l.size<l.stream.length+b.length)(h2:z37 l.live l.n=none):z0P l t=(l,0,82):=by
 subst hq hh hb;unfold z0P;rw [yA ht,yB h1,h2]
def FrC(l:Wl)(b:List UInt8)(fr:Bool):Prop:=fr=true↔(l.stream= []∨512*l.size<l.stream.length+b.length)
theorem FrC.yes{l:Wl}{b:List UInt8}(h:l.stream= []∨512*l.size<l.stream.length+b.length):FrC l b true:=⟨fun _=>h,fun _=>rfl⟩
theorem FrC.no{l:Wl}{b:List UInt8}(h:¬ (l.stream= []∨512*l.size<l.stream.length+b.length)):FrC l b false:=⟨fun e=>(by cases e),fun e=>(h e).elim⟩
theorem zAL(h:Zn)(l:Wl)(gl:Nat)(t:List UInt8)(w:World)(hg:Lg w gl h l)(ok:l.Ok)(hb:BitsOk w)(ht:t.length<=1099511627776)(hp:l.D.pend.length<=800000):
 Calls prog 81 #[.pointer (some ⟨gl,0,none⟩),.string (st t)] w (ApPost gl h l t w):=by
 obtain⟨lv,sv,hg⟩:=hg;obtain⟨As,cs,rfl,hs1,hs2,-,-⟩:=hg.str.bs.at;obtain⟨Al,cl,rfl,hl1,hl2,-⟩:=Rg3.at hg.live;have HG:=zz hg;have HBI:=zz hb;have OK:=zz ok;have hsz:l.size<=64:=ok.s64;have hsl:=ok.slen;have hln:=zz ok.len;have HP:=zz hp;have l6:w.cell? ⟨gl,6,none⟩=some (.int .u64 (l.last:Int)):=hg.lb.cell 6;obtain⟨q,hq⟩:∃q,q=(l.last+1)%U64:=⟨_,rfl⟩;have hwr:IntKind.u64.wrap ((l.last:Int)+1)=(q:Int):=by have:=zGT l.last 1;rw [hq];simpa using this
 have hqU:q<U64:=by rw [hq];exact Nat.mod_lt _ (by unfold U64;omega)
 have HQ:=zz hq;have HQU:=zz hqU;obtain⟨head,hhd⟩:∃head,head=z7Q q titleB:=⟨_,rfl⟩;obtain⟨b,hbb⟩:∃b,b=z7Q q t:=⟨_,rfl⟩;have HHD:=zz hhd;have HBB:=zz hbb;have htit:Hid (st titleB=⟨#[115,101,103,109,101,110,116]⟩):=rfl;have hqz:∀ (w1:World),Hid (Below w.heap.size w w1->∀e w',zC8 q titleB w1 e w'->∃A k c,e= .returned (.tuple #[.slice A k c,.int .i64 0])/\Ob 5 w' w1.heap.size (.slice A k c) head/\Below w1.heap.size w1 w'):=fun w1 _ e w' hr=>by
  obtain⟨A,k,c,he,ho⟩:=hr.1 (by decide);rw [hhd];exact⟨A,k,c,he,ho,hr.2.2⟩
 clear hg hb ok hp hq hqU hhd hbb;by_cases hlong:32768<t.length
 .go_enter func81,ntmps81
  go_wp2_with fail
  refine(z6O q t w HQU.out HBI.out ht).mono ?_;rintro e w1 ⟨-,h2,q1⟩;obtain rfl:=h2 hlong;have Q1:=zz q1;clear h2 q1;go_wp2_with fail
  rw [<-htit.out];refine(z6O q titleB w1 HQU.out (HBI.out.later Q1.out) (by decide)).mono ?_;intro e w2 hr2;obtain⟨A2,k2,c2,rfl,ho2,q2⟩:=(hqz w1).out Q1.out _ _ hr2;have Q2:=zz (Q1.out.trans (q2.mono Q1.out.size));have E:=zz (z36 HQ.out HHD.out HBB.out (.inl hlong));clear q2 ho2 hr2 hlong;go_wp2_with fail
  go_ret2
  refine⟨by rw [E.out];rfl,h,?_,Mtp.of_stp (Stp.below Q2.out)⟩;rw [E.out];exact⟨_,_,HG.out.later Q2.out⟩
 .go_enter func81,ntmps81
  go_wp2_with fail
  refine(z6O q t w HQU.out HBI.out ht).mono ?_;rintro e w1 ⟨h1,-,q1⟩;obtain⟨A1,k1,c1,rfl,ho1⟩:=h1 (by omega);rw [<-HBB.out]at ho1;have Q1:=zz q1;have O1:=zz ho1;obtain rfl:=ho1.len;clear h1 q1 ho1;go_wp2_with fail
  rw [<-htit.out];refine(z6O q titleB w1 HQU.out (HBI.out.later Q1.out) (by decide)).mono ?_;intro e w2 hr2;obtain⟨A2,k2,c2,rfl,ho2,q2⟩:=(hqz w1).out Q1.out _ _ hr2;obtain rfl:=ho2.len;have Q2:=zz (Q1.out.trans (q2.mono Q1.out.size));have OB:=zz (Ub.of_own (O1.out.later q2));have OH:=zz (Ub.of_own ho2);have G2:=zz (HG.out.later Q2.out);clear q2 ho2 hr2 hqz;have hbm:b.length<=100000:=by
   rw [HBB.out,z9P,zAz];have h1:=z09 HQU.out;have h2:=z09 (x:=t.length) (by unfold U64;omega);simp only [y6];omega
  have hhm:head.length<=100000:=by
   rw [HHD.out,z9P,zAz];have h1:=z09 HQU.out;have h2:=z09 (x:=titleB.length) (by decide);have h3:titleB.length=7:=rfl;simp only [y6];omega
  by_cases hfit:512*l.size<head.length+b.length
  .have E:=zz (z36 HQ.out HHD.out HBB.out (.inr hfit));go_wp2_with (go_at_call 121;refine(z4N gl h.g l.a l.n l.size _ _ l.last l.synced w2 G2.out.lb hsz).mono ?_;rintro e w3 ⟨rfl,rfl⟩)
   go_ret2
   refine⟨by rw [E.out];rfl,h,?_,Mtp.of_stp (Stp.below Q2.out)⟩;rw [E.out];exact⟨_,_,G2.out⟩
  .go_wp2_with (go_at_call 121;refine(z4N gl h.g l.a l.n l.size _ _ l.last l.synced w2 G2.out.lb hsz).mono ?_;rintro e w3 ⟨rfl,rfl⟩)
   have HFIT:Hid (¬ (32768<t.length∨512*l.size<head.length+b.length)):=fun h9=>h9.elim hlong hfit
   have m5:w2.cell? ⟨gl,5,none⟩=some (.slice As l.stream.length cs):=G2.out.lb.cell 5;have m4:w2.cell? ⟨gl,4,none⟩=some (.slice Al l.live.length cl):=G2.out.lb.cell 4;clear hfit hlong HBI hwr l6;refine z06 (by kernel_rfl) (by kernel_rfl) ?_;apply Exists.intro;apply And.intro
   .repeat(first
     |(apply z0J rfl
       intro K hK;go_simp;refine hK _ ?_;clear hK K)
     |(apply z0D rfl
       .intro wg hwg _;have c1:=yN hwg m4;have c2:=yN hwg m5;unfold z03;go_simp
        first
         |exact z00 _ _
       intro K hK;go_simp;refine hK _ ?_;clear hK K))
    refine z0f (fun wg hwg _=> ?_);have G3:=zz (G2.out.later hwg);have Q3:=zz (Q2.out.trans (hwg.mono Q2.out.size));have OB3:=zz (OB.out.later hwg);have OH3:=zz (OH.out.later hwg);clear m4 m5 G2 Q2 OB OH;go_upto_region 7 with(fail)
    generalize hBw:wg.heap.size=Bw at*;go_cut [72] (fun v wx=>∃fr:Bool,v= .bool fr/\wx=wg/\Hid (FrC l b fr))
    case first=>
     by_cases h0:l.stream.length=0
     .have h1:((l.stream.length:Int)==0)=true:=by rw [h0];rfl
      have HX:Hid (FrC l b true):=FrC.yes (.inl (yX h0));clear h0;go_wp2_with fail
      go_meet
      exact⟨true,rfl,rfl,HX⟩
     .have h1:((l.stream.length:Int)==0)=false:=by rw [yV];omega
      have h3:Hid (¬l.stream= []):=fun e=>h0 (by rw [e];rfl)
      by_cases h2:512*l.size<l.stream.length+b.length
      .have h4:512*(l.size:Int)<(l.stream.length:Int)+(b.length:Int):=by omega
       have HX:Hid (FrC l b true):=FrC.yes (.inr h2);clear h0 h2;go_wp2_with (go_at_call 121;refine(z4N gl h.g l.a l.n l.size _ _ l.last l.synced wg G3.out.lb hsz).mono ?_;rintro e w3 ⟨rfl,rfl⟩)
       go_meet
       exact⟨true,by first|rfl|(simp;omega),rfl,HX⟩
      .have h4:¬512*(l.size:Int)<(l.stream.length:Int)+(b.length:Int):=by omega
       have HX:Hid (FrC l b false):=FrC.no (fun h9=>h9.elim h3.out h2);clear h0 h2;go_wp2_with (go_at_call 121;refine(z4N gl h.g l.a l.n l.size _ _ l.last l.synced wg G3.out.lb hsz).mono ?_;rintro e w3 ⟨rfl,rfl⟩)
       go_meet
       exact⟨false,by first|rfl|(simp;omega),rfl,HX⟩
    obtain⟨fr,rfl,rfl,FR⟩:=hcut;obtain⟨wd,hwd⟩:∃wd,wd=wc:=⟨_,rfl⟩;subst hwd;go_upto_if 72 with(fail)
    go_cut [11,12,13,14] (fun av fv lv nv wx=>∃ (L:List Sg) (s:List UInt8) (i:Nat) (A7:Option Addr) (c7:Nat) (A8:Option Addr) (c8:Nat),av= .slice A7 s.length c7/\fv= .int .i64 (z1l l fr:Int)/\lv= .slice A8 L.length c8/\Hid (Ub wx 0 (.slice A7 s.length c7) s)/\Hid (wx.ownsRow Bw 212 3 (.slice A8 L.length c8) L.length (z4y L))/\Hid (ApC l q head b L s i fr)/\Hid (Below wd.heap.size wd wx))
    case first=>
     cases fr with
     |true=>
      have FR1:=zz (FR.out.1 rfl);have m2:wd.cell? ⟨gl,2,none⟩=some (.int .i64 (l.n:Int)):=G3.out.lb.cell 2;have OKn:Hid (l.n<=64):=OK.out.n64;clear FR;go_wp2_with fail
      clear m2;go_loopw [14] (fun nv wr=>∃k:Nat,nv= .int .i64 (k:Int)/\k<=l.n/\Hid (∀j,j<k->z2p l.live j=true)/\Hid (Below wd.heap.size wd wr)) (fun nv _=>l.n-(intOf nv).toNat)
      case atStart=>exact⟨0,rfl,yU _,fun j hj=>by omega,y7 _ _⟩
      case round=>
       obtain⟨k,rfl,hk,HU,BL⟩:=hrel;have GR:=zz (G3.out.later BL.out);have m2:wr.cell? ⟨gl,2,none⟩=some (.int .i64 (l.n:Int)):=GR.out.lb.cell 2;have hk64:k<=64:=yD hk OKn.out;by_cases hlt:k<l.n
       .have h4:(k:Int)<(l.n:Int):=by omega
        cases hu:z2p l.live k with
        |true=>
         have HU2:Hid (∀j,j<k+1->z2p l.live j=true):=fun j hj=>by
          rcases Y5 j k with h9|h9
          .exact HU.out j h9
          .obtain rfl:j=k:=by omega
           exact hu
         clear HU;go_wp2_with (go_at_call 111;refine(z3M gl h.g l.a l.n l.size k _ _ l.last l.synced l.live wr GR.out.lb GR.out.live).mono ?_;rintro e w3 ⟨rfl,hb3⟩;rw [hu])
         have B3:=zz (BL.out.trans (hb3.mono BL.out.size));clear hb3;go_roundw
         case rel=>exact⟨k+1,by go_num,by omega,HU2,B3⟩
         case measure=>simp [intOf];omega
        |false=>
         have HFS:=zz (zGk hlt HU.out hu);clear HU;go_wp2_with (go_at_call 111;refine(z3M gl h.g l.a l.n l.size k _ _ l.last l.synced l.live wr GR.out.lb GR.out.live).mono ?_;rintro e w3 ⟨rfl,hb3⟩;rw [hu];have B3:=zz (BL.out.trans (hb3.mono BL.out.size));have m3:=yN hb3 m2)
         have HSG:Hid (sgC ⟨k,q,0⟩= [.int .i64 (k:Int),.int .u64 (q:Int),.int .u64 0]):=rfl;have G3':=zz (G3.out.later B3.out);refine(z7a _ l.live w3 (by have:=hln.out;have:=OK.out.n64;omega) G3'.out.live).mono ?_;rintro e w4 ⟨A8,c8,rfl,ho8,hb8⟩;have B4:=zz (B3.out.trans (hb8.mono B3.out.size));have O4:Hid (w4.ownsRow Bw 212 3 (.slice A8 l.live.length c8) l.live.length (z4y l.live)):=z7D ho8 (by rw [<-hBw];exact B3.out.size);have hs1:=Sl.newsg w4 ⟨k,q,0⟩ rfl;rw [HSG.out]at hs1;have HS1:=zz hs1;have hone:=zz (by have:=zG3 ⟨k,q,0⟩;rw [HSG.out]at this;exact this);have hbz:Hid (Bw<=w4.heap.size):=by rw [Hid,<-hBw];exact B4.out.size
         have hlm:=zz (yD hln.out OKn.out);have hM1:Hid (l.live.length+1<=maxLen):=by have:=hlm.out;simp only [Hid,maxLen];omega
         have hM2:Hid ((l.live.length+1)*24<=140737488355328):=by have:=hlm.out;rw [Hid];omega
         have hM3:Hid (∀o:Obj,Bw<=(w4.alloc o).heap.size):=fun o=>by have:=hbz.out;simp;omega
         clear hs1 ho8 hb8 m2 m3;go_wp2_with (at_builtin;refine z0A _ rfl (.tmp 94) (.tmp 98) zIk rfl (YC O4.out _) HS1.out rfl rfl hone.out hM1.out hM2.out (hM3.out _) ?_;intro A5 k5 c5 w5 hown5 hg5 hat5)
         obtain rfl:=z0h hown5;have B5:=zz (z01 (B4.out.alloc B4.out.size _) (YC (z7D O4.out (Nat.le_of_eq hBw)) _) hg5 (by have:=B4.out.size;simp;omega));have O5:Hid (w5.ownsRow Bw 212 3 (.slice A5 (l.live++ [(⟨k,q,0⟩:Sg)]).length c5) (l.live++ [(⟨k,q,0⟩:Sg)]).length (z4y (l.live++ [(⟨k,q,0⟩:Sg)]))):=by rw [Hid,zG4,HSG.out,y6,Y7];exact hown5
         have AC:Hid (ApC l q head b (l.live++ [(⟨k,q,0⟩:Sg)]) head k true):=⟨fun _=>⟨FR1.out,HFS.out,rfl,rfl⟩,fun e=>(by cases e)⟩;clear hown5 hg5 hat5;go_meet
         exact⟨l.live++ [⟨k,q,0⟩],head,k,A2,c2,A5,c5,rfl,rfl,by rw [y6,Y7],(OH3.out.later B5.out).lower (yU _),O5,AC,B5⟩
       .obtain rfl:k=l.n:=by omega
        have E:=zz (z35 HQ.out HHD.out HBB.out HFIT.out FR1.out (zBw HU.out));go_wp2_with fail
        go_ret2
        refine⟨by rw [E.out];rfl,h,?_,Mtp.of_stp (Stp.below (Q3.out.trans (BL.out.mono Q3.out.size)))⟩;rw [E.out];exact⟨_,_,GR.out⟩
     |false=>
      have FR0:Hid (¬ (l.stream= []∨512*l.size<l.stream.length+b.length)):=fun h9=>by have:=FR.out.2 h9;cases this
      clear FR;go_wp2_with fail
      refine(z7a _ l.live wd (by have:=hln.out;have:=OK.out.n64;omega) G3.out.live).mono ?_;rintro e w3 ⟨A8,c8,rfl,ho8,hb8⟩;have O8:=zz ho8;have B8:=zz hb8;have AC:Hid (ApC l q head b l.live l.stream (((l.live.getLast?).map (·.at')).getD 0) false):=⟨fun e=>(by cases e),fun _=>⟨FR0.out,rfl,rfl,rfl⟩⟩;clear ho8 hb8;go_wp2_with fail
      go_meet
      exact⟨l.live,l.stream,_,As,cs,A8,c8,rfl,rfl,rfl,G3.out.str.later B8.out,by rw [<-hBw];exact O8.out,AC,B8⟩
    obtain⟨L,s,i,A7,c7,A8,c8,rfl,rfl,rfl,US,OL,AC,BW⟩:=hcut;have HLE:=zz (AC.out.lens OK.out HFIT.out);obtain⟨L0,s0,hL,hs0⟩:=AC.out.ne OK.out;subst hL;have HS0:=zz hs0;clear hs0;obtain⟨gL,rfl,hgL,FZ,CEl⟩:=z9c OL.out;have hm64:=AC.out.last OK.out HFIT.out;have BC:=zz (BW.out);go_wp2_with fail
    refine(zB7 _ _ s wc (by have:=HLE.out.1;rw [y6]at this;omega) US.out.bs).mono ?_;rintro e w5 ⟨A9,c9,rfl,ho9,hb9⟩;have B5:=zz (BC.out.trans (hb9.mono BC.out.size));have OB5:=zz ((OB3.out.later B5.out).bs);have O9:=zz ho9;have OL5:=zz (zFa OL.out hb9);have hM1:Hid (s.length+b.length<=140737488355328):=by have:=HLE.out.1;rw [y6]at this;rw [Hid];omega
    have HB9:=zz hb9.size;clear ho9 hb9 CEl;go_wp2_with (at_builtin;refine z02 _ rfl (.tmp 103) (.tmp 104) z0p rfl O9.out OB5.out rfl rfl hM1.out HB9.out ?_;intro A5 k5 c5 w6 hown6 hg6 hat6;obtain⟨OL6,x0⟩:=zK2 OL5.out O9.out hg6 HS0.out)
    obtain rfl:=hown6.len;have B6:=zz (z01 B5.out (z7D O9.out BC.out.size) hg6 B5.out.size);have US6:=zz ((Ub.of_own hown6).lower (yU _));have G6:=zz (G3.out.later B6.out);have Q6:=zz (Q3.out.trans (B6.out.mono Q3.out.size));clear hown6 hg6 hat6 x0;refine(zFP h l.D gl l.a l.n l.size i (z1l l fr) _ _ l.last l.synced _ (s++b) w6 G6.out.dk OK.out.dok G6.out.lb OK.out.s64 (by have:=HLE.out.2.1;have:=OK.out.n64;omega) OK.out.a0 OK.out.am (by have:=HP.out;omega) US6.out (by have:=HLE.out.1;have:=OK.out.s64;omega) HLE.out.2.2.1).mono ?_;rintro e w7 ⟨rfl,h7,hd7,hs7⟩;have HPEN:Hid ((z3t l.D (l.a+(i:Int)*l.size) (s++b) (s++b).length (z1l l fr / 512)).1.pend.length<=900000):=by
     have h1:=zAu (l.a+(i:Int)*l.size) (s++b) (s++b).length (z1l l fr / 512) l.D;have h2:=HLE.out.1;have h3:=HP.out;have h4:=OK.out.s64;rw [Hid];omega
    have HOK7:Hid ((z3t l.D (l.a+(i:Int)*l.size) (s++b) (s++b).length (z1l l fr / 512)).1.Ok):=zBy _ _ _ _ OK.out.dok;obtain⟨r,hr⟩:∃r,z3t l.D (l.a+(i:Int)*l.size) (s++b) (s++b).length (z1l l fr / 512)=r:=⟨_,rfl⟩;rw [hr]at hd7 HPEN HOK7 ⊢;have HR:=zz hr;have G7:=zz (G6.out.stp hd7 hs7);have OL7:=zz (z5J OL6.out (hs7.same (ks:= [some 212]) G6.out.dk (by decide) (by decide) (by decide)) (by decide));have US7:=zz (hs7.ub G6.out.dk US6.out);have S7:=zz ((Stp.below Q6.out).trans hs7);obtain⟨_,he7,_,FZ7,CE7⟩:=z9c OL7.out;cases he7
    have x0:=CE7.out.1;rw [HS0.out]at x0;clear hr hd7 hs7 US6 OL6 G6 FZ OL5 OB5 O9 B5 HB9 hM1;have USX:Hid (Ub w7 0 (.slice A5 (s.length+b.length) c5) (s++b)):=by have h9:=US7.out;rw [y6]at h9;exact h9
    have OLX:Hid (w7.ownsRow Bw 212 3 (.slice (some ⟨gL,0,none⟩) (L0.length+1) c8) (L0++ [s0]).length (z4y (L0++ [s0]))):=by have h9:=OL7.out;simp only [Hid,y6,Y7]at h9 ⊢;exact h9
    by_cases hr0:r.2=0
    .have E:=zz (z4U HQ.out HHD.out HBB.out HFIT.out AC.out HR.out hr0);rw [hr0];have x2:=CE7.out.2;have f2:=FZ7.out (L0.length*3+2);have hwc:IntKind.u64.wrap ((s0.count:Int)+1)=(((s0.count+1)%U64:Nat):Int):=by have:=zGT s0.count 1;simpa using this
     go_upto_region 26 with(fail)
     generalize hW8:w7.setCell _ _=W8 at*;have DN:=zz (zJd (q:=q) G7.out OLX.out (by have:=Q3.out.size;omega) USX.out S7.out hW8);have g4:W8.cell? ⟨gl,4,none⟩=some (.slice Al l.live.length cl):=DN.out.1.cell 4;have g5:W8.cell? ⟨gl,5,none⟩=some (.slice As l.stream.length cs):=DN.out.1.cell 5;have g6:W8.cell? ⟨gl,6,none⟩=some (.int .u64 (l.last:Int)):=DN.out.1.cell 6;have f4:=DN.out.1.free 4;have f5:=DN.out.1.free 5;have f6:=DN.out.1.free 6;clear x0 x2 f2 hwc hW8;go_wp2_with fail
     go_ret2
     refine⟨by rw [E.out];rfl,h7,?_,DN.out.2.2⟩;rw [E.out];exact⟨_,_,DN.out.2.1⟩
    .have E:=zz (z5r HQ.out HHD.out HBB.out HFIT.out AC.out HR.out hr0);have hy1:¬ ((r.2:Int)=0):=by omega
     have hy2:((r.2:Int)==0)=false:=by rw [yV];omega
     have g5:w7.cell? ⟨gl,5,none⟩=some (.slice As l.stream.length cs):=G7.out.lb.cell 5;have f5:=G7.out.lb.free 5;have HR0:=zz hr0;clear hr0;go_upto_region 21 with(fail)
     generalize hW8:w7.setCell _ _=W8 at*;have FA:=zz (zJe G7.out OLX.out S7.out hW8);have x8:W8.cell? ⟨gL,L0.length*3,none⟩=some (.int .i64 (i:Int)):=by rw [<-HS0.out];exact FA.out.2.2
     clear x0 g5 f5 hW8;have HU:=zz HLE.out.2.2.2.1;cases fr with
     |false=>
      go_wp2_with (go_at_call 111;refine(z3M gl h7.g l.a l.n l.size i _ _ l.last l.synced l.live W8 FA.out.1.lb FA.out.1.live).mono ?_;rintro e w9 ⟨rfl,hb9⟩;rw [HU.out])
      go_ret2
      refine⟨by rw [E.out];rfl,h7,?_,FA.out.2.1.stp (Stp.below hb9)⟩;rw [E.out];exact⟨_,_,FA.out.1.later hb9⟩
     |true=>
      go_wp2_with (go_at_call 111;refine(z3M gl h7.g l.a l.n l.size i _ _ l.last l.synced l.live W8 FA.out.1.lb FA.out.1.live).mono ?_;rintro e w9 ⟨rfl,hb9⟩;rw [HU.out];have x9:=yN hb9 x8)
      have G9:=zz (FA.out.1.later hb9);have M9:=zz (FA.out.2.1.stp (Stp.below hb9));clear hb9 x8;refine(z8P h7 r.1 gl l.a l.n l.size i _ _ l.last l.synced w9 G9.out.dk HOK7.out G9.out.lb OK.out.s64 (by have:=HLE.out.2.1;have:=OK.out.n64;omega) OK.out.a0 OK.out.am HPEN.out).mono ?_;rintro e w10 ⟨rfl,h10,hd10,hs10⟩;have G10:=zz (G9.out.stp hd10 hs10);have M10:=zz (M9.out.stp hs10);clear hd10 hs10 G9 M9 x9;go_wp2_with fail
      refine(z8Q h10 _ gl l.a l.n l.size _ _ l.last l.synced w10 G10.out.dk (z6U HOK7.out _ _) G10.out.lb).mono ?_;rintro e w11 ⟨rfl,h11,hd11,hl11,hm11⟩;have G11:=zz (G10.out.sync hd11 hl11 hm11);have M11:=zz (M10.out.mtp hm11);clear hd11 hl11 hm11 G10 M10;go_wp2_with fail
      go_ret2
      refine⟨by rw [E.out];rfl,h11,?_,M11.out⟩;rw [E.out];exact⟨_,_,G11.out⟩
   .apply And.intro
    .repeat(first|exact trivial|(refine⟨Stays.is _,?_⟩)|(refine⟨Stays.bs _,?_⟩)|(refine⟨Stays.pg _ _ _,?_⟩))
    .rfl
end
end Go.Proofs.YthnlcbamjehpdaaGreatDoor
