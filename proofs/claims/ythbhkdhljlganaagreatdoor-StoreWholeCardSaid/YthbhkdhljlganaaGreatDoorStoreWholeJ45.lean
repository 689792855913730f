/- Part 45. -/
import Derived.Test.YthbhkdhljlganaaGreatDoorStoreWholeJ44
namespace Go.Proofs.YthbhkdhljlganaaGreatDoor
set_option linter.unusedVariables false
set_option maxHeartbeats 16000000
set_option maxRecDepth 100000
section
open Go Go.RowKit
theorem zCa{l:List Chg}(h:(z4c l).length≤11):z1L (z4c l)≤6:=by
 by_cases h11:11<l.length
 ·unfold z4c at h;rw [zAC h11 _ (by omega)]at h;omega
 ·have:=zAa h11 (min l.length 70);unfold z1L z4c;omega
theorem zGC{P:Pgr}{y:List Chg}(h:z3W P y=0):zGQ y∧y.length≤11∧(∀x∈y,x.k.length≤240∧chN x≤480):=⟨zAZ h,(z2p h).1,(z2p h).2.1⟩
theorem zCv{P:Pgr}{y:List Chg}(h:z3W P y=0):∀x∈y,x.gone=false→x.k.length≤240∧x.k.length+x.v.length≤480:=fun x hx hg=>by
 have:=(z2p h).2.1 x hx;unfold chN at this;rw [hg]at this;simpa using this
theorem zIL(l:List Chg):(z4c l).length≤1000000∧∀z∈z4c l,z.k.length≤65536∧z.v.length≤65536:=by
 refine⟨?_,fun z hz=> ?_⟩
 ·have:=z9N l (min l.length 70);unfold z4c;omega
 ·have:=zAi l _ z hz;omega
theorem zBf(A:Option Addr)(k c:Nat)(w:World):Sem.run Tryz.prog (Instr.field 58 (Value.agg #[.int .i64 0,.slice A k c,.slice none 0 0]) 1) w=Result.ok (.slice A k c) w:=by
 kernel_rfl
theorem law_StoreWhole(v0:Value)(l:List Chg)(v1:Value)(more:List Chg)(v2:Value)(left:List (Int×Int))(w:World)(hb:BitsOk w)(h0:Ch (fun b=>b<w.heap.size) w v0 l)(h1:Ch (fun b=>b<w.heap.size) w v1 more)(h2:(∀y∈left,InI y.1∧InI y.2)∧Sv (fun b=>b<w.heap.size) w v2 left):
 Calls Tryz.prog 4 #[v0,v1,v2] w fun e w'=>e= .returned (.bool true)∧Below w.heap.size w w':=by
 obtain⟨c,-⟩:∃c:Int→List UInt8,True:=⟨fun _=> [],trivial⟩;have HB:=zz hb;have hpos:=hb.pos;obtain⟨A0,c0,rfl,-⟩:=h0.at;obtain⟨A1,c1,rfl,-⟩:=h1.at;obtain⟨A2,c2,rfl,-⟩:=h2.2.at;have H0:=zz h0;have H1:=zz h1;have H2:=zz h2;clear hb h0 h1 h2;go_enter Tryz.func4,Tryz.ntmps4
 go_wp2_with fail
 refine(z7p c w HB.out).mono ?_;rintro e w1 ⟨pd,gs,g,gl,Z,P,lg,rfl,hx,hsy,hlv⟩;have HX1:=zz hx;have HSY:=zz hsy;have hzl:∀b,Z.has b→b<w1.heap.size:=fun b h=>hx.s.T.pg.lt h
 have hgl:gl<w1.heap.size:=by obtain⟨lv,sv,v⟩:=hx.s.lg;exact v.lb.lt
 have HZL:Hid ((∀b,Z.has b→b<w1.heap.size)∧gl<w1.heap.size):=⟨hzl,hgl⟩;clear hx hsy hlv hzl hgl;go_wp2_with fail
 refine(zAq _ _ l w1 (H0.out.later HX1.out.below)).mono ?_;rintro e w2 ⟨A3,c3,rfl,hw2,hb2⟩;have HW2:=zz hw2;have HB2:=zz hb2;clear hw2 hb2;have hfl:∀ (A:Option Addr) (k c:Nat) (w:World),Sem.run Tryz.prog (Instr.field 58 (Value.agg #[.int .i64 0,.slice A k c,.slice none 0 0]) 1) w=Result.ok (.slice A k c) w:=zBf;go_wp2_with fail
 refine(zAq _ _ more w2 (H1.out.later (HX1.out.below.trans (HB2.out.mono HX1.out.below.size)))).mono ?_;rintro e w3 ⟨A4,c4,rfl,hw3,hb3⟩;have hs2:=HB2.out.size;have hs3:=hb3.size;have HX3:Hid (Sx Q15 w w3 gs g gl pd Z P c lg [] []):=(HX1.out.later HB2.out).later hb3;have HCA:Hid (Ch (fun b=>(¬Z.has b∧b≠gl)∧b<w3.heap.size) w3 (.slice A3 (z4c l).length c3) (z4c l)):=by
  have h:=Sl.below (Sl.of_own (size:=3) (by omega) HW2.out) hb3 fun b h=>h.2
  exact Sl.more h fun b hb=>⟨⟨fun e=>by have:=HZL.out.1 b e;omega,fun e=>by have:=HZL.out.2;omega⟩,by omega⟩
 have HCB:Hid (Ch (fun b=>(¬Z.has b∧b≠gl)∧b<w3.heap.size) w3 (.slice A4 (z4c more).length c4) (z4c more)):=by
  have h:=Sl.of_own (size:=3) (by omega) hw3;exact Sl.more h fun b hb=>⟨⟨fun e=>by have:=HZL.out.1 b e;omega,fun e=>by have:=HZL.out.2;omega⟩,by omega⟩
 clear hw3 hb3 HW2 HB2 HX1 HZL;have HSA:=zz (zIL l);have HSB:=zz (zIL more);have HPA:Hid ((z4c l).length≤11→z1L (z4c l)≤6):=zCa;have HPB:Hid ((z4c more).length≤11→z1L (z4c more)≤6):=zCa;generalize z4c l=ya at*;generalize z4c more=yb at*;go_wp2_with fail
 refine(z71 w3 (HB.out.later HX3.out.below)).mono ?_;rintro e w4 ⟨rfl,hb4⟩;have HX4:=zz (HX3.out.later hb4);have HCA4:Hid (Ch (fun b=>(¬Z.has b∧b≠gl)∧b<w4.heap.size) w4 (.slice A3 ya.length c3) ya):=HCA.out.sop (Sop.below hb4);have HCB4:Hid (Ch (fun b=>(¬Z.has b∧b≠gl)∧b<w4.heap.size) w4 (.slice A4 yb.length c4) yb):=HCB.out.sop (Sop.below hb4);clear hb4 HX3 HCA HCB;by_cases h60:60<left.length
 ·go_wp2_with fail
  refine(z71 w4 (HB.out.later HX4.out.below)).mono ?_;rintro e w5 ⟨rfl,hb5⟩;have HQ:=zz (HX4.out.later hb5).below;clear hb5;go_wp2_with fail
  go_ret
  exact⟨rfl,HQ.out⟩
 ·have h60':decide ((60:Int)<(left.length:Int))=false:=decide_eq_false (by omega);go_wp2_with fail
  refine(z6R HX4.out _ ya (Sl.more HCA4.out fun b h=>h.1) HSA.out (fun hm=>by have:=HPA.out (z2p hm).1;simp;omega) (by simp) rfl).mono ?_;rintro e w5 (⟨E,hE,_,rfl,⟨Z5,hx5,ho5⟩,_⟩|⟨hm5,_,rfl,Z5,P5,hx5,ho5,_,hsy5,_⟩)
  ·have HX5:=zz hx5;have hne:((E:Int) != 0)=true:=by rw [bne_iff_ne];omega
   clear hx5 ho5 HCA4 HCB4 HX4;go_upto_region 7 with(fail)
   have hbx:=HX5.out.s.blk;have b0:w5.cell? ⟨gs,0,none⟩=some (.pointer (some ⟨g,0,none⟩)):=hbx.cell 0;have k2:Hid (∀wg,Below w5.heap.size w5 wg→Calls Tryz.prog 22 #[.pointer (some ⟨gs,0,none⟩)] wg fun e w'=>e= .returned (.int .u64 ((0:Nat):Int))∧Below wg.heap.size wg w'):=fun wg hwg=>z7E (HX5.out.later hwg) rfl
   have k3:Hid (∀wg,Below w5.heap.size w5 wg→Calls Tryz.prog 16 #[.pointer (some ⟨g,0,none⟩),.agg (rgC [] [] true false (-1))] wg fun e w'=>∃v,e= .returned v∧Below wg.heap.size wg w'∧z6n [] v w'):=fun wg hwg=>
    (z9n z62 (HX5.out.later hwg) rfl).mono fun e w' ⟨A,c',he,ho,hb'⟩=>⟨_,he,hb',A,c',rfl,ho.cs.lt⟩
   clear hbx;refine z1H [] (by kernel_rfl) (by kernel_rfl) ?_;apply Exists.intro;apply And.intro
   ·repeat(first
     |(apply z1D rfl
       intro K hK;go_simp;refine hK _ ?_;clear hK K)
     |(apply z1t rfl (by kernel_rfl)
       ·intro wg hwg _;replace hwg:=z17 hwg;have b0:=cell_later hwg b0;unfold z06;go_simp
        first
         |exact z00 _ _
         |(apply z0x;go_at_call 22;exact k2.out wg hwg)
         |(apply z0x;go_at_call 23;exact z78 wg)
       intro K hK;go_simp;refine hK _ ?_;clear hK K))
    apply z9s (V:=z6n []) rfl (by kernel_rfl)
    ·intro wg hwg hf;unfold z06;go_simp;refine⟨Below.refl _ _,?_⟩;go_at_call 16
     exact k3.out wg (z17 hwg)
    intro xv hxv K hK;obtain⟨wx,hwx,hbx⟩:=hxv;have hbo:=hbx;obtain⟨A5,c5,rfl,hc5⟩:=hbo;go_simp;refine hK _ ?_;clear hK K hbx hwx
    repeat(first
     |(apply z1D rfl
       intro K hK;go_simp;refine hK _ ?_;clear hK K)
     |(apply z1t rfl (by kernel_rfl)
       ·intro wg hwg _
        skip
        unfold z06;go_simp
        first
         |exact z00 _ _
         |(fail)
       intro K hK;go_simp;refine hK _ ?_;clear hK K))
    refine z32 (fun wf hwf hf=> ?_);have HQ:=zz (HX5.out.below.trans ((z17 hwf).mono HX5.out.below.size));clear hwf hf hc5;go_wp2_with fail
    go_ret
    exact⟨rfl,HQ.out⟩
   ·apply And.intro
    ·repeat(first
      |exact trivial
      |(refine⟨z61 _ _,?_⟩)
      |(refine⟨z9B (Stays.vcels _) (fun p hp hn hw=>by cases hp),?_⟩)
      )
    ·rfl
  ·have HX5:=zz hx5;have HCB5:Hid (Ch (fun b=>(¬Z5.has b∧b≠gl)∧b<w5.heap.size) w5 (.slice A4 yb.length c4) yb):=HCB4.out.sop ho5;have HCA5:Hid (Ch (fun b=>(¬Z5.has b∧b≠gl)∧b<w5.heap.size) w5 (.slice A3 ya.length c3) ya):=HCA4.out.sop ho5;have HYA:=zz (zGC hm5);have HMA:=zz (zCv hm5);have HNA:Hid (z1L ya≤6):=HPA.out (z2p hm5).1;obtain⟨l5,hl5⟩:∃l5,(z0F lg (z0V ya)).1=l5:=⟨_,rfl⟩;rw [hl5]at hx5 hsy5 HX5;clear hx5 ho5 HCA4 HCB4 HX4 hl5 hsy5 hm5 HSA HPA HSY;go_wp2_with fail
   refine(zG0 HX5.out rfl).mono ?_;rintro e w6 ⟨rfl,Z6,hx6,ho6⟩;have HX6:=zz hx6;have HCB6:Hid (Ch (fun b=>(¬Z6.has b∧b≠gl)∧b<w6.heap.size) w6 (.slice A4 yb.length c4) yb):=HCB5.out.sop ho6;have HCA6:Hid (Ch (fun b=>(¬Z6.has b∧b≠gl)∧b<w6.heap.size) w6 (.slice A3 ya.length c3) ya):=HCA5.out.sop ho6;clear hx6 ho6 HCA5 HCB5 HX5;go_wp2_with fail
   have hla:=z2S ya [];refine(z6R HX6.out _ yb (Sl.more HCB6.out fun b h=>h.1) HSB.out (fun hm=>by have:=HPB.out (z2p hm).1;have:=HNA.out;simp at hla;omega) (by simp) rfl).mono ?_;rintro e w7 (⟨E,hE,_,rfl,⟨Z7,hx7,ho7⟩,_⟩|⟨hm7,_,rfl,Z7,P7,hx7,ho7,_,hsy7,_⟩)
   ·have HX7:=zz hx7;have hne:((E:Int) != 0)=true:=by rw [bne_iff_ne];omega
    clear hx7 ho7 HCA6 HCB6 HX6 hla;go_wp2_with fail
    refine(z7E HX7.out rfl).mono ?_;rintro e w8 ⟨rfl,hb8⟩;have HQ:=zz (HX7.out.later hb8).below;clear hb8;go_wp2_with fail
    go_ret
    exact⟨by simp,HQ.out⟩
   ·have HX7:=zz hx7;have HCB7:Hid (Ch (fun b=>(¬Z7.has b∧b≠gl)∧b<w7.heap.size) w7 (.slice A4 yb.length c4) yb):=HCB6.out.sop ho7;have HCA7:Hid (Ch (fun b=>(¬Z7.has b∧b≠gl)∧b<w7.heap.size) w7 (.slice A3 ya.length c3) ya):=HCA6.out.sop ho7;have HYB:=zz (zGC hm7);have HMB:=zz (zCv hm7);have HNB:Hid (z1L yb≤6):=HPB.out (z2p hm7).1;have hsy:(z0F l5.sync (z0V yb)).1.synced=1:=by
     rw [hsy7];obtain⟨SB,hl⟩:=HX6.out.lgr;exact hl.last
    have hR7:([]++ [z0V ya]++ [z0V yb]:List (List UInt8))= [ya,yb].map z0V:=rfl;rw [hR7]at HX7;obtain⟨l7,hl7⟩:∃l7,(z0F l5.sync (z0V yb)).1=l7:=⟨_,rfl⟩;rw [hl7]at HX7 hsy;have hcr:Segs (z3G (l7.D.crash left).view 802 16 8) 8 1 ([ya,yb].map z0V)∧∃K,1≤K∧Upto (z3G (l7.D.crash left).view 802 16 8) 1 ([ya,yb].map z0V) 0 K:=by
     obtain⟨SB,hl⟩:=HX7.out.lgr;have:=hl.crashed HX7.out.s.ok (Nat.zero_le _) left;rw [HX7.out.only.a,HX7.out.only.n,HX7.out.only.size,hsy]at this;exact this
    have HCR:=zz hcr;have HBR:=zz (zEL HX7.out left);have HSV:Hid (Sv (fun b=>b<w.heap.size) w7 (.slice A2 left.length c2) left):=Sl.below H2.out.2 HX7.out.below fun b h=>h
    have hlf:left.length≤1000000:=by omega
    clear hx7 ho7 HCA6 HCB6 HX6 hla hm7 hsy7 hl7 hsy hcr hR7 HPB HSB;go_wp2_with fail
    refine(zD2 HX7.out _ _ left HSV.out H2.out.1 hlf (by simp) rfl).mono ?_;rintro e w8 ⟨rfl,h8,hdp,hg8,hs8⟩;have HDP:=zz hdp;have HB8:=zz (HB.out.later hdp.below);have hnz:∀b,¬Z7.has b→¬Z7.h.has b:=fun b h e=>h (.inr (.inr (.inr (.inr (.inr e)))))
    have hsz8:=hs8.turn.size;have hk8:∀ (v:Value) (y:List Chg),Ch (fun b=>(¬Z7.has b∧b≠gl)∧b<w7.heap.size) w7 v y→Ch (fun b=>¬h8.has b∧b<w8.heap.size) w8 v y:=fun v y h=>by
     have h1:Ch (fun b=>(¬Z7.has b∧b≠gl)∧b<w7.heap.size) w8 v y:=Sl.keep h fun b i hb=>World.cell?_of_block (hs8.turn.block b hb.2 (hnz b hb.1.1))
     exact Sl.more h1 fun b hb=>⟨fun e=>(hs8.has b e).elim (hnz b hb.1.1) fun e=>by omega,by omega⟩
    have HCA8:=zz (hk8 _ _ HCA7.out);have HCB8:=zz (hk8 _ _ HCB7.out);clear hdp hs8 hnz hsz8 hk8 HCA7 HCB7 HSV HX7;go_wp2_with fail
    obtain⟨K,hK1,hU⟩:=HCR.out.2;have hK2:K≤2:=by
     have:=hU.KR;simp at this;omega
    have HU:=zz hU;have HS:=zz HCR.out.1;clear hU HCR;refine(z5Y HDP.out HBR.out c HB8.out hpos (ys:= [ya,yb]) (K:=K) (fun y hy=>by simp only [List.mem_cons,List.not_mem_nil,or_false]at hy;rcases hy with rfl|rfl;exact HYA.out;exact HYB.out) (by have:=HNA.out;have:=HNB.out;simp;omega) (by simp) HS.out HU.out hg8).mono ?_;rintro e w9 ⟨gs9,g9,gl9,Z9,P9,l9,rfl,hx9,-,-,htu9⟩;have HX9:=zz hx9;have hsz9:=htu9.size;have hk9:∀ (v:Value) (y:List Chg),Ch (fun b=>¬h8.has b∧b<w8.heap.size) w8 v y→Ch (fun b=>b<w9.heap.size) w9 v y:=fun v y h=>by
     have h1:Ch (fun b=>¬h8.has b∧b<w8.heap.size) w9 v y:=Sl.keep h fun b i hb=>World.cell?_of_block (htu9.block b hb.2 hb.1)
     exact Sl.more h1 fun b hb=>by omega
    have HCA9:=zz (hk9 _ _ HCA8.out);have HCB9:=zz (hk9 _ _ HCB8.out);clear hx9 htu9 hk9 HCA8 HCB8 HBR HDP HU HS hsz9 HB8;go_wp2_with fail
    refine(zAz (fun _=>True) _ (.slice none 0 0) _ [] ya w9 Sl.nil HCA9.out (by unfold Asc;exact List.Pairwise.nil) HMA.out (by simp) (by have:=HYA.out.2.1;omega)).mono ?_;rintro e w10 ⟨u1,rfl,hc10,hb10⟩;have HU1:=zz hc10;have HX10:=zz (HX9.out.later hb10);have HCB10:=zz (HCB9.out.up hb10);clear hc10 hb10 HX9 HCB9 HCA9;go_wp2_with fail
    refine(zAz _ _ u1 _ (chgsC [] ya) yb w10 HU1.out HCB10.out (Asc.chgsC (by unfold Asc;exact List.Pairwise.nil) ya) HMB.out (by have h1:=z2S ya [];have h2:=HNA.out;simp at h1;omega) (by have:=HYB.out.2.1;omega)).mono ?_;rintro e w11 ⟨u2,rfl,hc11,hb11⟩;have HU2:=zz hc11;have HU11:=zz (HU1.out.up hb11);have HX11:=zz (HX10.out.later hb11);clear hc11 hb11 HX10 HCB10 HU1;go_upto_region 18 with(fail)
    have hbx:=HX11.out.s.blk;have b0:w11.cell? ⟨gs9,0,none⟩=some (.pointer (some ⟨g9,0,none⟩)):=hbx.cell 0;obtain⟨LL,hLL⟩:∃LL,([ya,yb].take K).foldl chgsC []=LL:=⟨_,rfl⟩;rw [hLL]at HX11;have k3:Hid (∀wg,Below w11.heap.size w11 wg→Calls Tryz.prog 16 #[.pointer (some ⟨g9,0,none⟩),.agg (rgC [] [] true false (-1))] wg fun e w'=>∃v,e= .returned v∧Below wg.heap.size wg w'∧z6n LL v w'):=fun wg hwg=>
     (z9n z62 (HX11.out.later hwg) rfl).mono fun e w' ⟨A,c',he,ho,hb'⟩=>⟨_,he,hb',A,c',rfl,ho.cs.lt⟩
    have HLL:=zz hLL;clear hbx hLL;refine z1H [] (by kernel_rfl) (by kernel_rfl) ?_;apply Exists.intro;apply And.intro
    ·repeat(first
      |(apply z1D rfl
        intro K hK;go_simp;refine hK _ ?_;clear hK K)
      |(apply z1t rfl (by kernel_rfl)
        ·intro wg hwg _;replace hwg:=z17 hwg;have b0:=cell_later hwg b0;unfold z06;go_simp
         first
          |exact z00 _ _
          |(apply z0x;go_at_call 23;exact z78 wg)
        intro K hK;go_simp;refine hK _ ?_;clear hK K))
     apply z9s (V:=z6n LL) rfl (by kernel_rfl)
     ·intro wg hwg hf;unfold z06;go_simp;refine⟨Below.refl _ _,?_⟩;go_at_call 16
      exact k3.out wg (z17 hwg)
     intro xv hxv K hK;obtain⟨wx,hwx,hbx⟩:=hxv;have hbo:=hbx;obtain⟨A5,c5,rfl,hc5⟩:=hbo;go_simp;refine hK _ ?_;clear hK K hbx hwx;apply z7S (fun f=>f 5) (c:= .slice A5 LL.length c5) (by kernel_rfl) rfl (by kernel_rfl)
     ·intro wg hwg hf;unfold z06;go_simp;exact z00 _ _
     intro K hK;go_simp;refine hK _ ?_;clear hK K;refine z32 (fun wf hwf hf=> ?_);have HX12:=zz (HX11.out.later (z17 hwf));have HU12:=zz (HU11.out.up (z17 hwf));have HV12:=zz (HU2.out.up (z17 hwf));have hcc:Cs (fun b=>b<wf.heap.size) wf (.slice A5 LL.length c5) LL:=by
      obtain⟨A6,c6,he,h6⟩:=hf 5 (.slice A5 LL.length c5) (z6n LL) (by kernel_rfl);injection he with e1 e2 e3
      subst e1 e3;exact h6
     have HCC:=zz hcc;clear hwf hf hc5 hcc k3 b0 HX11 HU11 HU2;obtain rfl|rfl:K=1∨K=2:=by omega
     ·have hL:LL=chgsC [] ya:=by rw [←HLL.out];rfl
      rw [hL]at HCC;have HLA:Hid (∀W,Below wf.heap.size wf W→Calls Tryz.prog 22 #[.pointer (some ⟨gs9,0,none⟩)] W fun e W'=>e= .returned (.int .u64 ((1:Nat):Int))∧Below W.heap.size W W'):=fun W hW=>z7E (HX12.out.later hW) rfl
      have HQ0:=zz HX12.out.below;rw [hL];clear hL HX12 HLL;go_wp2_with fail
      refine(HLA.out wf (Below.refl _ _)).mono ?_;rintro e w13 ⟨rfl,hb13⟩;go_wp2_with fail
      refine(z5i _ _ _ _ _ _ w13 (HCC.out.up hb13) (HU12.out.up hb13)).mono ?_;rintro e w14 ⟨he,hb14⟩;rw [decide_eq_true rfl]at he;subst he;have HQ:=zz (HQ0.out.trans ((hb13.trans (hb14.mono hb13.size)).mono HQ0.out.size));clear hb13 hb14;go_wp2_with fail
      go_ret
      exact⟨rfl,HQ.out⟩
     ·have hL:LL=chgsC (chgsC [] ya) yb:=by rw [←HLL.out];rfl
      rw [hL]at HCC;have HLA:Hid (∀W,Below wf.heap.size wf W→Calls Tryz.prog 22 #[.pointer (some ⟨gs9,0,none⟩)] W fun e W'=>e= .returned (.int .u64 ((2:Nat):Int))∧Below W.heap.size W W'):=fun W hW=>z7E (HX12.out.later hW) rfl
      have HQ0:=zz HX12.out.below;rw [hL];clear hL HX12 HLL;go_wp2_with fail
      refine(HLA.out wf (Below.refl _ _)).mono ?_;rintro e w13 ⟨rfl,hb13⟩;go_wp2_with fail
      refine(HLA.out w13 hb13).mono ?_;rintro e w14 ⟨rfl,hb14⟩;have hq14:=hb13.trans (hb14.mono hb13.size);go_wp2_with fail
      refine(z5i _ _ _ _ _ _ w14 (HCC.out.up hq14) (HV12.out.up hq14)).mono ?_;rintro e w15 ⟨he,hb15⟩;rw [decide_eq_true rfl]at he;subst he;have HQ:=zz (HQ0.out.trans ((hq14.trans (hb15.mono hq14.size)).mono HQ0.out.size));clear hb13 hb14 hq14 hb15;go_wp2_with fail
      go_ret
      exact⟨rfl,HQ.out⟩
    ·apply And.intro
     ·repeat(first
       |exact trivial
       |(refine⟨z61 _ _,?_⟩)
       |(refine⟨z9B (Stays.vcels _) (fun p hp hn hw=>by cases hp),?_⟩)
       |(refine⟨zAM _ 6 (fun y y' h=>by simp only [h 5 (by kernel_rfl)]),?_⟩)
       )
     ·rfl
end
end Go.Proofs.YthbhkdhljlganaaGreatDoor
