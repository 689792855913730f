/- Part 44. -/
import Derived.Test.YthbhkdhljlganaaGreatDoorStoreWholeJ42
import Derived.Test.YthbhkdhljlganaaGreatDoorStoreWholeJ43
namespace Go.Proofs.YthbhkdhljlganaaGreatDoor
set_option linter.unusedVariables false
set_option maxHeartbeats 16000000
set_option maxRecDepth 100000
section
open Go Go.RowKit
theorem Sl.newn{S:Nat→Prop}(w:World)(e:TypeId)(cs:List Value){n size g:Nat}(hg:g=w.heap.size)(hS:S g)(hl:cs.length=n*size)(hn:n≤maxLen):Sl S (w.alloc (.cells cs.toArray e)) size (.slice (some ⟨g,0,none⟩) n n) n cs:=by
 subst hg;refine⟨hl,_,n,rfl,Nat.le_refl _,hn,(fun h=>by cases h),fun _=>⟨_,0,rfl,hS,fun j u hu=> ?_⟩⟩;rw [Nat.zero_add];have:=(Blk.new w e cs.toArray).cell j;rw [this,List.getElem?_toArray];exact hu
theorem Ch.newn{S:Nat→Prop}(w:World)(l:List Chg){g:Nat}(hg:g=w.heap.size)(hS:S g)(hn:l.length≤100):Ch S (w.alloc (.cells (chs l).toArray 116)) (.slice (some ⟨g,0,none⟩) l.length l.length) l:=
 Sl.newn w _ _ hg hS (zBd l) (by unfold maxLen;omega)
section
variable {w W:World} {gs g gl pd:Nat} {Z:Pz} {P:Pgr} {c:Int→List UInt8} {l:Wl} {R:List (List UInt8)} {L:List Cel}
theorem zHi(x:Sx Q15 w W gs g gl pd Z P c l R L)(h:L.length≤12):P.pages.length≤11:=by
 obtain⟨D,t,hT,rfl⟩:=x.tree;rw [hT.rep.len];have:=z7M hT h;unfold z9q;rw [List.length_cons];omega
theorem zI2(x:Sx Q15 w W gs g gl pd Z P c l R L)(h:L.length≤12){y:List Chg}(h1:y.length≤11)(h2:∀z∈y,z.k.length≤240∧chN z≤480)(h3:z1L y≤6):z3W P y=0:=by
 have:=zHi x h;unfold z3W;rw [if_neg (by omega),if_neg ?_,if_neg (by omega)];intro hb;obtain⟨z,hz,hb⟩:=List.any_eq_true.1 hb;have:=h2 z hz;unfold z2w at hb;rw [Bool.or_eq_true,decide_eq_true_eq,decide_eq_true_eq]at hb;omega
theorem zB2{live:List Sg}(h:live.length≤1):z2k live 8≠none:=by
 intro hn;unfold z2k at hn;rw [List.find?_eq_none]at hn;have h0:=hn 0 (by simp);have h1:=hn 1 (by simp)
 match live,h with
 | [],_=>simp [z0v]at h0
 | [s],_=>
   simp [z0v]at h0 h1;omega
theorem zFD{q:Nat}(hq:q<1000000){t:List UInt8}(ht:t.length≤6000):¬ (32768<t.length∨512*16<(z1N q titleB).length+(z1N q t).length):=by
 rw [z3r,z3r];have h1:=z2j 8 q (by omega);have h2:=z2j 8 t.length (by omega);have h3:=z2j 8 titleB.length (by decide);have h4:titleB.length=7:=rfl;simp only [z8A,List.length_append];omega
end
theorem z78(w:World):Calls Tryz.prog 23 #[] w (fun e w'=>e= .returned (.agg (rgC [] [] true false (-1)))∧Below w.heap.size w w'):=by
 go_enter Tryz.func23,Tryz.ntmps23
 go_wp2_with fail
 refine bodyPost_ret (z0W rfl _ _ w.heap.size rfl (Blk.new w 49 (rgC [] [] true false (-1))) zJG) rfl ⟨rfl,(Below.refl _ _).alloc (Nat.le_refl _) _⟩
def aw1:List Chg:= [⟨[97],[49],false⟩,⟨[98],[50],false⟩]
def aw2:List Chg:= [⟨[97],[],true⟩]
theorem zCe:chgsC [] aw1= [([97],[49]),([98],[50])]:=by decide
theorem z4d:zGQ aw1∧aw1.length≤11∧(∀x∈aw1,x.k.length≤240∧chN x≤480)∧z1L aw1=2:=by
 refine⟨⟨by decide,?_⟩,by decide,?_,by decide⟩
 ·intro x hx;simp only [aw1,List.mem_cons,List.not_mem_nil,or_false]at hx;rcases hx with rfl|rfl<;>exact⟨by decide,fun _=>by decide⟩
 ·intro x hx;simp only [aw1,List.mem_cons,List.not_mem_nil,or_false]at hx;rcases hx with rfl|rfl<;>exact⟨by decide,by decide⟩
theorem zAB:zGQ aw2∧aw2.length≤11∧(∀x∈aw2,x.k.length≤240∧chN x≤480)∧z1L aw2=0:=by
 refine⟨⟨by decide,?_⟩,by decide,?_,by decide⟩
 ·intro x hx;simp only [aw2,List.mem_cons,List.not_mem_nil,or_false]at hx;rcases hx with rfl<;>exact⟨by decide,fun _=>by decide⟩
 ·intro x hx;simp only [aw2,List.mem_cons,List.not_mem_nil,or_false]at hx;rcases hx with rfl<;>exact⟨by decide,by decide⟩
theorem z8d{y:List Chg}(h:zGQ y)(h2:y.length≤4):(z0V y).length≤6000:=by
 have h1:=z4Z h.2;unfold z0V;rw [List.length_append];have h3:=z2j 8 y.length (by omega);omega
def z6n(cs:List Cel):VP:=fun v w=>∃A c,v= .slice A cs.length c∧Cs (fun b=>b<w.heap.size) w (.slice A cs.length c) cs
theorem Stays.vcels(cs:List Cel):Stays (z6n cs):=fun _ _ _ hb ⟨A,c,he,h⟩=>⟨A,c,he,h.up hb⟩
theorem z71(w:World)(hb:BitsOk w):Calls Tryz.prog 20 #[] w (fun e w'=>e= .returned (.bool true)∧Below w.heap.size w w'):=by
 obtain⟨c,-⟩:∃c:Int→List UInt8,True:=⟨fun _=> [],trivial⟩;have HB:=zz hb;have hpos:=hb.pos;clear hb;go_enter Tryz.func20,Tryz.ntmps20
 go_wp2_with fail
 refine(z7p c w HB.out).mono ?_;rintro e w1 ⟨pd,gs,g,gl,Z,P,l,rfl,hx,hsy,hlv⟩;have HX:=zz hx;have HSY:=zz hsy;have HLV:=zz hlv;have HM:Hid (z3W P aw1=0):=zI2 hx (by simp) z4d.2.1 z4d.2.2.1 (by rw [z4d.2.2.2];omega);have q1:=(Below.refl w1.heap.size w1).alloc (Nat.le_refl _) (.cells (chs aw1).toArray 116);have HX1:=zz (hx.later q1);have HC1:Hid (Ch (fun b=>¬Z.has b∧b≠gl) (w1.alloc (.cells (chs aw1).toArray 116)) (.slice (some ⟨w1.heap.size,0,none⟩) aw1.length aw1.length) aw1):=Ch.newn _ _ rfl ⟨fun h=>by have:=hx.s.T.pg.lt h;omega,fun e=>by obtain⟨lv,sv,v⟩:=hx.s.lg;have:=v.lb.lt;omega⟩ (by decide);clear hx hsy hlv q1 HX;go_wp2_with fail
 refine(z6R HX1.out _ aw1 HC1.out ⟨by decide,fun z hz=>by have:=z4d.2.2.1 z hz;have h2:=(z4d.1.2 z hz).2;exact⟨by omega,by simp only [aw1,List.mem_cons,List.not_mem_nil,or_false]at hz;rcases hz with rfl|rfl<;>decide⟩⟩ (fun _=>by rw [z4d.2.2.2];simp) (by simp) rfl).mono ?_;rintro e w2 (⟨E,_,_,_,_,hno⟩|⟨_,_,rfl,Z2,P2,hx2,hz2,hlv2,hsy2,hgr2⟩)
 ·exfalso;rcases hno HM.out with h|h
  ·rw [HLV.out,HX1.out.only.n]at h;exact zB2 (by simp) h
  ·rw [HX1.out.only.size]at h;refine zFD ?_ (z8d z4d.1 (by decide)) h;obtain⟨SB,hl⟩:=HX1.out.lgr;rw [hl.last];simp
 ·rw [HLV.out]at hlv2;obtain⟨l2,hl2⟩:∃l2,(z0F l (z0V aw1)).1=l2:=⟨_,rfl⟩;rw [hl2]at hx2 hlv2 hsy2 hgr2;have HX2:=zz hx2;have HLV2:=zz hlv2;clear hx2 hlv2 hsy2 hgr2 hl2 HX1 HC1 HM HSY HLV;go_wp2_with fail
  refine(zG0 HX2.out rfl).mono ?_;rintro e w3 ⟨rfl,Z3,hx3,hz3⟩;have HX3:=zz hx3;have HM3:Hid (z3W (P2.on l2.sync.D) aw2=0):=zI2 hx3 (by rw [zCe];decide) zAB.2.1 zAB.2.2.1 (by rw [zAB.2.2.2];omega);have q3:=(Below.refl w3.heap.size w3).alloc (Nat.le_refl _) (.cells (chs aw2).toArray 116);have HX4:=zz (hx3.later q3);have HC4:Hid (Ch (fun b=>¬Z3.has b∧b≠gl) (w3.alloc (.cells (chs aw2).toArray 116)) (.slice (some ⟨w3.heap.size,0,none⟩) aw2.length aw2.length) aw2):=Ch.newn _ _ rfl ⟨fun h=>by have:=hx3.s.T.pg.lt h;omega,fun e=>by obtain⟨lv,sv,v⟩:=hx3.s.lg;have:=v.lb.lt;omega⟩ (by decide);clear hx3 hz3 q3 HX2 HX3;go_wp2_with fail
  refine(z6R HX4.out _ aw2 HC4.out ⟨by decide,fun z hz=>by simp only [aw2,List.mem_cons,List.not_mem_nil,or_false]at hz;rcases hz with rfl<;>decide⟩ (fun _=>by rw [zAB.2.2.2,zCe];decide) (by simp) rfl).mono ?_;rintro e w5 (⟨E,_,_,_,_,hno⟩|⟨_,_,rfl,Z5,P5,hx5,hz5,hlv5,hsy5,hgr5⟩)
  ·exfalso;rcases hno HM3.out with h|h
   ·rw [HX4.out.only.n]at h;exact zB2 (show l2.live.length≤1 by have:=HLV2.out;simpa using this) h
   ·rw [HX4.out.only.size]at h;refine zFD ?_ (z8d zAB.1 (by decide)) h;obtain⟨SB,hl⟩:=HX4.out.lgr;rw [hl.last];simp
  ·have HFO:Hid (Segs (z3G l2.sync.D.view 802 16 8) 8 1 [z0V aw1]∧Upto (z3G l2.sync.D.view 802 16 8) 1 [z0V aw1] 0 1):=by
    obtain⟨SB,hl⟩:=HX4.out.lgr;have:=hl.found HX4.out.s.ok (Nat.zero_le _);rw [HX4.out.only.a,HX4.out.only.n,HX4.out.only.size]at this;exact this
   obtain⟨l5,hl5⟩:∃l5,(z0F l2.sync (z0V aw2)).1=l5:=⟨_,rfl⟩;rw [hl5]at hx5 hlv5 hsy5 hgr5;have HX5:=zz hx5;have hsy5':l5.synced=1:=by
    rw [hsy5];show l2.last=1;obtain⟨SB,hl⟩:=HX4.out.lgr;exact hl.last
   have HSY5:=zz hsy5';have hcr:(l5.D.crash []).view=l2.sync.D.view:=by
    show(z0h [] 0 l5.D.pend (l5.D.ground,l5.D.ng)).1=_;rw [z8n,hgr5];rfl
   have HCR:=zz hcr;have HBR:=zz (zEL hx5 []);clear hx5 hz5 hlv5 hsy5 hgr5 hl5 hsy5' hcr HX4 HC4 HM3 HLV2;go_wp2_with fail
   refine(zD2 HX5.out (fun _=>True) _ [] (Sl.nil) (fun x h=>(by cases h)) (by simp) (by simp) rfl).mono ?_;rintro e w6 ⟨rfl,h6,hdp,hg6,hs6⟩;have HDP:=zz hdp;have HB6:=zz (HB.out.later hdp.below);have hdk5:Dk w5 Z5.h l5.D:=by rw [HX5.out.s.D];exact HX5.out.s.T.pg.dk
   obtain⟨lv5,sv5,lg5⟩:=HX5.out.s.lg;have hsk6:SameK [some 66,some 180] w5 w6:=hs6.same hdk5 (by decide) (by decide) (by decide);have hlb6:=lg5.lb.sameK hsk6 (by decide);rw [HSY5.out]at hlb6;have HLB6:=zz hlb6;have HBK6:=zz (HX5.out.s.blk.sameK hsk6 (by decide));have hfo:=HFO.out;rw [←HCR.out]at hfo;have HFO6:=zz hfo;clear hdp hs6 hdk5 hsk6 hlb6 lg5 HX5 HCR HFO hfo;go_wp2_with fail
   refine(z5Y HDP.out HBR.out c HB6.out hpos (ys:= [aw1]) (K:=1) (fun y hy=>by simp only [List.mem_singleton]at hy;subst hy;exact⟨z4d.1,z4d.2.1,z4d.2.2.1⟩) (by decide) (by simp) HFO6.out.1 HFO6.out.2 hg6).mono ?_;rintro e w7 ⟨gs7,g7,gl7,Z7,P7,l7,rfl,hx7,-,-,htu7⟩;have hst7:Stp h6 w6 h6 w7:=⟨rfl,htu7,fun _ h=> .inl h⟩;have hsk7:SameK [some 66,some 180] w6 w7:=hst7.same HDP.out.dk (by decide) (by decide) (by decide);have HX7:Hid (Sx Q15 w w7 gs7 g7 gl7 pd Z7 P7 c l7 [z0V aw1] [([97],[49]),([98],[50])]):=by
    have e:(([aw1]:List (List Chg)).take 1).foldl chgsC []= [([97],[49]),([98],[50])]:=by decide
    rw [←e];exact hx7
   have HLB7:=zz (HLB6.out.sameK hsk7 (by decide));have HBK7:=zz (HBK6.out.sameK hsk7 (by decide));clear hx7 htu7 hst7 hsk7 HLB6 HBK6 HFO6 HBR HDP HSY5 HB6;go_upto_region 9 with(fail)
   have hbx:=HX7.out.s.blk;have b0:w7.cell? ⟨gs7,0,none⟩=some (.pointer (some ⟨g7,0,none⟩)):=hbx.cell 0;have k1:Hid (∀wg,Below w7.heap.size w7 wg→Calls Tryz.prog 53 #[.pointer (some ⟨gs,0,none⟩)] wg fun e w'=>e= .returned (.int .u64 ((1:Nat):Int))∧Below wg.heap.size wg w'):=fun wg hwg=>zBg (HBK7.out.later hwg) (HLB7.out.later hwg)
   have k2:Hid (∀wg,Below w7.heap.size w7 wg→Calls Tryz.prog 22 #[.pointer (some ⟨gs7,0,none⟩)] wg fun e w'=>e= .returned (.int .u64 ((1:Nat):Int))∧Below wg.heap.size wg w'):=fun wg hwg=>z7E (HX7.out.later hwg) rfl
   have k3:Hid (∀wg,Below w7.heap.size w7 wg→Calls Tryz.prog 16 #[.pointer (some ⟨g7,0,none⟩),.agg (rgC [] [] true false (-1))] wg fun e w'=>∃v,e= .returned v∧Below wg.heap.size wg w'∧z6n [([97],[49]),([98],[50])] v w'):=fun wg hwg=>
    (z9n z62 (HX7.out.later hwg) rfl).mono fun e w' ⟨A,c',he,ho,hb'⟩=>⟨_,he,hb',A,c',rfl,ho.cs.lt⟩
   clear hbx HLB7 HBK7;refine z1H [] (by kernel_rfl) (by kernel_rfl) ?_;apply Exists.intro;apply And.intro
   ·repeat(first
     |(apply z1D rfl
       intro K hK;go_simp;refine hK _ ?_;clear hK K)
     |(apply z1t rfl (by kernel_rfl)
       ·intro wg hwg _;replace hwg:=z17 hwg;have b0:=cell_later hwg b0;unfold z06;go_simp
        first
         |exact z00 _ _
         |(apply z0x;go_at_call 53;exact k1.out wg hwg)
         |(apply z0x;go_at_call 22;exact k2.out wg hwg)
         |(apply z0x;go_at_call 23;exact z78 wg)
       intro K hK;go_simp;refine hK _ ?_;clear hK K))
    apply z9s (V:=z6n [([97],[49]),([98],[50])]) rfl (by kernel_rfl)
    ·intro wg hwg hf;unfold z06;go_simp;refine⟨Below.refl _ _,?_⟩;go_at_call 16
     exact k3.out wg (z17 hwg)
    intro xv hxv K hK;obtain⟨wx,hwx,hbx⟩:=hxv;have hbo:=hbx;obtain⟨A5,c5,rfl,hc5⟩:=hbo;go_simp;refine hK _ ?_;clear hK K hbx hwx
    repeat(first
     |(apply z1D rfl
       intro K hK;go_simp;refine hK _ ?_;clear hK K)
     |(apply z1t rfl (by kernel_rfl)
       ·intro wg hwg _
        skip
        unfold z06;go_simp
        first
         |exact z00 _ _
         |(fail)
       intro K hK;go_simp;refine hK _ ?_;clear hK K))
    apply z9s (V:=z6n [([97],[49]),([98],[50])]) rfl (by kernel_rfl)
    ·intro wg hwg hf;unfold z06;go_simp;exact⟨(Below.refl _ _).alloc (Nat.le_refl _) _,_,_,rfl,(zC7 wg ([97],[49]) ([98],[50])).lt⟩
    intro xv hxv K hK;obtain⟨wx,hwx,hbx⟩:=hxv;have hbo:=hbx;obtain⟨A6,c6,rfl,hc6⟩:=hbo;go_simp;refine hK _ ?_;clear hK K hbx hwx;apply z1t (c:= .bool true) rfl (by kernel_rfl)
    ·intro wg hwg hf;have e1:=hf ⟨38,.data⟩ (by simp) rfl (.slice A5 2 c5) (z6n [([97],[49]),([98],[50])]) (by kernel_rfl);have e2:=hf ⟨41,.data⟩ (by simp) rfl (.slice A6 2 c6) (z6n [([97],[49]),([98],[50])]) (by kernel_rfl);unfold z06;go_simp;apply z0x;go_at_call 15
     obtain⟨A7,c7,e7,h7⟩:=e1;obtain⟨A8,c8,e8,h8⟩:=e2;injection e7 with e71 e72 e73
     injection e8 with e81 e82 e83
     subst e71 e73 e81 e83;refine(z5i _ _ _ _ _ _ wg h7 h8).mono ?_;rintro e w' ⟨rfl,hb'⟩;exact⟨by simp,hb'⟩
    intro K hK;go_simp;refine hK _ ?_;clear hK K
    repeat(first
     |(apply z1D rfl
       intro K hK;go_simp;refine hK _ ?_;clear hK K)
     |(apply z1t rfl (by kernel_rfl)
       ·intro wg hwg _
        skip
        unfold z06;go_simp
        first
         |exact z00 _ _
         |(fail)
       intro K hK;go_simp;refine hK _ ?_;clear hK K))
    refine z32 (fun wf hwf hf=> ?_);have HQ:=zz (HX7.out.below.trans ((z17 hwf).mono HX7.out.below.size));clear hwf hf hc5 hc6;go_wp2_with fail
    go_ret
    exact⟨rfl,HQ.out⟩
   ·apply And.intro
    ·repeat(first
      |exact trivial
      |(refine⟨z61 _ _,?_⟩)
      |(refine⟨z9B (Stays.vcels _) (fun p hp hn hw=>by cases hp),?_⟩)
      )
    ·rfl
end
end Go.Proofs.YthbhkdhljlganaaGreatDoor
