/- Part 19. -/
import Derived.Test.YtdkobefpnjbgnaaGreatDoorMovePutsJ18
import Derived.Deep.LoopGhost
namespace Go.Proofs.YtdkobefpnjbgnaaGreatDoor
set_option linter.unusedVariables false
set_option maxHeartbeats 16000000
set_option maxRecDepth 100000
section
open Go Go.RowKit
def z33(L:List (Fd×Value))(p:Option Fd)(r:Int):Prop:=(r= -1∧p=none)∨∃ (j:Nat) (hj:j<L.length),r=(j:Int)∧p=some L[j].1
theorem zCa{L:List (Fd×Value)}{frm i:Nat}(hi:i<L.length):z1z frm ((L.map Prod.fst).take (i+1)) none=z7K frm (z1z frm ((L.map Prod.fst).take i) none) L[i].1:=by
 have hlm:i<(L.map Prod.fst).length:=by rw [List.length_map];exact hi
 rw [List.take_add_one,List.getElem?_eq_getElem hlm,z5e];simp [z1z,z7K]
theorem zBy{frm:Nat}{b:Option Fd}{x:Fd}(h:x.fits frm=false):z7K frm b x=b:=by unfold z7K;rw [h];simp
theorem z9d{frm:Nat}{b:Option Fd}{x:Fd}(h:x.fits frm=true)(hb:z4N b x=true):z7K frm b x=some x:=by unfold z7K;rw [h,hb];simp
theorem zDE{frm:Nat}{b:Option Fd}{x:Fd}(hb:z4N b x=false):z7K frm b x=b:=by unfold z7K;rw [hb];simp
section
variable {D:Dsk} {a:Int} {n size frm last:Nat} {live:List Sg} {out:List Rcd} (h:z4B (zCG D.view a size n) frm (n+1) [] frm [] (z1z frm (zCG D.view a size n) none)=(live,last,out))
include h
theorem zIP:(z1I D a n size frm).2=out:=by simp only [z1I,h]
theorem ow_D:(z1I D a n size frm).1.D=(z0c D a size live n).sync:=by simp only [z1I,h,Wl.sync]
theorem zBL:(z1I D a n size frm).1.last=max last frm:=by simp only [z1I,h,Wl.sync]
theorem z6H:(z1I D a n size frm).1.synced=max last frm:=by simp only [z1I,h,Wl.sync]
theorem zAO:(z1I D a n size frm).1.live=live:=by simp only [z1I,h,Wl.sync]
end
theorem zD7(h:Zn)(D:Dsk)(a:Int)(n size frm:Nat)(w:World)(hd:Dk w h D)(hok:D.Ok)(hn2:2≤n)(hn:n≤64)(hs1:1≤size)(hs:size≤64)(h0:0≤a)(h1:a+(n:Int)*size≤65536)(hf:frm<U64)(hp:D.pend.length≤800000):
 Calls Tryz.prog 89 #[.pointer (some ⟨h.g,0,none⟩),.int .i64 a,.int .i64 (n:Int),.int .i64 (size:Int),.int .u64 (frm:Int)] w fun e w'=>∃gl lv' sv' A k c h',e= .returned (.tuple #[.pointer (some ⟨gl,0,none⟩),.slice A k c,.int .i64 0])∧
  Dk w' h' (z1I D a n size frm).1.D∧Lb w' gl h.g a n size lv' sv' (z1I D a n size frm).1.last (z1I D a n size frm).1.synced∧Rg3 w' lv' (z1I D a n size frm).1.live∧sv'= .slice none 0 0∧w.heap.size≤gl∧
  w'.ownsRow w.heap.size 173 2 (.slice A k c) (z1I D a n size frm).2.length (rcs (z1I D a n size frm).2)∧Stp h w h' w':=by
 have HD:=zz hd;have HOK:=zz hok;have HF:=zz hf;have HP:=zz hp;have hmul:=zB9 hn hs;have hw1:IntKind.i64.wrap ((n:Int)*size)=(n:Int)*size:=i64_in (by omega) (by omega);have hw2:IntKind.i64.wrap (65536-(n:Int)*size)=65536-(n:Int)*size:=i64_in (by omega) (by omega);clear hd hok hf hp;go_enter Tryz.func89,Tryz.ntmps89
 go_wp2_with fail
 have qa:Below w.heap.size w ((w.alloc (.cells (lgC h.g a n size (.slice none 0 0) (.slice none 0 0) frm 0) 219)).alloc (.cells #[.pointer (some ⟨w.heap.size,0,none⟩)] 116)):=((Below.refl _ _).alloc (Nat.le_refl _) _).alloc (by simp) _;have HL:Hid (Lb ((w.alloc (.cells (lgC h.g a n size (.slice none 0 0) (.slice none 0 0) frm 0) 219)).alloc (.cells #[.pointer (some ⟨w.heap.size,0,none⟩)] 116)) w.heap.size h.g a n size (.slice none 0 0) (.slice none 0 0) frm 0):=(Blk.new _ _ _).alloc _;have HG:Hid (Blk ((w.alloc (.cells (lgC h.g a n size (.slice none 0 0) (.slice none 0 0) frm 0) 219)).alloc (.cells #[.pointer (some ⟨w.heap.size,0,none⟩)] 116)) (w.heap.size+1) 116 #[.pointer (some ⟨w.heap.size,0,none⟩)]):=by
  have:=Blk.new (w.alloc (.cells (lgC h.g a n size (.slice none 0 0) (.slice none 0 0) frm 0) 219)) 116 #[.pointer (some ⟨w.heap.size,0,none⟩)];simpa [Hid]using this
 have HQ:=zz qa;clear qa;refine(zCd h D w.heap.size a n size (.slice none 0 0) (.slice none 0 0) frm 0 _ (HD.out.later HQ.out) HOK.out HL.out hn hs h0 (by omega)).mono ?_;rintro e w2 ⟨v,L,rfl,hlk⟩;have LK:=zz hlk;have HL2:Hid (Lb w2 w.heap.size h.g a n size (.slice none 0 0) (.slice none 0 0) frm 0):=HL.out.later (LK.out.below);have HG2:=zz (HG.out.later LK.out.below);have HQ2:=zz (HQ.out.trans (LK.out.below.mono HQ.out.size));have HFS:=zz LK.out.fs;have HALL:=zz LK.out.all;obtain⟨Av,cv,rfl,hlv,hcv,hAv⟩:=hlk.fs.at;have HAV:=zz hAv;have hLn:=LK.out.len;clear hlk hAv LK HL HG HQ hw1 hw2;go_wp2_with fail
 generalize ((w.alloc _).alloc _)=wx at*;obtain⟨m,hm⟩:∃m,(frm+1)%U64=m:=⟨_,rfl⟩;have HM:=zz hm;have hwr:IntKind.u64.wrap ((frm:Int)+1)=(m:Int):=by have:=z4P frm 1;rw [hm]at this;simpa using this
 clear hm;go_loopw [15,58] (fun fv kv wr=>∃ (i:Nat) (r:Int),fv= .int .i64 r∧kv= .int .i64 (i:Int)∧i≤L.length∧Hid (z33 L (z1z frm ((L.map Prod.fst).take i) none) r)∧Hid (Below w2.heap.size w2 wr)) (fun _ kv _=>L.length-(intOf kv).toNat)
 case atStart=>exact⟨0,-1,rfl,rfl,Nat.zero_le _,.inl ⟨rfl,rfl⟩,Below.refl _ _⟩
 case round=>
  obtain⟨i,r,rfl,rfl,hi,FA,BL⟩:=hrel;by_cases hlt:i<L.length
  ·skip
   obtain⟨b,o,rfl,hbl,hkb,hcell⟩:=HAV.out (by omega);obtain⟨k0,k1,k2,k3⟩:=hcell i hlt;have x0:=(BL.out.cell (p:=⟨b,o+i*4,none⟩) hbl).trans k0;have x1:=(BL.out.cell (p:=⟨b,o+i*4+1,none⟩) hbl).trans k1;have x2:=(BL.out.cell (p:=⟨b,o+i*4+2,none⟩) hbl).trans k2;have x3:=(BL.out.cell (p:=⟨b,o+i*4+3,none⟩) hbl).trans k3;have HC:=zz hcell;have HPK:=zz (zCa (frm:=frm) hlt);clear hcell k0 k1 k2 k3;obtain⟨Ax,cx,hx2,-⟩:=Rr.at (HFS.out.recs _ (List.getElem_mem hlt)).1;rw [hx2]at x3;obtain⟨y,hy⟩:∃y,L[i].1=y:=⟨_,rfl⟩;rw [hy]at x0 x1 x2 x3 HPK;obtain⟨sm,hsm⟩:∃sm,(y.base+y.recs.length)%U64=sm:=⟨_,rfl⟩;have hwq:IntKind.u64.wrap ((y.base:Int)+(y.recs.length:Int))=(sm:Int):=by rw [z4P,hsm]
   have HFI:Hid (y.fits frm=(decide (y.base≤m)&&decide (m≤sm))):=by rw [Hid];unfold Fd.fits;rw [HM.out,hsm]
   have HY:=zz hy;clear hx2 hsm hy;go_wp2_with fail
   have BA:=zz (BL.out.trans (((Below.refl wr.heap.size wr).alloc (Nat.le_refl _) (.cells #[.int .i64 (y.at':Int),.int .u64 (y.base:Int),.int .u64 (y.recs.length:Int),.slice Ax y.recs.length cx] 225)).mono BL.out.size));have HB:=zz (Blk.new wr 225 #[.int .i64 (y.at':Int),.int .u64 (y.base:Int),.int .u64 (y.recs.length:Int),.slice Ax y.recs.length cx]);have QW:=zz ((Below.refl wr.heap.size wr).alloc (Nat.le_refl _) (.cells #[.int .i64 (y.at':Int),.int .u64 (y.base:Int),.int .u64 (y.recs.length:Int),.slice Ax y.recs.length cx] 225));generalize hwa:wr.alloc _=wa at*;clear hwa x0 x1 x2 x3;have t1:wa.cell? ⟨wr.heap.size,1,none⟩=some (.int .u64 (y.base:Int)):=HB.out.cell 1;have t2:wa.cell? ⟨wr.heap.size,2,none⟩=some (.int .u64 (y.recs.length:Int)):=HB.out.cell 2;by_cases hb1:y.base≤m
   ·have hb1':((y.base:Int))≤(m:Int):=by omega
    by_cases hb2:m≤sm
    ·have hb2':(m:Int)≤(sm:Int):=by omega
     have HFT:Hid (y.fits frm=true):=by rw [Hid,HFI.out,decide_eq_true hb1,decide_eq_true hb2];rfl
     clear hb1 hb2;rcases FA.out with⟨hr,hpk⟩|⟨j,hj,hr,hpk⟩
     ·have HR:=zz hr;have hrn:r<0:=by omega
      have FN:Hid (z33 L (z1z frm ((L.map Prod.fst).take (i+1)) none) (i:Int)):=by
       rw [Hid,HPK.out,z9d HFT.out (by rw [hpk];rfl)];exact .inr ⟨i,hlt,rfl,by rw [HY.out]⟩
      clear hr hpk;refine z01 (by kernel_rfl) (by kernel_rfl) ?_;apply Exists.intro;apply And.intro
      ·repeat(first
        |(apply z04 rfl
          intro K hK;go_simp;refine hK _ ?_;clear hK K)
        |(apply z09 rfl
          ·intro wg hwg _;have c1:=cell_later hwg t1;have c2:=cell_later hwg t2;unfold z07;go_simp
           first
            |exact z00 _ _
          intro K hK;go_simp;refine hK _ ?_;clear hK K))
       refine z08 (fun wg hwg _=> ?_);have BW:=zz (BA.out.trans (hwg.mono BA.out.size));clear t1 t2 hwr hwq;go_wp2_with fail
       go_roundw
       case rel=>exact⟨i+1,(i:Int),rfl,by go_num,by omega,FN,BW⟩
       case measure=>simp [intOf];omega
      ·apply And.intro
       ·repeat(first|exact trivial|(refine⟨Stays.is _,?_⟩)|(refine⟨Stays.bs _,?_⟩)|(refine⟨Stays.pg _ _ _,?_⟩))
       ·rfl
     ·subst hr;have j1:=(BL.out.cell (p:=⟨b,o+j*4+1,none⟩) hbl).trans (HC.out j hj).2.1;obtain⟨z,hz⟩:∃z,L[j].1=z:=⟨_,rfl⟩;rw [hz]at j1 hpk;have HZ:=zz hz;have HPZ:=zz hpk;have HJ:=zz hj;have j2:=cell_later QW.out j1;clear hz hpk j1;by_cases hzy:z.base<y.base
      ·have FN:Hid (z33 L (z1z frm ((L.map Prod.fst).take (i+1)) none) (i:Int)):=by
        rw [Hid,HPK.out,z9d HFT.out (by rw [HPZ.out];simp [z4N,hzy])];exact .inr ⟨i,hlt,rfl,by rw [HY.out]⟩
       refine z01 (by kernel_rfl) (by kernel_rfl) ?_;apply Exists.intro;apply And.intro
       ·repeat(first
         |(apply z04 rfl
           intro K hK;go_simp;refine hK _ ?_;clear hK K)
         |(apply z09 rfl
           ·intro wg hwg _;have c1:=cell_later hwg t1;have c2:=cell_later hwg t2;have c3:=cell_later hwg j2;unfold z07;go_simp
            first
             |exact z00 _ _
           intro K hK;go_simp;refine hK _ ?_;clear hK K))
        refine z08 (fun wg hwg _=> ?_);have BW:=zz (BA.out.trans (hwg.mono BA.out.size));clear t1 t2 j2 hwr hwq;go_wp2_with fail
        go_roundw
        case rel=>exact⟨i+1,(i:Int),rfl,by go_num,by omega,FN,BW⟩
        case measure=>simp [intOf];omega
       ·apply And.intro
        ·repeat(first|exact trivial|(refine⟨Stays.is _,?_⟩)|(refine⟨Stays.bs _,?_⟩)|(refine⟨Stays.pg _ _ _,?_⟩))
        ·rfl
      ·have FN:Hid (z33 L (z1z frm ((L.map Prod.fst).take (i+1)) none) (j:Int)):=by
        rw [Hid,HPK.out,zDE (by rw [HPZ.out];simp [z4N];omega)];exact .inr ⟨j,HJ.out,rfl,by rw [HZ.out];exact HPZ.out⟩
       have hzy':decide (z.base<y.base)=false:=by simp;omega
       clear hzy;refine z01 (by kernel_rfl) (by kernel_rfl) ?_;apply Exists.intro;apply And.intro
       ·repeat(first
         |(apply z04 rfl
           intro K hK;go_simp;refine hK _ ?_;clear hK K)
         |(apply z09 rfl
           ·intro wg hwg _;have c1:=cell_later hwg t1;have c2:=cell_later hwg t2;have c3:=cell_later hwg j2;unfold z07;go_simp
            first
             |exact z00 _ _
           intro K hK;go_simp;refine hK _ ?_;clear hK K))
        refine z08 (fun wg hwg _=> ?_);have BW:=zz (BA.out.trans (hwg.mono BA.out.size));clear t1 t2 j2 hwr hwq;go_wp2_with fail
        go_roundw
        case rel=>exact⟨i+1,(j:Int),rfl,by go_num,by omega,FN,BW⟩
        case measure=>simp [intOf];omega
       ·apply And.intro
        ·repeat(first|exact trivial|(refine⟨Stays.is _,?_⟩)|(refine⟨Stays.bs _,?_⟩)|(refine⟨Stays.pg _ _ _,?_⟩))
        ·rfl
    ·have hb2':decide (m≤sm)=false:=by simp;omega
     have FN:Hid (z33 L (z1z frm ((L.map Prod.fst).take (i+1)) none) r):=by
      rw [Hid,HPK.out,zBy (by rw [HFI.out,decide_eq_false hb2,Bool.and_false])];exact FA.out
     clear hb1 hb2;refine z01 (by kernel_rfl) (by kernel_rfl) ?_;apply Exists.intro;apply And.intro
     ·repeat(first
       |(apply z04 rfl
         intro K hK;go_simp;refine hK _ ?_;clear hK K)
       |(apply z09 rfl
         ·intro wg hwg _;have c1:=cell_later hwg t1;have c2:=cell_later hwg t2;unfold z07;go_simp
          first
           |exact z00 _ _
         intro K hK;go_simp;refine hK _ ?_;clear hK K))
      refine z08 (fun wg hwg _=> ?_);have BW:=zz (BA.out.trans (hwg.mono BA.out.size));clear t1 t2 hwr hwq;go_wp2_with fail
      go_roundw
      case rel=>exact⟨i+1,r,rfl,by go_num,by omega,FN,BW⟩
      case measure=>simp [intOf];omega
     ·apply And.intro
      ·repeat(first|exact trivial|(refine⟨Stays.is _,?_⟩)|(refine⟨Stays.bs _,?_⟩)|(refine⟨Stays.pg _ _ _,?_⟩))
      ·rfl
   ·have hb1':decide (y.base≤m)=false:=by simp;omega
    have FN:Hid (z33 L (z1z frm ((L.map Prod.fst).take (i+1)) none) r):=by
     rw [Hid,HPK.out,zBy (by rw [HFI.out,decide_eq_false hb1,Bool.false_and])];exact FA.out
    clear hb1;refine z01 (by kernel_rfl) (by kernel_rfl) ?_;apply Exists.intro;apply And.intro
    ·repeat(first
      |(apply z04 rfl
        intro K hK;go_simp;refine hK _ ?_;clear hK K)
      |(apply z09 rfl
        ·intro wg hwg _;have c1:=cell_later hwg t1;have c2:=cell_later hwg t2;unfold z07;go_simp
         first
          |exact z00 _ _
        intro K hK;go_simp;refine hK _ ?_;clear hK K))
     refine z08 (fun wg hwg _=> ?_);have BW:=zz (BA.out.trans (hwg.mono BA.out.size));clear t1 t2 hwr hwq;go_wp2_with fail
     go_roundw
     case rel=>exact⟨i+1,r,rfl,by go_num,by omega,FN,BW⟩
     case measure=>simp [intOf];omega
    ·apply And.intro
     ·repeat(first|exact trivial|(refine⟨Stays.is _,?_⟩)|(refine⟨Stays.bs _,?_⟩)|(refine⟨Stays.pg _ _ _,?_⟩))
     ·rfl
  ·obtain rfl:i=L.length:=by omega
   have HFA:Hid (z33 L (z1z frm (L.map Prod.fst) none) r):=by
    have:=FA.out;rw [List.take_of_length_le (by simp)]at this;exact this
   have HO:Hid (OpSt w wr wr h.g a n size (.slice none 0 0) [] frm (.slice none 0 0) []):=
    ⟨HL2.out.later BL.out,HG2.out.later BL.out,World.ownsRow_nil _ _ _ _,SameK.refl _,World.ownsRow_nil _ _ _ _,Nat.le_refl _,Nat.le_trans HQ2.out.size BL.out.size,HQ2.out.trans (BL.out.mono HQ2.out.size)⟩
   have HFS9:=zz (HFS.out.later BL.out);have HLn:=zz hLn;clear FA BL HL2 HG2 HFS HQ2 HAV hLn;go_wp2_with fail
   generalize wx.heap.size=bx at*;obtain⟨w9,hw9⟩:∃w9,w9=wr:=⟨_,rfl⟩;subst hw9;go_loopg [18,19] (n+1) (fun gf ov nv wq=>∃ (r:Int) (live:List Sg) (last:Nat) (out:List Rcd) (nx:Option Fd) (A:Option Addr) (m c:Nat) (Al:Option Addr) (kl cl:Nat),ov= .slice A m c∧nv= .int .i64 r∧Hid (z33 L nx r)∧Hid (ChSt (L.map Prod.fst) frm n live last out nx)∧Hid (OpSt w w9 wq h.g a n size (.slice Al kl cl) live last (.slice A m c) out)∧gf+live.length=n+1)
   case atStart=>exact⟨r,[],frm,[],_,none,0,0,none,0,0,rfl,rfl,HFA,ChSt.start HF.out,HO,by simp⟩
   case round=>
    obtain⟨r2,live,last,out,nx,A,mo,co,Al,kl,cl,rfl,rfl,NA,CH,OS,hgk⟩:=hrel;clear HFA HO;rcases NA.out with⟨hr,hnx⟩|⟨j,hj,hr,hnx⟩
    ·subst hr hnx;have CE:=zz CH.out.end;have g0:wr.cell? ⟨w.heap.size+1,0,none⟩=some (.pointer (some ⟨w.heap.size,0,none⟩)):=OS.out.gp.cell 0;have l2:wr.cell? ⟨w.heap.size,2,none⟩=some (.int .i64 (n:Int)):=OS.out.lb.cell 2;have DK0:=zz (HD.out.later OS.out.below);have OE0:=zz OS.out.fin;go_wp2_with fail
     clear g0 l2 OS NA CH;go_loopw [118] (fun kv wq=>∃ (k:Nat) (h':Zn),kv= .int .i64 (k:Int)∧k≤n∧Hid (Dk wq h' (z0c D a size live k))∧Hid (OpE h h' w wq a n size (.slice Al kl cl) live last 0 (.slice A mo co) out)) (fun kv _=>n-(intOf kv).toNat)
     case atStart=>exact⟨0,h,rfl,Nat.zero_le _,DK0,OE0⟩
     case round=>
      obtain⟨k,h',rfl,hk,DK,OE⟩:=hrel;clear DK0 OE0;by_cases hlt:k<n
      ·have g0:wr.cell? ⟨w.heap.size+1,0,none⟩=some (.pointer (some ⟨w.heap.size,0,none⟩)):=OE.out.gp.cell 0;have HRG:Hid (Rg3 wr (.slice Al kl cl) live):=KSl.of_own (by omega) OE.out.lown;go_wp2_with fail
       refine(z1j w.heap.size h.g a n size k (.slice Al kl cl) (.slice none 0 0) last 0 live wr OE.out.lb HRG.out).mono ?_;rintro e w4 ⟨rfl,hb4⟩;have OE4:=zz (OE.out.later hb4);have DK4:=zz (DK.out.later hb4);have g4:w4.cell? ⟨w.heap.size+1,0,none⟩=some (.pointer (some ⟨w.heap.size,0,none⟩)):=OE4.out.gp.cell 0;clear hb4 OE DK HRG g0;cases hu:z1O live k with
       |true=>
        have DK5:Hid (Dk w4 h' (z0c D a size live (k+1))):=by rw [Hid,z0c,if_pos hu];exact DK4.out
        clear hu;go_wp2_with fail
        go_roundw
        case rel=>exact⟨k+1,h',by go_num,by omega,DK5,OE4⟩
        case measure=>simp [intOf];omega
       |false=>
        have HE:Hid (z0c D a size live (k+1)=z4t (z0c D a size live k) (a+(k:Int)*size) size):=by rw [Hid,z0c,if_neg (by rw [hu];simp)]
        have HOK4:=zz (z2M HOK.out a size live k);have HPE:Hid ((z0c D a size live k).pend.length≤900000):=by
         have h1:=z4h D a size live k;have h2:=HP.out;have h3:k*size≤64*64:=Nat.mul_le_mul (by omega) hs;rw [Hid];omega
        have HLB:Hid (Lb w4 w.heap.size h'.g a n size (.slice Al kl cl) (.slice none 0 0) last 0):=by rw [OE4.out.st.g];exact OE4.out.lb
        clear hu;go_wp2_with fail
        refine(z7r h' _ w.heap.size a n size k _ _ last 0 w4 DK4.out HOK4.out HLB.out hs (by omega) h0 (by omega) HPE.out).mono ?_;rintro e w5 ⟨rfl,h5,hd5,hs5⟩;have DK5:Hid (Dk w5 h5 (z0c D a size live (k+1))):=by rw [Hid,HE.out];exact hd5
        have OE5:=zz (OE4.out.step DK4.out hs5);clear hd5 hs5;go_wp2_with fail
        go_roundw
        case rel=>exact⟨k+1,h5,by go_num,by omega,DK5,OE5⟩
        case measure=>simp [intOf];omega
      ·obtain rfl:n=k:=by omega
       have OE2:Hid (OpE h h' w wr.drew a n size (.slice Al kl cl) live last 0 (.slice A mo co) out):=OE.out.later (below_drewN (Below.refl _ _) 1);have DK2:=zz (DK.out.later (below_drewN (Below.refl wr.heap.size wr) 1));have g0:wr.drew.cell? ⟨w.heap.size+1,0,none⟩=some (.pointer (some ⟨w.heap.size,0,none⟩)):=OE.out.gp.cell 0;have l6:wr.drew.cell? ⟨w.heap.size,6,none⟩=some (.int .u64 (last:Int)):=OE.out.lb.cell 6;go_wp2_with fail
       go_still_tail 7,(by kernel_rfl)
       change wpList _ _ _ _ _ wr.drew;have DK3:Hid (Dk wr.drew h' (z0c D a size live n)):=DK2.out;clear OE DK DK2;generalize wr.drew=w2 at*;have f6:=OE2.out.lb.free 6;have HOK4:=zz (z2M HOK.out a size live n);rcases Nat.lt_or_ge last frm with hmx|hmx
       ·have hmx4:max (last:Int) (frm:Int)=(frm:Int):=by omega
        have hmx3:max last frm=frm:=Nat.max_eq_right (by omega);have HMX:=zz hmx3;clear hmx3;have OE3:=zz (OE2.out.put (m:=frm) DK3.out);go_wp2_with fail
        generalize w2.setCell _ _=W3 at*;clear g0 l6 f6 OE2 DK3;have g0:W3.cell? ⟨w.heap.size+1,0,none⟩=some (.pointer (some ⟨w.heap.size,0,none⟩)):=OE3.out.1.gp.cell 0;have HLB:Hid (Lb W3 w.heap.size h'.g a n size (.slice Al kl cl) (.slice none 0 0) frm 0):=by rw [OE3.out.1.st.g];exact OE3.out.1.lb
        go_wp2_with fail
        refine(z5A h' _ w.heap.size a n size _ _ frm 0 W3 OE3.out.2 HOK4.out HLB.out).mono ?_;rintro e w6 ⟨rfl,h6,hd6,hl6,hm6⟩;rw [OE3.out.1.st.g]at hl6;have OE6:=zz (OE3.out.1.sync OE3.out.2 hl6 hm6);have DK6:=zz hd6;have g6:w6.cell? ⟨w.heap.size+1,0,none⟩=some (.pointer (some ⟨w.heap.size,0,none⟩)):=OE6.out.gp.cell 0;clear hd6 hl6 hm6 g0;go_wp2_with fail
        go_ret3
        have hD:=DK6.out;have ce:=CE.out;rw [HALL.out]at ce;refine⟨w.heap.size,.slice Al kl cl,.slice none 0 0,A,mo,co,h6,rfl,?_,?_,?_,rfl,Nat.le_refl _,?_,OE6.out.st⟩
        ·rw [ow_D ce];exact hD
        ·rw [zBL ce,z6H ce,HMX.out];exact OE6.out.lb
        ·rw [zAO ce];exact KSl.of_own (by omega) OE6.out.lown
        ·rw [zIP ce];exact OE6.out.oown
       ·have hmx2:¬last<frm:=by omega
        have hmx4:max (last:Int) (frm:Int)=(last:Int):=by omega
        have hmx3:max last frm=last:=Nat.max_eq_left (by omega);have HMX:=zz hmx3;clear hmx hmx3;have OE3:=zz (OE2.out.put (m:=last) DK3.out);go_wp2_with fail
        generalize w2.setCell _ _=W3 at*;clear g0 l6 f6 OE2 DK3;have g0:W3.cell? ⟨w.heap.size+1,0,none⟩=some (.pointer (some ⟨w.heap.size,0,none⟩)):=OE3.out.1.gp.cell 0;have HLB:Hid (Lb W3 w.heap.size h'.g a n size (.slice Al kl cl) (.slice none 0 0) last 0):=by rw [OE3.out.1.st.g];exact OE3.out.1.lb
        go_wp2_with fail
        refine(z5A h' _ w.heap.size a n size _ _ last 0 W3 OE3.out.2 HOK4.out HLB.out).mono ?_;rintro e w6 ⟨rfl,h6,hd6,hl6,hm6⟩;rw [OE3.out.1.st.g]at hl6;have OE6:=zz (OE3.out.1.sync OE3.out.2 hl6 hm6);have DK6:=zz hd6;have g6:w6.cell? ⟨w.heap.size+1,0,none⟩=some (.pointer (some ⟨w.heap.size,0,none⟩)):=OE6.out.gp.cell 0;clear hd6 hl6 hm6 g0;go_wp2_with fail
        go_ret3
        have hD:=DK6.out;have ce:=CE.out;rw [HALL.out]at ce;refine⟨w.heap.size,.slice Al kl cl,.slice none 0 0,A,mo,co,h6,rfl,?_,?_,?_,rfl,Nat.le_refl _,?_,OE6.out.st⟩
        ·rw [ow_D ce];exact hD
        ·rw [zBL ce,z6H ce,HMX.out];exact OE6.out.lb
        ·rw [zAO ce];exact KSl.of_own (by omega) OE6.out.lown
        ·rw [zIP ce];exact OE6.out.oown
    ·skip
     subst hr hnx;have hll:=CH.out.len;have OS2:Hid (OpSt w w9 wr.drew h.g a n size (.slice Al kl cl) live last (.slice A mo co) out):=OS.out.drew;have FS2:Hid (Fs wr.drew bx (.slice Av L.length cv) L):=HFS9.out.same OS2.out.same;have hat:=FS2.out.at;obtain⟨Av2,cv2,he2,-,-,hAV2⟩:=hat;cases he2
     obtain⟨b,o,hAe,hbl,hkb,hcell⟩:=hAV2 (by omega);cases hAe
     obtain⟨q0,q1,q2,q3⟩:=hcell j hj;have hmem:=List.getElem_mem hj;obtain⟨Ay,cy,hrv,-⟩:=Rr.at (FS2.out.recs _ hmem).1;have HRR:=zz (FS2.out.recs _ hmem);rw [hrv]at q3;have HRR2:Hid (Rr wr.drew (.slice Ay L[j].1.recs.length cy) L[j].1.recs):=by have:=HRR.out.1;rw [hrv]at this;exact this
     have HRL:=zz HRR.out.2;have g0:wr.drew.cell? ⟨w.heap.size+1,0,none⟩=some (.pointer (some ⟨w.heap.size,0,none⟩)):=OS2.out.gp.cell 0;have hxb:Hid (L[j].1.base<U64):=by
      have hm2:L[j].1∈L.map Prod.fst:=List.mem_map.2 ⟨_,hmem,rfl⟩;rw [HALL.out]at hm2;exact zGV (z4s hm2).2
     clear hcell hmem hrv HRR hAV2;generalize L[j].1=y at*;have HTK:=zz (zD6 w.heap.size h.g a n size (.slice Al kl cl) (.slice none 0 0) last 0 live y (.slice Ay y.recs.length cy) frm w.heap.size wr.drew OS2.out.lb OS2.out.lown OS2.out.below.size (Nat.le_refl _) HRR2.out (by have:=HRL.out;omega) hxb.out (by omega) HF.out);have HL1:Hid (out.length+(z56 y frm).length≤10000000):=by
      have h1:=CH.out.out;have h2:=List.length_filter_le (fun r:Rcd=>decide (frm<r.1)) y.recs;have h3:=HRL.out;have h4:live.length*40000≤64*40000:=Nat.mul_le_mul_right _ (by omega);rw [Hid];unfold z56;omega
     have HM1:Hid (out.length+(z56 y frm).length≤maxLen):=by have:=HL1.out;simp only [Hid,maxLen];omega
     have HM2:Hid ((out.length+(z56 y frm).length)*24≤140737488355328):=by have:=HL1.out;rw [Hid];omega
     go_wp2_with fail
     go_cut [18] (fun ov wx=>∃ (A2:Option Addr) (k2 c2:Nat) (A3:Option Addr) (k3 c3:Nat),ov= .slice A2 k2 c2∧Hid (OpSt w w9 wx h.g a n size (.slice A3 k3 c3) (live++ [y.sg]) y.last (.slice A2 k2 c2) (out++z56 y frm)))
     case first=>
      go_region_law (first
       |(refine z2a _ ⟨0,rfl⟩ rfl (.tmp 102) (.tmp 109) zAd rfl (z0q OS2.out.oown hk3 (by decide)) (Sl.of_own (by omega) hot) rfl rfl (zAr _) HM1.out HM2.out (Nat.le_trans OS2.out.size hb3.size) ?_;intro A8 k8 c8 w8 hown8 hg8)
       |(go_simp;go_at_call 121;refine HTK.out.mono ?_;rintro e w3 ⟨At,kt,ct,A',k',c',rfl,hot,hl3,hlo,hb3,hk3⟩))
      all_goals
       have OS8:=OS2.out.next hl3 hlo hb3 hk3 hown8 hg8;go_wp2_with fail
       go_meet
       exact⟨A8,k8,c8,A',k',c',rfl,OS8⟩
     obtain⟨A2,k2,c2,A3,k3,c3,rfl,OS3⟩:=hcut;have hall:∀z∈L.map Prod.fst,z.at'<n∧z.recs.length≤40000:=fun z hz=>by
      refine⟨?_,?_⟩
      ·rw [HALL.out]at hz;exact(z4s hz).1
      ·obtain⟨x,hx,rfl⟩:=List.mem_map.1 hz;exact(HFS9.out.recs x hx).2
     have CH5:Hid (ChSt (L.map Prod.fst) frm n (live++ [y.sg]) y.last (out++z56 y frm) (zAG (L.map Prod.fst) (live++ [y.sg]) y.last)):=CH.out.next hall;have FS5:=zz (HFS9.out.same OS3.out.same);have HRG:Hid (Rg3 wc (.slice A3 k3 c3) (live++ [y.sg])):=KSl.of_own (by omega) OS3.out.lown;have hmf:=z0K Tryz.prog;clear hall OS HTK OS2 FS2 g0 q0 q1 q2 q3;go_wp2_with fail
     refine(zAg bx _ L (w.heap.size+1) w.heap.size h.g a n size (.slice A3 k3 c3) (.slice none 0 0) y.last 0 (live++ [y.sg]) wc OS3.out.gp OS3.out.lb HRG.out FS5.out).mono ?_;rintro e w5 ⟨r5,rfl,hfd,hb5⟩;have FD5:Hid (z33 L (zAG (L.map Prod.fst) (live++ [y.sg]) y.last) r5):=hfd;have OS5:=zz (OS3.out.later hb5);clear hfd hb5 OS3 FS5 HRG;go_wp2_with fail
     have hln:=CH5.out.len;rw [List.length_append,List.length_singleton]at hln;go_roundg (gk-1)
     case measure=>omega
     case rel=>exact⟨r5,live++ [y.sg],y.last,out++z56 y frm,_,A2,k2,c2,A3,k3,c3,rfl,rfl,FD5,CH5,OS5,by rw [List.length_append,List.length_singleton];omega⟩
end
end Go.Proofs.YtdkobefpnjbgnaaGreatDoor
