/- Part 21. -/
import Derived.Test.YthnlcbamjehpdaaGreatDoorViewCollectsJ20
namespace Go.Proofs.YthnlcbamjehpdaaGreatDoor
set_option linter.unusedVariables false
set_option maxHeartbeats 16000000
set_option maxRecDepth 100000
section
open Go Go.RowKit Tryz
theorem zHd(h:Zn)(D:Dsk)(gl:Nat)(a:Int)(n size i:Nat)(lv sv:Value)(last synced:Nat)(w:World)(hd:Dk w h D)(hok:D.Ok)(hf:∀x,D.view x=none)(hl:Lb w gl h.g a n size lv sv last synced)(hs1:1<=size)(hs:size<=64)(hi:i<=64)(h0:0<=a)(h1:a<=65536):
 Calls prog 144 #[.pointer (some ⟨gl,0,none⟩),.int .i64 (i:Int)] w fun e w'=>e= .returned (.slice none 0 0)/\Below w.heap.size w w':=by
 have HD:=zz hd;have HOK:=zz hok;have HF:=zz hf;have l0:w.cell? ⟨gl,0,none⟩=some (.pointer (some ⟨h.g,0,none⟩)):=hl.cell 0;have l1:w.cell? ⟨gl,1,none⟩=some (.int .i64 a):=hl.cell 1;have l3:w.cell? ⟨gl,3,none⟩=some (.int .i64 (size:Int)):=hl.cell 3;have hmul:=z9a hi hs;clear hd hok hl hf;go_enter func144,ntmps144
 go_wp2_with fail
 go_loopw [5,13] (fun ov kv wr=>∃k:Nat,ov= .slice none 0 0/\kv= .int .i64 (k:Int)/\k<size/\wr=w) (fun _ _ _=>0)
 case atStart=>exact⟨0,rfl,rfl,by omega,rfl⟩
 case round=>
  obtain⟨k,rfl,rfl,hlt,rfl⟩:=hrel;have hw1:IntKind.i64.wrap ((i:Int)*size)=(i:Int)*size:=i64_in (by omega) (by omega);have hw2:IntKind.i64.wrap (a+(i:Int)*size)=a+(i:Int)*size:=i64_in (by omega) (by omega);have hw3:IntKind.i64.wrap (a+(i:Int)*size+k)=a+(i:Int)*size+k:=i64_in (by omega) (by omega);go_wp2_with fail
  have HDR:=zz (below_drewN (y7 wr.heap.size wr) 1);go_region_held3 (fun w'=>w'.cell? ⟨gl,0,none⟩=some (.pointer (some ⟨h.g,0,none⟩))/\w'.cell? ⟨gl,1,none⟩=some (.int .i64 a)/\w'.cell? ⟨gl,3,none⟩=some (.int .i64 (size:Int)))
   (first
     |go_keep
     |(go_split_ands
       refine⟨?_,?_,?_⟩<;>(apply yN hb4;assumption)))
   ((first
     |(go_at_call 162;refine(z6q h D (a+(i:Int)*size+k) _ (HD.out.later (below_drewN (y7 _ _) 1)) HOK.out (by unfold InI;omega)).mono ?_;rintro e w4 ⟨hsome,hnone,hb4⟩;obtain rfl:=hnone (HF.out _))))
  have HQ:=zz (HDR.out.trans hb4);clear hsome hnone hb4 l0 l1 l3 hw1 hw2 hw3;go_wp2_with fail
  go_ret
  exact⟨rfl,HQ.out⟩
theorem zJf(h:Zn)(D:Dsk)(gl:Nat)(a:Int)(n size:Nat)(lv sv:Value)(last synced:Nat)(w:World)(hd:Dk w h D)(hok:D.Ok)(hf:∀x,D.view x=none)(hl:Lb w gl h.g a n size lv sv last synced)(hn:n<=64)(hs1:1<=size)(hs:size<=64)(h0:0<=a)(h1:a<=65536):
 Calls prog 107 #[.pointer (some ⟨gl,0,none⟩)] w fun e w'=>e= .returned (.slice none 0 0)/\Below w.heap.size w w':=by
 have HBY:Hid (∀wg,Below w.heap.size w wg->∀i,i<n->Calls prog 144 #[.pointer (some ⟨gl,0,none⟩),.int .i64 (i:Int)] wg fun e w'=>e= .returned (.slice none 0 0)/\Below wg.heap.size wg w'):=fun wg hwg i hi=>zHd h D gl a n size i lv sv last synced wg (hd.later hwg) hok hf (hl.later hwg) hs1 hs (by omega) h0 h1
 have l2:w.cell? ⟨gl,2,none⟩=some (.int .i64 (n:Int)):=hl.cell 2;clear hd hok hl hf;go_enter func107,ntmps107
 go_wp2_with fail
 clear l2;go_loopw [3,15] (fun ov kv wr=>∃i:Nat,ov= .slice none 0 0/\kv= .int .i64 (i:Int)/\i<=n/\Hid (Below w.heap.size w wr)) (fun _ kv _=>n-(intOf kv).toNat)
 case atStart=>exact⟨0,rfl,rfl,yU _,y7 _ _⟩
 case round=>
  obtain⟨i,rfl,rfl,hi,B⟩:=hrel;by_cases hlt:i<n
  .go_wp2_with fail
   refine(HBY.out wr B.out i hlt).mono ?_;rintro e w4 ⟨rfl,hb4⟩;go_wp2_with fail
   refine(z8f none 0 0 w4 (by omega)).mono ?_;rintro e w5 ⟨rfl,hb5⟩;have q5:=B.out.trans ((hb4.trans (hb5.mono hb4.size)).mono B.out.size);have B5:Hid (Below w.heap.size w (w5.alloc (.cells #[.int .u64 0,.string (st [])] 154))):=q5.alloc q5.size _;rw [show zE0 none= .tuple #[.agg #[.int .u64 0,.string (st [])],.int .i64 0,.bool false]from rfl];clear hb4 hb5 q5;go_wp2_with fail
   go_roundw
   case rel=>exact⟨i+1,rfl,by go_num,by omega,B5⟩
   case measure=>simp [intOf];omega
  .obtain rfl:i=n:=by omega
   go_wp2_with fail
   go_ret
   exact⟨rfl,B.out⟩
structure O0(h h':Zn)(w wr:World)(a:Int)(n size last synced:Nat):Prop where
 lb:Lb wr w.heap.size h.g a n size (.slice none 0 0) (.slice none 0 0) last synced
 gp:Blk wr (w.heap.size+1) 118 #[.pointer (some ⟨w.heap.size,0,none⟩)]
 st:Stp h w h' wr
section
variable {h h1 h2:Zn} {w w1 w2:World} {D1:Dsk} {a:Int} {n size last synced m:Nat}
theorem O0.step(s:O0 h h1 w w1 a n size last synced)(d:Dk w1 h1 D1)(st:Stp h1 w1 h2 w2):O0 h h2 w w2 a n size last synced:=⟨st.lb d s.lb,st.blk d s.gp (by decide) (by decide),s.st.trans st⟩
theorem O0.later(s:O0 h h1 w w1 a n size last synced)(hb:Below w1.heap.size w1 w2):O0 h h1 w w2 a n size last synced:=⟨s.lb.later hb,s.gp.later hb,s.st.trans (Stp.below hb)⟩
theorem O0.put(s:O0 h h1 w w1 a n size last synced)(d:Dk w1 h1 D1):O0 h h1 w (w1.setCell ⟨w.heap.size,6,none⟩ (.int .u64 (m:Int))) a n size m synced/\Dk (w1.setCell ⟨w.heap.size,6,none⟩ (.int .u64 (m:Int))) h1 D1:=
 have hs:SameK [some 118] w1 (w1.setCell ⟨w.heap.size,6,none⟩ (.int .u64 (m:Int))):=SameK.setCell (p:=⟨w.heap.size,6,none⟩) s.lb (by decide) _
 ⟨⟨s.lb.put 6 _,s.gp.sameK hs (by decide),⟨s.st.g,s.st.turn.setCell (p:=⟨w.heap.size,6,none⟩) (.inr (y5 _)) _,s.st.has⟩⟩,d.same (SameK.setCell (p:=⟨w.heap.size,6,none⟩) s.lb (by decide) _)⟩
theorem O0.sync(s:O0 h h1 w w1 a n size last synced)(hl:Lb w2 w.heap.size h.g a n size (.slice none 0 0) (.slice none 0 0) last last)(m:Mtp h1 w.heap.size w1 h2 w2):Stp h w h2 w2:=by
 refine⟨m.g.trans s.st.g,s.st.turn.trans m.turn fun b hb=> ?_,fun b hb=> ?_⟩
 .rcases hb with hb|rfl
  .exact s.st.has b hb
  .exact .inr (y5 _)
 .rcases m.has b hb with h3|h3
  .exact s.st.has b h3
  .exact .inr (yD s.st.turn.size h3)
end
theorem zJg(h:Zn)(D:Dsk)(a:Int)(n size frm:Nat)(w:World)(hd:Dk w h D)(hok:D.Ok)(hf:∀x,D.view x=none)(hn2:2<=n)(hn:n<=64)(hs1:1<=size)(hs:size<=64)(h0:0<=a)(h1:a+(n:Int)*size<=65536)(hp:D.pend.length<=800000):
 Calls prog 73 #[.pointer (some ⟨h.g,0,none⟩),.int .i64 a,.int .i64 (n:Int),.int .i64 (size:Int),.int .u64 (frm:Int)] w fun e w'=>∃gl h',e= .returned (.tuple #[.pointer (some ⟨gl,0,none⟩),.slice none 0 0,.int .i64 0])/\
  Dk w' h' D.sync/\Lb w' gl h.g a n size (.slice none 0 0) (.slice none 0 0) frm frm/\w.heap.size<=gl/\Stp h w h' w':=by
 have HD:=zz hd;have HOK:=zz hok;have HF:=zz hf;have HP:=zz hp;have hmul:=z9a hn hs;have hw1:IntKind.i64.wrap ((n:Int)*size)=(n:Int)*size:=i64_in (by omega) (by omega);have hw2:IntKind.i64.wrap (65536-(n:Int)*size)=65536-(n:Int)*size:=i64_in (by omega) (by omega);clear hd hok hp hf;go_enter func73,ntmps73
 go_wp2_with fail
 have qa:Below w.heap.size w ((w.alloc (.cells (lgC h.g a n size (.slice none 0 0) (.slice none 0 0) frm 0) 208)).alloc (.cells #[.pointer (some ⟨w.heap.size,0,none⟩)] 118)):=((y7 _ _).alloc (y5 _) _).alloc (by simp) _;have OS:Hid (O0 h h w ((w.alloc (.cells (lgC h.g a n size (.slice none 0 0) (.slice none 0 0) frm 0) 208)).alloc (.cells #[.pointer (some ⟨w.heap.size,0,none⟩)] 118)) a n size frm 0):=⟨(Blk.new _ _ _).alloc _,by
  have:=Blk.new (w.alloc (.cells (lgC h.g a n size (.slice none 0 0) (.slice none 0 0) frm 0) 208)) 118 #[.pointer (some ⟨w.heap.size,0,none⟩)];simpa using this,Stp.below qa⟩
 have HD1:=zz (HD.out.later qa);clear qa;refine(zJf h D w.heap.size a n size (.slice none 0 0) (.slice none 0 0) frm 0 _ HD1.out HOK.out HF.out OS.out.lb hn hs1 hs h0 (by omega)).mono ?_;rintro e w2 ⟨rfl,hb2⟩;have OS2:=zz (OS.out.later hb2);have HD2:=zz (HD1.out.later hb2);clear hb2 OS HD1 hw1 hw2;go_wp2_with fail
 go_loopw [15,58] (fun fv kv wr=>fv= .int .i64 (-1)/\kv= .int .i64 0/\wr=w2) (fun _ _ _=>0)
 case atStart=>exact⟨rfl,rfl,rfl⟩
 case round=>
  obtain⟨rfl,rfl,rfl⟩:=hrel;go_wp2_with fail
  go_loopw [18,19] (fun ov nv wq=>ov= .slice none 0 0/\nv= .int .i64 (-1)/\wq=wr) (fun _ _ _=>0)
  case atStart=>exact⟨rfl,rfl,rfl⟩
  case round=>
   obtain⟨rfl,rfl,rfl⟩:=hrel;have g0:wr.cell? ⟨w.heap.size+1,0,none⟩=some (.pointer (some ⟨w.heap.size,0,none⟩)):=OS2.out.gp.cell 0;have l2:wr.cell? ⟨w.heap.size,2,none⟩=some (.int .i64 (n:Int)):=OS2.out.lb.cell 2;go_wp2_with fail
   clear g0 l2;go_loopw [118] (fun kv wq=>∃ (k:Nat) (h':Zn),kv= .int .i64 (k:Int)/\k<=n/\Hid (Dk wq h' D)/\Hid (O0 h h' w wq a n size frm 0)) (fun kv _=>n-(intOf kv).toNat)
   case atStart=>exact⟨0,h,rfl,yU _,HD2,OS2⟩
   case round=>
    obtain⟨k,h',rfl,hk,DK,OE⟩:=hrel;clear HD2 OS2;by_cases hlt:k<n
    .have g0:wr.cell? ⟨w.heap.size+1,0,none⟩=some (.pointer (some ⟨w.heap.size,0,none⟩)):=OE.out.gp.cell 0;go_wp2_with fail
     refine(z3M w.heap.size h.g a n size k (.slice none 0 0) (.slice none 0 0) frm 0 [] wr OE.out.lb Sl.nil).mono ?_;rintro e w4 ⟨rfl,hb4⟩;have OE4:=zz (OE.out.later hb4);have DK4:=zz (DK.out.later hb4);have g4:w4.cell? ⟨w.heap.size+1,0,none⟩=some (.pointer (some ⟨w.heap.size,0,none⟩)):=OE4.out.gp.cell 0;have HLB:Hid (Lb w4 w.heap.size h'.g a n size (.slice none 0 0) (.slice none 0 0) frm 0):=by rw [OE4.out.st.g];exact OE4.out.lb
     rw [show z2p [] k=false from rfl];clear hb4 OE DK g0;go_wp2_with fail
     refine(z8P h' D w.heap.size a n size k _ _ frm 0 w4 DK4.out HOK.out HLB.out hs (by omega) h0 (by omega) (by have:=HP.out;omega)).mono ?_;rintro e w5 ⟨rfl,h5,hd5,hs5⟩;rw [z8o HF.out]at hd5;have DK5:=zz hd5;have OE5:=zz (OE4.out.step DK4.out hs5);clear hd5 hs5;go_wp2_with fail
     go_roundw
     case rel=>exact⟨k+1,h5,by go_num,by omega,DK5,OE5⟩
     case measure=>simp [intOf];omega
    .obtain rfl:n=k:=by omega
     have OE2:Hid (O0 h h' w wr.drew a n size frm 0):=OE.out.later (below_drewN (y7 _ _) 1);have DK2:=zz (DK.out.later (below_drewN (y7 wr.heap.size wr) 1));have g0:wr.drew.cell? ⟨w.heap.size+1,0,none⟩=some (.pointer (some ⟨w.heap.size,0,none⟩)):=OE.out.gp.cell 0;have l6:wr.drew.cell? ⟨w.heap.size,6,none⟩=some (.int .u64 (frm:Int)):=OE.out.lb.cell 6;go_wp2_with fail
     go_still_tail 7,(by kernel_rfl)
     change wpList _ _ _ _ _ wr.drew;have DK3:Hid (Dk wr.drew h' D):=DK2.out;clear OE DK DK2;generalize wr.drew=w2 at*;have f6:=OE2.out.lb.free 6;have hmx2:¬frm<frm:=by omega
     have hmx4:max (frm:Int) (frm:Int)=(frm:Int):=by omega
     have OE3:=zz (OE2.out.put (m:=frm) DK3.out);go_wp2_with fail
     generalize w2.setCell _ _=W3 at*;clear g0 l6 f6 OE2 DK3;have g0:W3.cell? ⟨w.heap.size+1,0,none⟩=some (.pointer (some ⟨w.heap.size,0,none⟩)):=OE3.out.1.gp.cell 0;have HLB:Hid (Lb W3 w.heap.size h'.g a n size (.slice none 0 0) (.slice none 0 0) frm 0):=by rw [OE3.out.1.st.g];exact OE3.out.1.lb
     go_wp2_with fail
     refine(z8Q h' _ w.heap.size a n size _ _ frm 0 W3 OE3.out.2 HOK.out HLB.out).mono ?_;rintro e w6 ⟨rfl,h6,hd6,hl6,hm6⟩;rw [OE3.out.1.st.g]at hl6;have g6:w6.cell? ⟨w.heap.size+1,0,none⟩=some (.pointer (some ⟨w.heap.size,0,none⟩)):=by
      have hs:SameK [some 118] W3 w6:=hm6.sameL OE3.out.2 HLB.out (by decide) (by decide) (by decide) (by decide);exact(OE3.out.1.gp.sameK hs (by decide)).cell 0
     have HST:=zz (OE3.out.1.sync hl6 hm6);have HL6:=zz hl6;have DK6:=zz hd6;clear hd6 hl6 hm6 g0 OE3 HLB;go_wp2_with fail
     go_ret3
     exact⟨_,h6,rfl,DK6.out,HL6.out,y5 _,HST.out⟩
end
end Go.Proofs.YthnlcbamjehpdaaGreatDoor
