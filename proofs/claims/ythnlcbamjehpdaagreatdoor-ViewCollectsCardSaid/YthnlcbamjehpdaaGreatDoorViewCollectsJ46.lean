/- Part 46. -/
import Derived.Test.YthnlcbamjehpdaaGreatDoorViewCollectsJ45
namespace Go.Proofs.YthnlcbamjehpdaaGreatDoor
set_option linter.unusedVariables false
set_option maxHeartbeats 16000000
set_option maxRecDepth 100000
section
open Go Go.RowKit Tryz
def zGd(m:Nat)(o:Option (List UInt8)):Value:=if m=0 then .tuple #[.string (st (o.getD [])),.int .i64 (if o.isSome then 0 else 161)]else .tuple #[.string (st []),.int .i64 (m:Int)]
theorem z9j{w:World}{gv gs g:Nat}{l:List Rw}{tl:List Cel}{last hor:Nat}(h:Vv w gv gs g l tl last hor)(hl:last<U64)(key:List UInt8)(hk:key.length<=9223372036854775807)(t:Nat){pg:Nat}(hpg:gv=pg):
 Calls prog 27 #[.pointer (some ⟨pg,0,none⟩),.string (st key),.int .u64 (t:Int)] w fun e w'=>e= .returned (zGd (zAM last hor t) (z82 (z1Y l key) t))/\Below w.heap.size w w':=by
 subst hpg;have HM:=zz (z9l t h.blk);have HR:Hid (zAM last hor t=0->Calls prog 49 #[.pointer (some ⟨gv,0,none⟩),.string (st key),.int .u64 (t:Int)] w fun e w'=>e= .returned (zAe (z82 (z1Y l key) t))/\Below w.heap.size w w'):=fun h0=>zAq h key hk t (by unfold zAM at h0;split at h0;cases h0;omega) rfl
 unfold zGd;generalize zAM last hor t=m at*;generalize z82 (z1Y l key) t=o at*;clear h hl;by_cases h0:m=0
 .subst h0;have hR:=HR.out rfl;rw [yB rfl];clear HR;cases o with
  |none=>
   have hR2:=zz hR;clear hR;go_enter func27,ntmps27
   go_wp2_with fail
   refine HM.out.mono ?_;rintro e w1 ⟨rfl,rfl⟩;go_wp2_with fail
   refine hR2.out.mono ?_;rintro e w2 ⟨rfl,hb2⟩;unfold zAe;go_wp2_with fail
   go_ret2
   exact⟨rfl,hb2⟩
  |some v=>
   have hR2:=zz hR;clear hR;go_enter func27,ntmps27
   go_wp2_with fail
   refine HM.out.mono ?_;rintro e w1 ⟨rfl,rfl⟩;go_wp2_with fail
   refine hR2.out.mono ?_;rintro e w2 ⟨rfl,hb2⟩;unfold zAe;go_wp2_with fail
   go_ret2
   exact⟨rfl,hb2⟩
 .have e1:((m:Int) != 0)=true:=by rw [Yn];omega
  rw [yA h0];clear HR h0;go_enter func27,ntmps27
  go_wp2_with fail
  refine HM.out.mono ?_;rintro e w1 ⟨rfl,rfl⟩;go_wp2_with fail
  go_ret2
  exact⟨rfl,y7 _ _⟩
theorem zBs{w:World}{gv:Nat}{u0:Value}{last hor:Nat}(hb:Blk w gv 99 #[u0,.int .u64 (last:Int),.int .u64 (hor:Int)])(at_:Nat)(many:Int)(hm:zAM last hor at_≠0){pg:Nat}(hpg:gv=pg):
 Calls prog 15 #[.pointer (some ⟨pg,0,none⟩),.int .u64 (at_:Int),.int .i64 many] w fun e w'=>e= .returned (.tuple #[.int .i64 0,.int .i64 (zAM last hor at_:Int)])/\Below w.heap.size w w':=by
 subst hpg;have q0:Below w.heap.size w ((w.alloc (.cells #[.int .u64 (at_:Int)] 27)).alloc (.cells #[.int .i64 many] 3)):=((y7 _ _).alloc (y5 _) _).alloc (by simp) _;have hba:Blk ((w.alloc (.cells #[.int .u64 (at_:Int)] 27)).alloc (.cells #[.int .i64 many] 3)) w.heap.size 27 #[.int .u64 (at_:Int)]:=(Blk.new _ _ _).alloc _;have hM:=z9l at_ (hb.later q0);generalize zAM last hor at_=m at*;have e1:((m:Int) != 0)=true:=by rw [Yn];omega
 have HM:=zz hM;have HQ:=zz q0;clear hb hm hM q0;go_enter func15,ntmps15
 go_upto_region 1 with(fail)
 generalize hW:((w.alloc (.cells #[.int .u64 (at_:Int)] 27)).alloc (.cells #[.int .i64 many] 3))=W at*;clear hW;have a0:W.cell? ⟨w.heap.size,0,none⟩=some (.int .u64 (at_:Int)):=hba.cell 0;clear hba;go_wp2_with fail
 refine HM.out.mono ?_;rintro e w1 ⟨rfl,rfl⟩;go_wp2_with fail
 go_ret2
 exact⟨rfl,HQ.out⟩
theorem zCn:∀ {l:List Rw},RowsOk l->l.length<=(z0x l).length
 | [],_=>y5 _
 |r::l,h=>by
  have ih:=zCn h.tail;have e:z0x (r::l)=rwC r++z0x l:=by unfold z0x;rw [yb]
  have h0:=ZO.2 (zG1 (h.rw r (by simp)));rw [e,y6,y8];omega
theorem zI3(l:List Rw)(t:Nat):(z2x l t).length<=l.length:=List.length_filterMap_le _ _
theorem zE3{l:List Rw}{i:Nat}(hi:i<l.length)(t:Nat):z2x (l.take (i+1)) t=z2x (l.take i) t++(match z82 l[i].vs t with|none=> []|some v=> [(l[i].k,v)]):=by
 rw [yO hi];unfold z2x;rw [List.filterMap_append,QR];cases z82 l[i].vs t<;>rfl
def zH8(R:List Cel)(w:World)(e:Ending)(w':World):Prop:=∃A c,e= .returned (.tuple #[.slice A R.length c,.int .i64 0])/\Cs (fun b=>w.heap.size<=b/\b<w'.heap.size) w' (.slice A R.length c) R/\Below w.heap.size w w'
structure ScanS(W wr:World)(sv:Value)(rows:List Rw)(t i:Nat):Prop where
 own:Co wr W.heap.size sv (z2x (rows.take i) t)
 below:Below W.heap.size W wr
theorem ScanS.later{W wr wr':World}{sv:Value}{rows:List Rw}{t i:Nat}(h:ScanS W wr sv rows t i)(hb:Below wr.heap.size wr wr'):ScanS W wr' sv rows t i:=⟨z17 h.own hb,h.below.trans (hb.mono h.below.size)⟩
theorem ScanS.push{W w4 w5:World}{sv sv':Value}{rows:List Rw}{t i:Nat}{o:Obj}{c:Cel}(h:ScanS W w4 sv rows t i)(hn:z2x (rows.take (i+1)) t=z2x (rows.take i) t++ [c])(hown:w5.ownsRow W.heap.size 94 2 sv' ((z2x (rows.take i) t).length+1) (ccs (z2x (rows.take i) t)++ [.string (st c.1),.string (st c.2)]))(hg:(w4.alloc o).grownBy w5 sv.ownBlock):ScanS W w5 sv' rows t (i+1):=by
 have hz:=h.below.size;refine⟨?_,z01 (h.below.alloc hz _) (YC h.own _) hg (by simp;omega)⟩;rw [hn];unfold Co;rw [y6,z19];exact hown
theorem z4B{w:World}{gv gs g:Nat}{rows:List Rw}{tl:List Cel}{last hor:Nat}(h:Vv w gv gs g rows tl last hor)(hfew:(z0x rows).length<=100000)(hl:last<U64)(t:Nat)(h1:hor<=t)(h2:t<=last){pg:Nat}(hpg:gv=pg):
 Calls prog 18 #[.pointer (some ⟨pg,0,none⟩),.agg #[.string (st []),.string (st []),.bool true,.bool false,.int .i64 (-1)],.int .u64 (t:Int)] w (zH8 (z2x rows t) w):=by
 subst hpg;have HOK:=zz h.ok;have hrl:=yD (zCn h.ok) hfew;have q0:Below w.heap.size w (w.alloc (.cells #[.string (st []),.string (st []),.bool true,.bool false,.int .i64 (-1)] 57)):=(y7 _ _).alloc (y5 _) _;have hbx:=Blk.new w 57 #[.string (st []),.string (st []),.bool true,.bool false,.int .i64 (-1)];have HV:=zz (h.later q0);have HQ:=zz q0;have HBX:=zz hbx;clear h hfew q0 hbx;go_enter func18,ntmps18
 go_upto_region 1 with(fail)
 have HZ:Hid (w.heap.size<=(w.alloc (.cells #[.string (st []),.string (st []),.bool true,.bool false,.int .i64 (-1)] 57)).heap.size):=HQ.out.size;generalize hW:w.alloc (.cells #[.string (st []),.string (st []),.bool true,.bool false,.int .i64 (-1)] 57)=W at*;clear hW;have HAH:Hid (∀ {wg:World},Below W.heap.size W wg->∀ (key:List UInt8),key.length<=1000->Calls prog 46 #[.pointer (some ⟨gv,0,none⟩),.string (st key)] wg fun e w'=>e= .returned (zC9 (z3v rows key))/\Below wg.heap.size wg w'):=fun {wg} hb key hk=>z8m (HV.out.later hb) key (by omega) rfl
 have HRD:Hid (∀ {wg:World},Below W.heap.size W wg->∀ (i:Nat) (hi:i<rows.length),Calls prog 49 #[.pointer (some ⟨gv,0,none⟩),.string (st rows[i].k),.int .u64 (t:Int)] wg fun e w'=>e= .returned (zAe (z82 rows[i].vs t))/\Below wg.heap.size wg w'):=fun {wg} hb i hi=>by
  have hmem:rows[i]∈rows:=yQ hi;have h3:=zAq (HV.out.later hb) rows[i].k (by have:=(HOK.out.rw _ hmem).k64;omega) t (by omega) rfl;rw [z5Q HOK.out hmem]at h3;exact h3
 have HMAY:=zz (zGg HV.out.blk h1 h2);have x0:(W).cell? ⟨w.heap.size,0,none⟩=some (.string (st [])):=HBX.out.cell 0;have x1:(W).cell? ⟨w.heap.size,1,none⟩=some (.string (st [])):=HBX.out.cell 1;have x2:(W).cell? ⟨w.heap.size,2,none⟩=some (.bool true):=HBX.out.cell 2;have x3:(W).cell? ⟨w.heap.size,3,none⟩=some (.bool false):=HBX.out.cell 3;have x4:(W).cell? ⟨w.heap.size,4,none⟩=some (.int .i64 (-1)):=HBX.out.cell 4;clear h1 h2;go_wp2_with fail
 refine HMAY.out.mono ?_;rintro e w0 ⟨rfl,rfl⟩;go_wp2_with fail
 refine(HAH.out (y7 _ _) [] (by simp)).mono ?_;rintro e w1 ⟨he,hb1⟩;rw [z8A HOK.out]at he;obtain⟨key0,ok0,hav,hkc⟩:=z3G (m:=rows) (j:=0);rw [hav]at he;obtain rfl:=he;have R0:Hid (ScanS w0 w1 (.slice none 0 0) rows t 0):=⟨Co.nil _ _,hb1⟩;clear hb1 hav HMAY x0 x1 x2 x3 x4;go_wp2_with fail
 go_loopw [10,11,12] (fun kv bv sv wr=>∃ (i:Nat) (A:Option Addr) (c n:Nat) (key:List UInt8) (ok:Bool),kv= .string (st key)/\bv= .bool ok/\sv= .slice A n c/\((ok=true/\∃h:i<rows.length,key=rows[i].k)∨(ok=false/\rows.length<=i))/\Hid (ScanS w0 wr (.slice A n c) rows t i)) (fun kv bv _ _=>zJN rows kv bv)
 case atStart=>exact⟨0,none,0,0,key0,ok0,rfl,rfl,rfl,hkc,R0⟩
 case round=>
  clear R0;obtain⟨i,A,c,n,key,ok,rfl,rfl,rfl,hkc,RR⟩:=hrel;have HST:=zz RR.out;have hbx:=HBX.out.later RR.out.below;have x0:(wr).cell? ⟨w.heap.size,0,none⟩=some (.string (st [])):=hbx.cell 0;have x1:(wr).cell? ⟨w.heap.size,1,none⟩=some (.string (st [])):=hbx.cell 1;have x2:(wr).cell? ⟨w.heap.size,2,none⟩=some (.bool true):=hbx.cell 2;have x3:(wr).cell? ⟨w.heap.size,3,none⟩=some (.bool false):=hbx.cell 3;have x4:(wr).cell? ⟨w.heap.size,4,none⟩=some (.int .i64 (-1)):=hbx.cell 4;clear RR hbx;cases ok with
  |false=>
   have hil:rows.length<=i:=by
    rcases hkc with⟨h,_⟩|⟨_,h⟩
    .cases h
    .exact h
   have HF:Hid (n=(z2x rows t).length/\Cs (fun b=>w.heap.size<=b/\b<wr.heap.size) wr (.slice A n c) (z2x rows t)):=by
    have h3:=HST.out.own;rw [ya hil]at h3;exact⟨z0h h3,h3.cs.more fun b hb=>⟨yD HZ.out hb.1,hb.2⟩⟩
   have HB:=zz HST.out.below;clear HST hkc;go_wp2_with fail
   go_ret2
   obtain⟨rfl,hf⟩:=HF.out;exact⟨A,c,rfl,hf,HQ.out.trans (HB.out.mono HZ.out)⟩
  |true=>
   obtain⟨hil,rfl⟩:∃h:i<rows.length,key=rows[i].k:=by
    rcases hkc with⟨_,h⟩|⟨h,_⟩
    .exact h
    .cases h
   have hmem:rows[i]∈rows:=yQ hil;have hro:=HOK.out.rw _ hmem;have HRR:=zz (HRD.out HST.out.below i hil);have HM:=zz (z5B HOK.out hil);have HNX:=zz (zE3 hil t);have HAR:=zz (z9v HOK.out hil);have hln:n<=100000:=by
    have h3:=z0h HST.out.own;have h4:=zI3 (rows.take i) t;rw [yC]at h4;omega
   have hk64:=hro.k64;have hge:Op.bytesLess rows[i].k []=false:=by cases hk:rows[i].k<;>simp [Op.bytesLess]
   obtain⟨o,ho⟩:∃o,z82 rows[i].vs t=o:=⟨_,rfl⟩;rw [ho]at HRR HNX;obtain⟨k,hk⟩:∃k,rows[i].k=k:=⟨_,rfl⟩;have HK:=zz hk;rw [hk]at HRR HNX HAR HM hk64 hge ⊢;unfold zAe at HRR;clear hkc hmem hro ho hk;cases o with
   |none=>
    go_wp2_with fail
    refine HRR.out.mono ?_;rintro e w5 ⟨rfl,hb5⟩;have HS5:Hid (ScanS w0 w5 (.slice A n c) rows t (i+1)):=by
     have h3:=HST.out.later hb5;refine⟨?_,h3.below⟩;rw [HNX.out];simp only [yf];exact h3.own
    clear hb5 HST HRR HNX x0 x1 x2 x3 x4;have x3:w5.cell? ⟨w.heap.size,3,none⟩=some (.bool false):=(HBX.out.later HS5.out.below).cell 3;go_wp2_with fail
    refine(z71 k w5 (by omega)).mono ?_;rintro e w6 ⟨rfl,rfl⟩;go_wp2_with fail
    refine(HAH.out HS5.out.below (k++ [0]) (by simp;omega)).mono ?_;rintro e w7 ⟨he,hb7⟩;rw [HAR.out]at he;obtain⟨key1,ok1,hav1,hkc1⟩:=z3G (m:=rows) (j:=i+1);rw [hav1]at he;obtain rfl:=he;have RF:=zz (HS5.out.later hb7);clear hb7 hav1 HS5 x3;go_wp2_with fail
    go_roundw
    case rel=>exact⟨i+1,A,c,n,key1,ok1,rfl,rfl,rfl,hkc1,RF⟩
    case measure=>
     rw [HM.out];rcases hkc1 with⟨rfl,h5,rfl⟩|⟨rfl,h5⟩
     .rw [z5B HOK.out h5];omega
     .show 0<_;omega
   |some v=>
    go_wp2_with fail
    refine HRR.out.mono ?_;rintro e w4 ⟨rfl,hb4⟩;have hs4:=HST.out.later hb4;have HS4:=zz hs4;have hz4:w0.heap.size<=w4.heap.size:=hs4.below.size;have hnl:=z0h hs4.own;have hsl:(z2x (rows.take i) t).length<=100000:=by rw [<-hnl];exact hln
    clear hb4 HST HRR hs4 hnl x0 x1 x2 x3 x4;go_wp2_with (at_builtin;go_loud (refine z0A _ rfl (.tmp 84) (.tmp 88) elemCel rfl (YC HS4.out.own _) (Sl.newcel (S:=fun _=>True) _ (k,v) rfl trivial) rfl rfl (z2b _) (by simp only [maxLen];omega) (by omega) (by simp;omega) ?_);intro A5 k5 c5 w5 hown5 hg5 hat5;have HS5:=zz (ScanS.push HS4.out HNX.out hown5 hg5);have x3:w5.cell? ⟨w.heap.size,3,none⟩=some (.bool false):=(HBX.out.later HS5.out.below).cell 3)
    clear hown5 hg5 hat5 HS4 HNX hln hsl;go_wp2_with fail
    refine(z71 k w5 (by omega)).mono ?_;rintro e w6 ⟨rfl,rfl⟩;go_wp2_with fail
    refine(HAH.out HS5.out.below (k++ [0]) (by simp;omega)).mono ?_;rintro e w7 ⟨he,hb7⟩;rw [HAR.out]at he;obtain⟨key1,ok1,hav1,hkc1⟩:=z3G (m:=rows) (j:=i+1);rw [hav1]at he;obtain rfl:=he;have RF:=zz (HS5.out.later hb7);clear hb7 hav1 HS5 x3;go_wp2_with fail
    go_roundw
    case rel=>exact⟨i+1,A5,c5,k5,key1,ok1,rfl,rfl,rfl,hkc1,RF⟩
    case measure=>
     rw [HM.out];rcases hkc1 with⟨rfl,h5,rfl⟩|⟨rfl,h5⟩
     .rw [z5B HOK.out h5];omega
     .show 0<_;omega
end
end Go.Proofs.YthnlcbamjehpdaaGreatDoor
