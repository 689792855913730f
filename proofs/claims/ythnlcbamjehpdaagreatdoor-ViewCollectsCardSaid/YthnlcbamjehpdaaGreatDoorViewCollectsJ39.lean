/- Part 39. -/
import Derived.Test.YthnlcbamjehpdaaGreatDoorViewCollectsJ38
namespace Go.Proofs.YthnlcbamjehpdaaGreatDoor
set_option linter.unusedVariables false
set_option maxHeartbeats 16000000
set_option maxRecDepth 100000
section
open Go Go.RowKit Tryz
theorem zE9(S:Nat->Prop)(u:Und)(leaf:Bool)(n:Nat)(v0:Value)(cs:List Cel)(w:World)(hi:InI u.id)(hr:Cs S w v0 cs)(hlf:leaf=true)(hcs:cs= []):
 Calls prog 143 #[undV u,.agg #[.bool leaf,.int .i64 (n:Int),v0]] w (FiPost (z99 u (leaf,n,cs)) w):=by
 subst hlf hcs;obtain⟨uid,ud,uf,ut,uo⟩:=u;unfold undV;simp only at hi ⊢;obtain⟨A,c0,rfl,_⟩:=hr.at;have HQ:=zz (((y7 w.heap.size w).alloc (y5 _) (.cells #[.int .i64 uid,.int .i64 (ud:Int),.string (st uf),.string (st ut),.bool uo] 257)).alloc (by simp) (.cells #[.bool true,.int .i64 (n:Int),.slice A 0 c0] 175));clear hr;by_cases h0:0<uid
 .have hfit:z99 ⟨uid,ud,uf,ut,uo⟩ (true,n,[])=false:=by unfold z99;simp [h0]
  rw [hfit];go_enter func143,ntmps143
  go_wp2_with fail
  go_ret
  exact⟨rfl,HQ.out⟩
 .have hfit:z99 ⟨uid,ud,uf,ut,uo⟩ (true,n,[])=true:=by unfold z99;simp only;rw [yA (by simp [h0])]
  rw [hfit];have h1:decide (0<uid)=false:=yZ h0;go_enter func143,ntmps143
  go_wp2_with fail
  go_ret
  exact⟨rfl,HQ.out⟩
theorem zDp(h:Zn)(D:Dsk)(a:Int)(n:Nat)(w:World)(hd:Dk w h D)(hok:D.Ok)(hpl:pgPl a (n:Int))(hz0:(z1q D.view a).1=0):
 Calls prog 71 #[.pointer (some ⟨h.g,0,none⟩),.int .i64 a,.int .i64 (n:Int)] w (PoPost h D a n w):=by
 have hmm:= @run_makeMap prog;obtain⟨h2,h256,ha0,ha1⟩:=hpl;have HD:=zz hd;have HOK:=zz hok;have HPO:Hid (z8Y D a n=if(z1q D.view a).1=0 then some (z20 D a n 0 (z1q D.view a).2.1 (0,fun _=>none))else(zFg n (z1q D.view a).2.2).map (z20 D a n (z1q D.view a).1 (z1q D.view a).2.1)):=rfl;clear hd hok;go_enter func71,ntmps71
 go_wp2_with fail
 refine(zFV h D a w HD.out HOK.out ha0 (by omega)).mono ?_;rintro e w1 ⟨gm,rfl,hm,hg,q1⟩;have hbl:=zDg D.view a;obtain⟨T,hT⟩:∃T,z1q D.view a=T:=⟨_,rfl⟩;rw [hT]at hm hbl HPO hz0 ⊢;clear hT;obtain⟨num,last,body⟩:=T;simp only at hm hbl HPO hz0 ⊢;have HP:=zz (Pg.made n (HD.out.later q1) hm);have hs1:=q1.size;have hgl:=hm.blk.lt;have Q2:=zz (q1.trans (((((((y7 w1.heap.size w1).alloc (y5 _) (.map #[] 0)).alloc (by simp) (.map #[] 0)).alloc (by simp;omega) (.map #[] 0)).alloc (by simp;omega) (.cells #[.pointer (some ⟨h.g,0,none⟩),.pointer (some ⟨gm,0,none⟩),.int .i64 a,.int .i64 (n:Int),.int .u64 0,.map (some w1.heap.size),.map (some (w1.heap.size+1)),.map (some (w1.heap.size+1+1))] 199))).mono hs1));have HN:Hid (∀b,(⟨w1.heap.size+1+1+1,gm,w1.heap.size,w1.heap.size+1,w1.heap.size+1+1,h⟩:Pz).has b->h.has b∨w.heap.size<=b):=fun b hb=>by
  rcases hb with h|h|h|h|h|h<;>first|exact .inl h|(right;simp only at h;omega)
 clear hm hg q1;by_cases h0:num=0
 .subst h0;have HE:Hid (z8Y D a n=some (z20 D a n 0 last (0,fun _=>none))):=by rw [Hid,HPO.out,yB rfl]
  have e121:zJp (0,last,body)=121:=rfl;rw [e121];go_wp2_with fail
  go_ret2
  exact⟨.inl ⟨_,_,HE.out,rfl,HP.out,rfl,by show 0<U64;unfold U64;omega,HN.out⟩,Q2.out⟩
 .exact absurd hz0 h0
theorem zBp(g:Nat)(Z:Pz)(P:Pgr)(c:Int->List UInt8)(w:World)(ht:Tg w g Z P c)(H0:∀i x,P.pg c i=some x->x.1=true/\x.2.2= []):
 Calls prog 106 #[.pointer (some ⟨g,0,none⟩)] w (zJ8 (zHI (P.pg c) P.pages.length) w):=by
 have HT:=zz ht;have HH0:=zz H0;have HPF:=zz ht.hpf;have hmm:= @run_makeMap prog;have k0:=CkOk.start (P.pg c);have hC:=chkT_F (P.pg c) P.pages.length;have S0:Hid (CkSt w ((w.alloc (.cells #[.int .i64 0,.int .i64 0,.string ⟨#[]⟩,.string ⟨#[]⟩,.bool true] 257)).alloc (.map #[] 0)) (w.heap.size+1) (.slice (some ⟨w.heap.size,0,none⟩) 1 1) (.slice none 0 0) (.slice none 0 0) [zGX] ⟨[],[],0⟩):=by
  have hm:=MpV.made prog 3 (w.alloc (.cells #[.int .i64 0,.int .i64 0,.string ⟨#[]⟩,.string ⟨#[]⟩,.bool true] 257));have e:(w.alloc (.cells #[.int .i64 0,.int .i64 0,.string ⟨#[]⟩,.string ⟨#[]⟩,.bool true] 257)).heap.size=w.heap.size+1:=by simp
  rw [e]at hm;exact⟨YC (z7E w w.heap.size 257 (unC zGX) rfl (y5 _)) _,⟨[],rfl,Ya _ _ _ _,fun u h=>(by cases h)⟩,Ya _ _ _ _,⟨_,hm,fun a _=>rfl⟩,((y7 _ _).alloc (y5 _) _).alloc (by simp) _⟩
 generalize z25 (P.pg c) 91 [zGX] ⟨[],[],0⟩=F at*;generalize zHI (P.pg c) P.pages.length=B at*;have K0:=zz k0;have HC:=zz hC;clear ht k0 hC H0;go_enter func106,ntmps106
 go_wp2_with fail
 go_loopw [3,4,5,7] (fun tv lv iv dv wr=>∃ (At Al Ai:Option Addr) (ct cl ci:Nat) (td:List Und) (s:ChT) (k:Nat),tv= .slice At td.length ct/\lv= .slice Al s.leaves.length cl/\iv= .slice Ai s.leaves.length ci/\dv= .int .i64 (s.depth:Int)/\
  Hid (CkSt w wr (w.heap.size+1) (.slice At td.length ct) (.slice Al s.leaves.length cl) (.slice Ai s.leaves.length ci) td s)/\Hid (CkOk (P.pg c) td s k F)) (fun tv lv iv dv wr=>91-zHi wr (w.heap.size+1))
 case atStart=>exact⟨_,none,none,1,0,0,[zGX],⟨[],[],0⟩,91,rfl,rfl,rfl,rfl,S0,K0⟩
 case round=>
  clear S0 K0;obtain⟨At,Al,Ai,ct,cl,ci,td,s,k,rfl,rfl,rfl,rfl,S,K⟩:=hrel;cases td with
  |nil=>
   have hF:=K.out.done;subst hF;have hs9:=z9Z K.out.nod K.out.pgs;have hl9:=K.out.lvn;have HLV:=zz K.out.lvs;rw [yW]at S ⊢;have R1:Hid (∀j,j<0->z8T s.leaves j):=fun j hj=>absurd hj (Nat.not_lt_zero _)
   go_wp2_with fail
   go_loopw [136] (fun iv wr=>∃i:Nat,iv= .int .i64 (i:Int)/\i<=s.leaves.length/\Hid (∀j,j<i->z8T s.leaves j)/\Hid (CkSt w wr (w.heap.size+1) (.slice At 0 ct) (.slice Al s.leaves.length cl) (.slice Ai s.leaves.length ci) [] s)) (fun iv _=>s.leaves.length-(intOf iv).toNat)
   case atStart=>exact⟨0,rfl,yU _,R1,S⟩
   case round=>
    clear R1 S;obtain⟨i,rfl,hi,R1,S⟩:=hrel;by_cases hlt:i<s.leaves.length
    .obtain⟨us,hus1,hus2,hus3⟩:=S.out.lv;obtain⟨gl,rfl⟩:∃gl,Al=some ⟨gl,0,none⟩:=by
      rcases hus2.2 with⟨_,h0⟩|⟨gl,_,_,hv,_⟩
      .omega
      .injection hv with h1;exact⟨gl,h1⟩
     obtain⟨y,hy⟩:∃y,s.leaves[i]=y:=⟨_,rfl⟩;obtain⟨yi,yl,yn,yc⟩:=y;have hui:i<us.length:=by omega
     obtain⟨u,hu⟩:∃u,us[i]=u:=⟨_,rfl⟩;have hget:∀j v,([.bool yl,.int .i64 (yn:Int),u]:List Value)[j]? =some v->(lfC (s.leaves.zip us))[i*3+j]? =some v:=zJc hlt hui hy hu;have p0:wr.cell? ⟨gl,i*3,none⟩=some (.bool yl):=z4Q hus2 (hget 0 _ rfl);have p1:wr.cell? ⟨gl,i*3+1,none⟩=some (.int .i64 (yn:Int)):=z4Q hus2 (hget 1 _ rfl);have p2:wr.cell? ⟨gl,i*3+2,none⟩=some u:=z4Q hus2 (hget 2 _ rfl);obtain⟨uA,uk,uc,rfl⟩:=hus3 u (hu▸yQ hui);have hi0:(0:Int)<=(i:Int):=by omega
     have hi1:(i:Int)<(s.leaves.length:Int):=by omega
     clear hget hus1 hus2 hus3 hu hui;have HY:=zz hy;clear hy;go_upto_region 27 with(fail)
     have q1:=(y7 wr.heap.size wr).alloc (y5 _) (.cells #[.bool yl,.int .i64 (yn:Int),.slice uA uk uc] 175);have S1:=zz (S.out.later q1);have B1:=zz (Blk.new wr 175 #[.bool yl,.int .i64 (yn:Int),.slice uA uk uc]);have hids:=S1.out.ids;obtain⟨gi,rfl,hci,hcm⟩:∃gi,Ai=some ⟨gi,0,none⟩/\s.leaves.length<=ci/\ci<=maxLen:=by
      rcases hids.2 with⟨_,h0⟩|⟨gi,cap,cur,hv,_,_,h5,h6,_⟩
      .omega
      .injection hv with h1 _ h3
       exact⟨gi,h1,h3▸h5,h3▸h6⟩
     have HI:=zz hids;have hN1:1<=s.leaves.length:=by omega
     have hidc:(idC s.leaves).length=s.leaves.length:=by unfold idC;simp
     obtain⟨ii,hii,hz,hsz,hby⟩:=elemIntT.info;have HII:=zz hii;have HZ:=zz hz;have HSZ:=zz hsz;have HBY:=zz hby;have hdl:((idC s.leaves).drop 1).length=s.leaves.length-1:=by rw [yI,hidc]
     have HDL:=zz hdl;have HIDC:=zz hidc;have HCM:Hid (s.leaves.length<=90):=by show s.leaves.length<=90;omega
     have HQ1:=zz (yD S1.out.below.size (y5 _));unfold maxLen at hcm;clear p0 p1 p2 q1 hids hii hz hsz hby hdl hidc;generalize wr.alloc (.cells #[.bool yl,.int .i64 (yn:Int),.slice uA uk uc] 175)=W1 at*;obtain⟨nx,hnx⟩:∃nx,(((s.leaves.map (·.1)).drop 1++ [0])[i]?).getD 0=nx:=⟨_,rfl⟩;have HNXT:Hid (((idC s.leaves).drop 1++([.int .i64 0]:List Value))[i]? =some (.int .i64 nx)):=by
      rw [Hid,<-hnx];exact zJT hlt
     have HNN:Hid (s.leaves.length-1+1=s.leaves.length):=by show s.leaves.length-1+1=s.leaves.length;omega
     have HOK:Hid (z8T s.leaves i↔(yn:Int)=nx):=by
      rw [Hid,<-hnx];unfold z8T;rw [yK hlt,HY.out];constructor
      .exact fun h=>h _ rfl
      .intro h x hx;obtain rfl:=YF hx;exact h
     clear hnx;have HWR:=zz S.out.below.size;by_cases hq:(yn:Int)=nx
     .have hq1:((yn:Int)==nx)=true:=by rw [Z9];exact hq
      have hok:=HOK.out.2 hq;have R2:Hid (∀j,j<i+1->z8T s.leaves j):=fun j hj=>by
       rcases Y5 j i with h|h
       .exact R1.out j h
       .obtain rfl:j=i:=by omega
        exact hok
      clear hq hok;go_wp2_with (first|(refine z3V _ rfl (.tmp 141) (.const (.int .i64 1)) (.tmp 143) (.tmp 145) elemIntT rfl rfl rfl rfl rfl hN1 hci HIDC.out (fun j u hj=>z4Q HI.out hj) ?_;intro ab hab)|(at_builtin;refine wpList_append_grows _ rfl (.tmp 146) (.tmp 147) 203 rfl 3 ii _ 1 8 elemIntT.under HII.out HZ.out HSZ.out HBY.out elemIntT.cells (by omega) (some ab) (s.leaves.length-1) (s.leaves.length-1) ((idC s.leaves).drop 1) rfl (fun h=>by cases h) (by rw [HDL.out];omega) (zAU hab) ⟨W1.heap.size,0,none⟩ 1 1 [.int .i64 0] rfl rfl (zAQ _ _ _) (by intro y hy;simp at hy;subst hy;rfl) (by omega) (by have:=HCM.out;simp only [maxLen];omega) (by have:=HCM.out;omega) ?_;intro v9 w9 hown9 hg9;rw [HNN.out]at hown9;obtain⟨g9,c9,rfl,hcell9⟩:=zIw hown9 hN1;have hcell9i:=hcell9 i _ HNXT.out;have p91:w9.cell? ⟨wr.heap.size,1,none⟩=some (.int .i64 (yn:Int)):=((B1.out.alloc _).grown hg9 (by simp)).cell 1;clear hcell9))
      have S9:=zz ((S1.out.later ((y7 _ _).alloc (y5 _) _)).later (z2D hg9));clear hown9 hg9;go_roundw
      case rel=>exact⟨i+1,by go_num,by omega,R2,S9⟩
      case measure=>simp [intOf];omega
     .have hq1:((yn:Int)==nx)=false:=yV.2 hq;have hch:z2d s.leaves=false:=by
       cases hc:z2d s.leaves with
       |false=>rfl
       |true=>exact absurd (HOK.out.1 ((z4m _).1 hc i hlt)) hq
      have HCH:=zz hch;clear hq hch;go_wp2_with (first|(refine z3V _ rfl (.tmp 141) (.const (.int .i64 1)) (.tmp 143) (.tmp 145) elemIntT rfl rfl rfl rfl rfl hN1 hci HIDC.out (fun j u hj=>z4Q HI.out hj) ?_;intro ab hab)|(at_builtin;refine wpList_append_grows _ rfl (.tmp 146) (.tmp 147) 203 rfl 3 ii _ 1 8 elemIntT.under HII.out HZ.out HSZ.out HBY.out elemIntT.cells (by omega) (some ab) (s.leaves.length-1) (s.leaves.length-1) ((idC s.leaves).drop 1) rfl (fun h=>by cases h) (by rw [HDL.out];omega) (zAU hab) ⟨W1.heap.size,0,none⟩ 1 1 [.int .i64 0] rfl rfl (zAQ _ _ _) (by intro y hy;simp at hy;subst hy;rfl) (by omega) (by have:=HCM.out;simp only [maxLen];omega) (by have:=HCM.out;omega) ?_;intro v9 w9 hown9 hg9;rw [HNN.out]at hown9;obtain⟨g9,c9,rfl,hcell9⟩:=zIw hown9 hN1;have hcell9i:=hcell9 i _ HNXT.out;have p91:w9.cell? ⟨wr.heap.size,1,none⟩=some (.int .i64 (yn:Int)):=((B1.out.alloc _).grown hg9 (by simp)).cell 1;clear hcell9))
      have S9:=zz ((S1.out.later ((y7 _ _).alloc (y5 _) _)).later (z2D hg9));clear hown9 hg9;go_ret
      refine⟨?_,S9.out.below⟩;have e1:chkF (some s) P.pages.length=false:=by
       unfold chkF;simp only [HCH.out,Bool.false_and]
      rw [HC.out,e1];rfl
    .obtain rfl:i=s.leaves.length:=by omega
     have hch:z2d s.leaves=true:=(z4m _).2 R1.out;have HB:Hid (B=decide (s.seen.length=P.pages.length)):=by
      rw [Hid,HC.out];unfold chkF;simp only;rw [hch];rfl
     have hlen9:∀W ty,Below wr.heap.size wr W->(Builtin.len_ #[197] ty #[.map (some (w.heap.size+1))]).run prog W= .ok (.int .i64 (s.seen.length:Int)) W:=fun W ty hb=>by
      obtain⟨f0,hf0,_⟩:=(S.out.later hb).seen;exact hf0.len z1d zIo ty
     have HT9:=zz (HT.out.later S.out.below);have hgz:wr.cell? ⟨g,0,none⟩=some (.pointer (some ⟨Z.g,0,none⟩)):=HT9.out.blk.cell 0;have hpl:P.pages.length<=90:=by unfold Pgr.pages;exact yD (YI _ _) (by simp)
     clear hch R1;go_wp2_with fail
     refine z06 (by kernel_rfl) (by kernel_rfl) ?_;apply Exists.intro;apply And.intro
     .repeat(first
       |(apply z0J rfl
         intro K hK;go_simp;refine hK _ ?_;clear hK K)
       |(apply z0D rfl
         .intro wg hwg _;have z0:=yN hwg hgz;have ln:=fun ty=>hlen9 wg ty hwg
          unfold z03;go_simp
          first
           |exact z00 _ _
           |(fail)
         intro K hK;go_simp;refine hK _ ?_;clear hK K))
      apply z1N (V:=(fun v w=>∃A c,v= .slice A P.pages.length c)) rfl
      .intro wg hwg hf;have ln:=fun ty=>hlen9 wg ty hwg
       unfold z03;go_simp;exact⟨y7 _ _,(z3P Z P wg (HT9.out.later hwg).pg).mono (fun e w' ⟨v,he,ho,hb⟩=>by obtain⟨A,k,c,rfl⟩:=z0v ho;obtain rfl:=z0h ho;exact⟨_,he,hb,A,c,by rw [show(il P.pages).length=P.pages.length from by simp [il]]⟩)⟩
      intro xv hxv K hK;obtain⟨wx,_,hbx⟩:=hxv;have hbo:=hbx;obtain⟨A7,c7,rfl⟩:=hbo;go_simp;refine hK _ ?_;clear hK K hbx
      repeat(first
       |(apply z0J rfl
         intro K hK;go_simp;refine hK _ ?_;clear hK K)
       |(apply z0D rfl
         .intro wg hwg _;have z0:=yN hwg hgz;have ln:=fun ty=>hlen9 wg ty hwg
          unfold z03;go_simp
          first
           |exact z00 _ _
           |(fail)
         intro K hK;go_simp;refine hK _ ?_;clear hK K))
      refine z0f (fun wg hwg _=> ?_);go_wp2_with fail
      go_ret
      refine⟨?_,S.out.below.trans (hwg.mono S.out.below.size)⟩;have e1:((s.seen.length:Int)==(P.pages.length:Int))=decide (s.seen.length=P.pages.length):=zJF _ _;rw [HB.out,<-e1];rfl
     .apply And.intro
      .repeat(first|exact trivial|(refine⟨Stays.is _,?_⟩)|(refine⟨fun _ _ _ _ h=>h,?_⟩))
      .rfl
  |cons u td=>
   have hlen:=K.out.len;have hs9:=z9Z K.out.nod K.out.pgs;simp only [y8]at hlen;have hund:=K.out.und u (YJ ..);have hto:=S.out.todo;rw [ZK,zIK,zIM,y8]at hto;obtain⟨hpop,gt,rfl,hgt0,hgt1,hct,hcm,hcel⟩:=zJs hto (by rw [zIL,List.length_reverse]) rfl;obtain⟨ui,ud,uf,ut,uo⟩:=u;have e0:=hcel 0 _ rfl;have e1:=hcel 1 _ rfl;have e2:=hcel 2 _ rfl;have e3:=hcel 3 _ rfl;have e4:=hcel 4 _ rfl;clear hcel hto;simp only [YQ]at e0;have hn1:td.length<=200000:=by omega
   have hn2:IntKind.i64.wrap (td.length:Int)=(td.length:Int):=z1C (by omega) (by omega);obtain⟨k',rfl,hF⟩:=K.out.step;have q1:=(y7 wr.heap.size wr).alloc (y5 _) (.cells #[.int .i64 ui,.int .i64 (ud:Int),.string (st uf),.string (st ut),.bool uo] 257);have S1:=zz ((S.out.cut hpop).later q1);have HT1:=zz (HT.out.later (S.out.below.trans (q1.mono S.out.below.size)));have b1:=Blk.new wr 257 #[.int .i64 ui,.int .i64 (ud:Int),.string (st uf),.string (st ut),.bool uo];have HB1:=zz b1;have hb10:(wr.alloc (.cells #[.int .i64 ui,.int .i64 (ud:Int),.string (st uf),.string (st ut),.bool uo] 257)).cell? ⟨wr.heap.size,0,none⟩=some (.int .i64 ui):=b1.cell 0;have hF1:=zz hF;have hU:=zz hund;have K1:=zz K.out;have hsb:w.heap.size<=wr.heap.size:=S.out.below.size;have HCNT:Hid (zHi wr (w.heap.size+1)=s.seen.length):=by
    obtain⟨f0,hf0,_⟩:=S.out.seen;exact hf0.cnt
   have HLB:Hid (∀b,(Value.slice Al s.leaves.length cl).ownBlock=some b->b<wr.heap.size):=fun b hb=>by
    obtain⟨us,_,h,_⟩:=S.out.lv;exact(h.lt b hb).2
   clear hF hund q1 b1 S K hpop;go_wp2_with fail
   generalize hW1:wr.alloc (.cells #[.int .i64 ui,.int .i64 (ud:Int),.string (st uf),.string (st ut),.bool uo] 257)=W1 at*;clear hW1 e0 e1 e2 e3 e4;generalize wr.heap.size=gu at*;refine(z2n g Z P c ui W1 HT1.out hU.out.1).mono ?_;rintro e w2 ⟨v,rfl,⟨A2,c2,rfl,hcs⟩,hb2⟩;have hz2:=hb2.size;have hz1:gu<W1.heap.size:=HB1.out.lt;clear hb10;obtain⟨leaf,nx,cs,hpd⟩:∃leaf nx cs,P.pgD c ui=(leaf,nx,cs):=⟨_,_,_,rfl⟩;have HPD:=zz hpd;rw [hpd]at hcs ⊢;simp only at hcs ⊢;clear hpd;have q3:=(y7 w2.heap.size w2).alloc (y5 _) (.cells #[.bool leaf,.int .i64 (nx:Int),.slice A2 cs.length c2] 175);have S3:=zz ((S1.out.later hb2).later q3);have B3u:=zz ((HB1.out.later hb2).later q3);have B3p:=zz (Blk.new w2 175 #[.bool leaf,.int .i64 (nx:Int),.slice A2 cs.length c2]);have C3:Hid (Cs (fun b=>W1.heap.size<=b/\b<w2.heap.size) (w2.alloc (.cells #[.bool leaf,.int .i64 (nx:Int),.slice A2 cs.length c2] 175)) (.slice A2 cs.length c2) cs):=Sl.alloc hcs (fun b h=>h.2) _;clear hcs hb2 q3 S1 HB1;have pu0:((w2.alloc (.cells #[.bool leaf,.int .i64 (nx:Int),.slice A2 cs.length c2] 175))).cell? ⟨gu,0,none⟩=some (.int .i64 ui):=B3u.out.cell 0;have pu1:((w2.alloc (.cells #[.bool leaf,.int .i64 (nx:Int),.slice A2 cs.length c2] 175))).cell? ⟨gu,1,none⟩=some (.int .i64 (ud:Int)):=B3u.out.cell 1;obtain⟨f,hm,hf⟩:=S3.out.seen;have l1:=hm.look z1d zIo (zJ6 _) hU.out.1;rw [hf _ hU.out.1]at l1;generalize (f ui).getD (.int .i64 0)=fv at l1;obtain⟨w4,r4,h4,t4⟩:=hm.put z1d zIo (by simp only [maxLen];omega) hU.out.1 (.int .i64 (ud:Int));have hkm:z0G (w2.alloc (.cells #[.bool leaf,.int .i64 (nx:Int),.slice A2 cs.length c2] 175)) (w.heap.size+1)=some none:=by
    obtain⟨es,cl,he⟩:=hm.isMap;unfold z0G;rw [he]
   have T4:=zz t4;have HM4:=zz h4;have HFF:=zz hf;have HKM:=zz hkm;have B4u:=zz (B3u.out.map hkm t4);have B4p:=zz (B3p.out.map hkm t4);have hbw:Hid (Below w.heap.size w w4):=S3.out.below.grown t4.grown S3.out.below.size (fun k hk=>by injection hk with hk;omega);clear hm hf h4 t4 hkm;cases hpg:P.pg c ui with
   |none=>
    have hf0:=hF1.out;rw [hpg]at hf0;subst hf0;clear hpg;go_wp2_with fail
    go_ret
    exact⟨by rw [HC.out];rfl,hbw.out⟩
   |some x=>
    have hx:x=(leaf,nx,cs):=by
     rw [<-HPD.out];unfold Pgr.pgD;rw [hpg];rfl
    subst hx;have hpk:=zz (HPF.out ui _ hpg);have HLF:Hid (leaf=true/\cs= []):=HH0.out ui _ hpg;have hf0:=hF1.out;rw [hpg]at hf0;simp only at hf0;have HF2:=zz hf0;clear hpg hF1 hf0;cases hse:s.seen.contains ui with
    |true=>
     have hf1:=HF2.out;rw [hse]at hf1;simp only [Bool.true_or,YN]at hf1;have HF3:=zz hf1;rw [hse]at l1;clear hf1 HF2 hse;go_wp2_with fail
     go_ret
     exact⟨by rw [HC.out,HF3.out];rfl,hbw.out⟩
    |false=>
     have HSE:=zz hse;rw [hse]at l1;clear hse;have hsn:nPut f s.seen.length ui=s.seen.length+1:=by unfold nPut;rw [HFF.out _ hU.out.1,HSE.out];simp
     have hm4:=HM4.out;rw [hsn]at hm4;have S4:=zz (S3.out.mark (a:=ui) hm4 T4.out HKM.out (by omega) rfl (fun x hx=>by
      simp only [List.contains_cons];by_cases h:x=ui
      .simp [h]
      .rw [yA h,HFF.out x hx];simp [h]))
     have C4:Hid (Cs (fun b=>W1.heap.size<=b/\b<w2.heap.size) w4 (.slice A2 cs.length c2) cs):=Sl.keep C3.out fun b o hb=>yR (T4.out.grown.block b (by have:=B3p.out.lt;omega) (fun e=>by injection e with e;have:=hb.1;omega))
     have qu0:(w4).cell? ⟨gu,0,none⟩=some (.int .i64 ui):=B4u.out.cell 0;have qu1:(w4).cell? ⟨gu,1,none⟩=some (.int .i64 (ud:Int)):=B4u.out.cell 1;have qu2:(w4).cell? ⟨gu,2,none⟩=some (.string (st uf)):=B4u.out.cell 2;have qu3:(w4).cell? ⟨gu,3,none⟩=some (.string (st ut)):=B4u.out.cell 3;have qu4:(w4).cell? ⟨gu,4,none⟩=some (.bool uo):=B4u.out.cell 4;have qp0:(w4).cell? ⟨w2.heap.size,0,none⟩=some (.bool leaf):=B4p.out.cell 0;have qp1:(w4).cell? ⟨w2.heap.size,1,none⟩=some (.int .i64 (nx:Int)):=B4p.out.cell 1;have qp2:(w4).cell? ⟨w2.heap.size,2,none⟩=some (.slice A2 cs.length c2):=B4p.out.cell 2;have hcl:=z0m hpk.out.1;simp only at hcl;clear hm4 hsn C3 B3u B3p HFF T4 HM4 HKM S3;go_wp2_with fail
     refine(zE9 (fun _=>True) ⟨ui,ud,uf,ut,uo⟩ leaf nx _ cs w4 hU.out.1 (Sl.more C4.out fun _ _=>trivial) HLF.out.1 HLF.out.2).mono ?_;rintro e w5 ⟨rfl,hb5⟩;have S5:=zz (S4.out.later hb5);have B5u:=zz (B4u.out.later hb5);have B5p:=zz (B4p.out.later hb5);have C5:Hid (Cs (fun b=>W1.heap.size<=b/\b<w2.heap.size) w5 (.slice A2 cs.length c2) cs):=Sl.below C4.out hb5 fun b h=>by have:=B4p.out.lt;omega
     clear hb5 S4 B4u B4p C4 qu0 qu1 qu2 qu3 qu4 qp0 qp1 qp2 pu0 pu1 hbw l1 r4;cases hft:z99 ⟨ui,ud,uf,ut,uo⟩ (leaf,nx,cs)with
     |false=>
      have hf1:=HF2.out;rw [hft]at hf1;simp only [Bool.not_false,Bool.or_true,YN]at hf1;have HF3:=zz hf1;clear hf1 HF2 hft;go_wp2_with fail
      go_ret
      exact⟨by rw [HC.out,HF3.out];rfl,S5.out.below⟩
     |true=>
      have hf1:=HF2.out;rw [hft,HSE.out]at hf1;simp only [Bool.not_true,Bool.or_false,yu,yv]at hf1;clear HF2 hft;have qu0:(w5).cell? ⟨gu,0,none⟩=some (.int .i64 ui):=B5u.out.cell 0;have qu1:(w5).cell? ⟨gu,1,none⟩=some (.int .i64 (ud:Int)):=B5u.out.cell 1;have qu2:(w5).cell? ⟨gu,2,none⟩=some (.string (st uf)):=B5u.out.cell 2;have qu3:(w5).cell? ⟨gu,3,none⟩=some (.string (st ut)):=B5u.out.cell 3;have qu4:(w5).cell? ⟨gu,4,none⟩=some (.bool uo):=B5u.out.cell 4;have qp0:(w5).cell? ⟨w2.heap.size,0,none⟩=some (.bool leaf):=B5p.out.cell 0;have qp1:(w5).cell? ⟨w2.heap.size,1,none⟩=some (.int .i64 (nx:Int)):=B5p.out.cell 1;have qp2:(w5).cell? ⟨w2.heap.size,2,none⟩=some (.slice A2 cs.length c2):=B5p.out.cell 2;cases leaf with
      |true=>
       simp only [YN]at hf1;have HF3:=zz hf1;clear hf1;by_cases hb:s.leaves≠ []/\s.depth≠ud
       .have hf2:=HF3.out;rw [yB hb]at hf2;have HF4:=zz hf2;have hl0:0<s.leaves.length:=ZO.2 hb.1;have hd0:((s.depth:Int)==(ud:Int))=false:=yV.2 (by have:=hb.2;omega);clear hf2 HF3 hb;go_wp2_with fail
        go_ret
        exact⟨by rw [HC.out,HF4.out];rfl,S5.out.below⟩
       .have hf2:=HF3.out;rw [yA hb]at hf2;have K5:=zz (K1.out.leaf (x:=(true,nx,cs)) ⟨hpk.out.2.1,hpk.out.2.2,hpk.out.1⟩ HSE.out hf2);have hll:=K1.out.lvn;obtain⟨us,hus1,hus2,hus3⟩:=S5.out.lv;have L5:=zz hus2;have HUS1:=zz hus1;have HUS3:=zz hus3;have I5:=zz S5.out.ids;have hlt5:w.heap.size<=w5.heap.size:=S5.out.below.size;have hnl:∀b,(Value.slice Al s.leaves.length cl).ownBlock=some b->b≠gu/\b≠w2.heap.size/\b<w5.heap.size:=fun b hb=>⟨by have:=HLB.out b hb;omega,by have:=HLB.out b hb;omega,(hus2.lt b hb).2⟩
        have hni:∀b,(Value.slice Ai s.leaves.length ci).ownBlock=some b->b≠gu/\b≠w2.heap.size/\b<w5.heap.size:=fun b hb=>⟨fun e=>z31 S5.out.ids B5u.out (by decide) (e▸hb),fun e=>z31 S5.out.ids B5p.out (by decide) (e▸hb),(S5.out.ids.lt b hb).2⟩
        have hli:∀b,(Value.slice Al s.leaves.length cl).ownBlock=some b->(Value.slice Ai s.leaves.length ci).ownBlock≠some b:=z9U hus2 S5.out.ids (by decide);have HNL:=zz hnl;have HNI:=zz hni;have HLI:=zz hli;generalize hFL:(fun b=>(Value.slice Al s.leaves.length cl).ownBlock=some b)=FL at*;generalize hFI:(fun b=>(Value.slice Ai s.leaves.length ci).ownBlock=some b)=FI at*;have HFL:=zz hFL;have HFI:=zz hFI;have hEu:¬trE [TrP.of 3 FL,TrP.of 8 FI] gu:=fun h=>by
         rw [zKA]at h;subst hFL hFI;rcases h with h|h
         .exact(HNL.out _ h).1 rfl
         .exact(HNI.out _ h).1 rfl
        have hEp:¬trE [TrP.of 3 FL,TrP.of 8 FI] w2.heap.size:=fun h=>by
         rw [zKA]at h;subst hFL hFI;rcases h with h|h
         .exact(HNL.out _ h).2.1 rfl
         .exact(HNI.out _ h).2.1 rfl
        have hl1:s.leaves.length<=90:=by omega
        have hfl:∀g,FL g->g<w5.heap.size:=fun g h=>by subst hFL;exact(HNL.out _ h).2.2
        have hfi:∀g,FI g->g<w5.heap.size:=fun g h=>by subst hFI;exact(HNI.out _ h).2.2
        have HFL2:Hid (∀g,FL g->(Value.slice Al s.leaves.length cl).ownBlock=some g):=fun g h=>by subst hFL;exact h
        have HFI2:Hid (∀g,FI g->(Value.slice Ai s.leaves.length ci).ownBlock=some g):=fun g h=>by subst hFI;exact h
        have HfL:=zz hfl;have HfI:=zz hfi;clear hf2 HF3 hus1 hus2 hus3 hnl hni hli hFL hFI hfl hfi;by_cases hl0:0<s.leaves.length
        .have hd0:((s.depth:Int)==(ud:Int))=true:=by
          rw [Z9];have:¬s.depth≠ud:=fun h=>hb ⟨ZO.1 hl0,h⟩
          omega
         clear hb;go_wp2_with fail
         refine z4G [TrP.of 3 FL,TrP.of 8 FI] (by kernel_rfl) (by kernel_rfl) ?_;apply Exists.intro;apply And.intro
         .repeat(first
           |(apply z1y rfl
             intro K hK;go_simp;refine hK _ ?_;clear hK K)
           |(apply z3n rfl (by kernel_rfl)
             .intro wg hwg _;have v0:=Turn.cell hwg qu0 hEu;have v1:=Turn.cell hwg qu1 hEu;have p0:=Turn.cell hwg qp0 hEp;have p1:=Turn.cell hwg qp1 hEp;have p2:=Turn.cell hwg qp2 hEp;unfold z03;go_simp
              first
               |exact z00 _ _
               |(fail)
             intro K hK;go_simp;refine hK _ ?_;clear hK K))
          apply z1x (V:=VSl w5.heap.size 3 1 [.bool true,.int .i64 (nx:Int),.slice A2 cs.length c2]) rfl (by kernel_rfl)
          .intro wg hwg hf;have v0:=Turn.cell hwg qu0 hEu;have v1:=Turn.cell hwg qu1 hEu;have p0:=Turn.cell hwg qp0 hEp;have p1:=Turn.cell hwg qp1 hEp;have p2:=Turn.cell hwg qp2 hEp;unfold z03;go_simp;exact⟨(y7 _ _).alloc (y5 _) _,⟨_,_,_,rfl⟩,(Sl.newb (S:=fun b=>b=wg.heap.size) wg 175 [.bool true,.int .i64 (nx:Int),.slice A2 cs.length c2] rfl rfl).more fun b h=>⟨by subst h;exact hwg.size,by subst h;simp⟩⟩
          intro xv hxv K hK;obtain⟨wx,hwx,hbx⟩:=hxv;have hbo:=hbx;obtain⟨⟨A78,k78,c78,rfl⟩,_⟩:=hbo;go_simp;refine hK _ ?_;clear hK K hbx hwx;apply z4F (V:=VRow w.heap.size 175 3 (s.leaves.length+1) (lfC (s.leaves.zip us)++([.bool true,.int .i64 (nx:Int),.slice A2 cs.length c2]:List Value)) (Value.slice Al s.leaves.length cl).ownBlock w5.heap.size) (TrP.of 3 FL);exact rfl
          kernel_rfl
          .intro wg hwg hf;have hsl:VSl w5.heap.size 3 1 [.bool true,.int .i64 (nx:Int),.slice A2 cs.length c2] (.slice A78 k78 c78) wg:=hf ⟨2,.data⟩ (by simp) rfl _ _ rfl;have hownz:=z2V L5.out hwg (fun g hg hx=>HLI.out g hg (HFI2.out g (trX2a hx rfl)));show steps _ _ _ wg (Turn FL) _;rw [<-HFL.out];exact z1i (s:= .tmp 76) (x:= .tmp 78) zIi rfl hownz hsl.2 rfl rfl (by intro y hy;simp at hy;rcases hy with rfl|rfl|rfl<;>rfl) (by simp only [maxLen];omega) (by omega) (yD hlt5 hwg.size) hwg.size
          intro xv hxv K hK;obtain⟨wx,hwx,hbx⟩:=hxv;have hbo:=hbx;obtain⟨⟨A79,c79,rfl⟩,_⟩:=hbo;go_simp;refine hK _ ?_;clear hK K hbx hwx
          repeat(first
           |(apply z1y rfl
             intro K hK;go_simp;refine hK _ ?_;clear hK K)
           |(apply z3n rfl (by kernel_rfl)
             .intro wg hwg _;have v0:=Turn.cell hwg qu0 hEu;have v1:=Turn.cell hwg qu1 hEu;have p0:=Turn.cell hwg qp0 hEp;have p1:=Turn.cell hwg qp1 hEp;have p2:=Turn.cell hwg qp2 hEp;unfold z03;go_simp
              first
               |exact z00 _ _
               |(fail)
             intro K hK;go_simp;refine hK _ ?_;clear hK K))
          apply z1x (V:=VSl w5.heap.size 1 1 [.int .i64 ui]) rfl (by kernel_rfl)
          .intro wg hwg hf;have v0:=Turn.cell hwg qu0 hEu;have v1:=Turn.cell hwg qu1 hEu;have p0:=Turn.cell hwg qp0 hEp;have p1:=Turn.cell hwg qp1 hEp;have p2:=Turn.cell hwg qp2 hEp;unfold z03;go_simp;exact⟨(y7 _ _).alloc (y5 _) _,⟨_,_,_,rfl⟩,(Sl.newb (S:=fun b=>b=wg.heap.size) wg 3 [.int .i64 ui] rfl rfl).more fun b h=>⟨by subst h;exact hwg.size,by subst h;simp⟩⟩
          intro xv hxv K hK;obtain⟨wx,hwx,hbx⟩:=hxv;have hbo:=hbx;obtain⟨⟨A83,k83,c83,rfl⟩,_⟩:=hbo;go_simp;refine hK _ ?_;clear hK K hbx hwx;apply z4F (V:=VRow w.heap.size 3 1 (s.leaves.length+1) (idC s.leaves++([.int .i64 ui]:List Value)) (Value.slice Ai s.leaves.length ci).ownBlock w5.heap.size) (TrP.of 8 FI);exact rfl
          kernel_rfl
          .intro wg hwg hf;have hsl:VSl w5.heap.size 1 1 [.int .i64 ui] (.slice A83 k83 c83) wg:=hf ⟨7,.data⟩ (by simp) rfl _ _ rfl;have hownz:=z2V I5.out hwg (fun g hg hx=>HLI.out g (HFL2.out g (trX2b hx rfl)) hg);show steps _ _ _ wg (Turn FI) _;rw [<-HFI.out];exact z1i (s:= .tmp 80) (x:= .tmp 83) elemIntT rfl hownz hsl.2 rfl rfl (by intro y hy;simp at hy;subst hy;rfl) (by simp only [maxLen];omega) (by omega) (yD hlt5 hwg.size) hwg.size
          intro xv hxv K hK;obtain⟨wx,hwx,hbx⟩:=hxv;have hbo:=hbx;obtain⟨⟨A84,c84,rfl⟩,_⟩:=hbo;go_simp;refine hK _ ?_;clear hK K hbx hwx
          repeat(first
           |(apply z1y rfl
             intro K hK;go_simp;refine hK _ ?_;clear hK K)
           |(apply z3n rfl (by kernel_rfl)
             .intro wg hwg _;have v0:=Turn.cell hwg qu0 hEu;have v1:=Turn.cell hwg qu1 hEu;have p0:=Turn.cell hwg qp0 hEp;have p1:=Turn.cell hwg qp1 hEp;have p2:=Turn.cell hwg qp2 hEp;unfold z03;go_simp
              first
               |exact z00 _ _
               |(fail)
             intro K hK;go_simp;refine hK _ ?_;clear hK K))
          apply z1x (V:=VRow w.heap.size 175 3 (s.leaves.length+1) (lfC (s.leaves.zip us)++([.bool true,.int .i64 (nx:Int),.slice A2 cs.length c2]:List Value)) (Value.slice Al s.leaves.length cl).ownBlock w5.heap.size) rfl (by kernel_rfl)
          .intro wg hwg hf;unfold z03;go_simp;have hq:VRow w.heap.size 175 3 (s.leaves.length+1) (lfC (s.leaves.zip us)++([.bool true,.int .i64 (nx:Int),.slice A2 cs.length c2]:List Value)) (Value.slice Al s.leaves.length cl).ownBlock w5.heap.size (.slice A79 (s.leaves.length+1) c79) wg:=hf ⟨3,.data⟩ (by simp) rfl _ _ rfl;exact⟨y7 _ _,hq⟩
          intro xv hxv K hK;obtain⟨wx,hwx,hbx⟩:=hxv;have hbo:=hbx;obtain⟨⟨A4,c4,rfl⟩,_⟩:=hbo;go_simp;refine hK _ ?_;clear hK K hbx hwx;apply z1x (V:=VRow w.heap.size 3 1 (s.leaves.length+1) (idC s.leaves++([.int .i64 ui]:List Value)) (Value.slice Ai s.leaves.length ci).ownBlock w5.heap.size) rfl (by kernel_rfl)
          .intro wg hwg hf;unfold z03;go_simp;have hq:VRow w.heap.size 3 1 (s.leaves.length+1) (idC s.leaves++([.int .i64 ui]:List Value)) (Value.slice Ai s.leaves.length ci).ownBlock w5.heap.size (.slice A84 (s.leaves.length+1) c84) wg:=hf ⟨8,.data⟩ (by simp) rfl _ _ rfl;exact⟨y7 _ _,hq⟩
          intro xv hxv K hK;obtain⟨wx,hwx,hbx⟩:=hxv;have hbo:=hbx;obtain⟨⟨A5,c5,rfl⟩,_⟩:=hbo;go_simp;refine hK _ ?_;clear hK K hbx hwx
          repeat(first
           |(apply z1y rfl
             intro K hK;go_simp;refine hK _ ?_;clear hK K)
           |(apply z3n rfl (by kernel_rfl)
             .intro wg hwg _;have v0:=Turn.cell hwg qu0 hEu;have v1:=Turn.cell hwg qu1 hEu;have p0:=Turn.cell hwg qp0 hEp;have p1:=Turn.cell hwg qp1 hEp;have p2:=Turn.cell hwg qp2 hEp;unfold z03;go_simp
              first
               |exact z00 _ _
               |(fail)
             intro K hK;go_simp;refine hK _ ?_;clear hK K))
          refine z9p (fun w6 hw6 hv6=> ?_);have h3:VRow w.heap.size 175 3 (s.leaves.length+1) (lfC (s.leaves.zip us)++([.bool true,.int .i64 (nx:Int),.slice A2 cs.length c2]:List Value)) (Value.slice Al s.leaves.length cl).ownBlock w5.heap.size (.slice A4 (s.leaves.length+1) c4) w6:=hv6 11 _ _ rfl;have h8:VRow w.heap.size 3 1 (s.leaves.length+1) (idC s.leaves++([.int .i64 ui]:List Value)) (Value.slice Ai s.leaves.length ci).ownBlock w5.heap.size (.slice A5 (s.leaves.length+1) c5) w6:=hv6 12 _ _ rfl;go_wp2_with fail
          go_roundw
          case rel=>
           have hrl:=S5.out.leaf (i:=ui) (x:=(true,nx,cs)) (u:= .slice A2 cs.length c2) (d:=ud) hw6 (fun b hb=>by
            rw [zKA]at hb;exact hb.imp (HFL2.out b) (HFI2.out b)) ⟨_,_,_,rfl⟩ HUS1.out L5.out HUS3.out h3.2.1 h8.2.1
           have hln:(s.leaves++ [(ui,((true,nx,cs):Pag))]).length=s.leaves.length+1:=by simp
           refine⟨_,A4,A5,ct,c4,c5,td,_,k',rfl,?_,?_,rfl,?_,K5⟩
           .simp only [hln]
           .simp only [hln]
           .simp only [hln];exact hrl
          case measure=>
           obtain⟨f6,hf6,_⟩:=S5.out.seen;have e6:=MpV.cnt (hf6.at (hw6.block _ hf6.lt fun hb=>by
            rw [zKA]at hb;rcases hb with hb|hb
            .exact zDf hf6 L5.out (HFL2.out _ hb)
            .exact zDf hf6 I5.out (HFI2.out _ hb)))
           have e7:=HCNT.out;simp only [y8]at e6;simp;omega
         .apply And.intro
          .repeat(first
            |exact trivial
            |(refine⟨okTr _ _,?_⟩)
            |(refine⟨z7x VSl.stays (.inr (.inr (VSl.tstays HfL.out))) (.inr (.inr (VSl.tstays HfI.out))),?_⟩)
            |(refine⟨z7x VRow.stays (.inl rfl) (.inr (.inr (VRow.tstays (fun g hg hx=>HLI.out g hg (HFI2.out g hx)) HfI.out))),?_⟩)
            |(refine⟨z7x VRow.stays (.inr (.inl (by kernel_rfl))) (.inr (.inr (VRow.tstays (fun g hg hx=>HLI.out g hg (HFI2.out g hx)) HfI.out))),?_⟩)
            |(refine⟨z7x VRow.stays (.inr (.inr (VRow.tstays (fun g hg hx=>HLI.out g (HFL2.out g hx) hg) HfL.out))) (.inl rfl),?_⟩)
            |(refine⟨z7x VRow.stays (.inr (.inr (VRow.tstays (fun g hg hx=>HLI.out g (HFL2.out g hx) hg) HfL.out))) (.inr (.inl (by kernel_rfl))),?_⟩)
            )
          .rfl
        .have hl0':decide (0<s.leaves.length)=false:=yZ hl0;have hl0'':decide ((0:Int)<(s.leaves.length:Int))=false:=yZ (by omega);clear hb;go_wp2_with fail
         refine z4G [TrP.of 3 FL,TrP.of 8 FI] (by kernel_rfl) (by kernel_rfl) ?_;apply Exists.intro;apply And.intro
         .repeat(first
           |(apply z1y rfl
             intro K hK;go_simp;refine hK _ ?_;clear hK K)
           |(apply z3n rfl (by kernel_rfl)
             .intro wg hwg _;have v0:=Turn.cell hwg qu0 hEu;have v1:=Turn.cell hwg qu1 hEu;have p0:=Turn.cell hwg qp0 hEp;have p1:=Turn.cell hwg qp1 hEp;have p2:=Turn.cell hwg qp2 hEp;unfold z03;go_simp
              first
               |exact z00 _ _
               |(fail)
             intro K hK;go_simp;refine hK _ ?_;clear hK K))
          apply z1x (V:=VSl w5.heap.size 3 1 [.bool true,.int .i64 (nx:Int),.slice A2 cs.length c2]) rfl (by kernel_rfl)
          .intro wg hwg hf;have v0:=Turn.cell hwg qu0 hEu;have v1:=Turn.cell hwg qu1 hEu;have p0:=Turn.cell hwg qp0 hEp;have p1:=Turn.cell hwg qp1 hEp;have p2:=Turn.cell hwg qp2 hEp;unfold z03;go_simp;exact⟨(y7 _ _).alloc (y5 _) _,⟨_,_,_,rfl⟩,(Sl.newb (S:=fun b=>b=wg.heap.size) wg 175 [.bool true,.int .i64 (nx:Int),.slice A2 cs.length c2] rfl rfl).more fun b h=>⟨by subst h;exact hwg.size,by subst h;simp⟩⟩
          intro xv hxv K hK;obtain⟨wx,hwx,hbx⟩:=hxv;have hbo:=hbx;obtain⟨⟨A78,k78,c78,rfl⟩,_⟩:=hbo;go_simp;refine hK _ ?_;clear hK K hbx hwx;apply z4F (V:=VRow w.heap.size 175 3 (s.leaves.length+1) (lfC (s.leaves.zip us)++([.bool true,.int .i64 (nx:Int),.slice A2 cs.length c2]:List Value)) (Value.slice Al s.leaves.length cl).ownBlock w5.heap.size) (TrP.of 3 FL);exact rfl
          kernel_rfl
          .intro wg hwg hf;have hsl:VSl w5.heap.size 3 1 [.bool true,.int .i64 (nx:Int),.slice A2 cs.length c2] (.slice A78 k78 c78) wg:=hf ⟨2,.data⟩ (by simp) rfl _ _ rfl;have hownz:=z2V L5.out hwg (fun g hg hx=>HLI.out g hg (HFI2.out g (trX2a hx rfl)));show steps _ _ _ wg (Turn FL) _;rw [<-HFL.out];exact z1i (s:= .tmp 76) (x:= .tmp 78) zIi rfl hownz hsl.2 rfl rfl (by intro y hy;simp at hy;rcases hy with rfl|rfl|rfl<;>rfl) (by simp only [maxLen];omega) (by omega) (yD hlt5 hwg.size) hwg.size
          intro xv hxv K hK;obtain⟨wx,hwx,hbx⟩:=hxv;have hbo:=hbx;obtain⟨⟨A79,c79,rfl⟩,_⟩:=hbo;go_simp;refine hK _ ?_;clear hK K hbx hwx
          repeat(first
           |(apply z1y rfl
             intro K hK;go_simp;refine hK _ ?_;clear hK K)
           |(apply z3n rfl (by kernel_rfl)
             .intro wg hwg _;have v0:=Turn.cell hwg qu0 hEu;have v1:=Turn.cell hwg qu1 hEu;have p0:=Turn.cell hwg qp0 hEp;have p1:=Turn.cell hwg qp1 hEp;have p2:=Turn.cell hwg qp2 hEp;unfold z03;go_simp
              first
               |exact z00 _ _
               |(fail)
             intro K hK;go_simp;refine hK _ ?_;clear hK K))
          apply z1x (V:=VSl w5.heap.size 1 1 [.int .i64 ui]) rfl (by kernel_rfl)
          .intro wg hwg hf;have v0:=Turn.cell hwg qu0 hEu;have v1:=Turn.cell hwg qu1 hEu;have p0:=Turn.cell hwg qp0 hEp;have p1:=Turn.cell hwg qp1 hEp;have p2:=Turn.cell hwg qp2 hEp;unfold z03;go_simp;exact⟨(y7 _ _).alloc (y5 _) _,⟨_,_,_,rfl⟩,(Sl.newb (S:=fun b=>b=wg.heap.size) wg 3 [.int .i64 ui] rfl rfl).more fun b h=>⟨by subst h;exact hwg.size,by subst h;simp⟩⟩
          intro xv hxv K hK;obtain⟨wx,hwx,hbx⟩:=hxv;have hbo:=hbx;obtain⟨⟨A83,k83,c83,rfl⟩,_⟩:=hbo;go_simp;refine hK _ ?_;clear hK K hbx hwx;apply z4F (V:=VRow w.heap.size 3 1 (s.leaves.length+1) (idC s.leaves++([.int .i64 ui]:List Value)) (Value.slice Ai s.leaves.length ci).ownBlock w5.heap.size) (TrP.of 8 FI);exact rfl
          kernel_rfl
          .intro wg hwg hf;have hsl:VSl w5.heap.size 1 1 [.int .i64 ui] (.slice A83 k83 c83) wg:=hf ⟨7,.data⟩ (by simp) rfl _ _ rfl;have hownz:=z2V I5.out hwg (fun g hg hx=>HLI.out g (HFL2.out g (trX2b hx rfl)) hg);show steps _ _ _ wg (Turn FI) _;rw [<-HFI.out];exact z1i (s:= .tmp 80) (x:= .tmp 83) elemIntT rfl hownz hsl.2 rfl rfl (by intro y hy;simp at hy;subst hy;rfl) (by simp only [maxLen];omega) (by omega) (yD hlt5 hwg.size) hwg.size
          intro xv hxv K hK;obtain⟨wx,hwx,hbx⟩:=hxv;have hbo:=hbx;obtain⟨⟨A84,c84,rfl⟩,_⟩:=hbo;go_simp;refine hK _ ?_;clear hK K hbx hwx
          repeat(first
           |(apply z1y rfl
             intro K hK;go_simp;refine hK _ ?_;clear hK K)
           |(apply z3n rfl (by kernel_rfl)
             .intro wg hwg _;have v0:=Turn.cell hwg qu0 hEu;have v1:=Turn.cell hwg qu1 hEu;have p0:=Turn.cell hwg qp0 hEp;have p1:=Turn.cell hwg qp1 hEp;have p2:=Turn.cell hwg qp2 hEp;unfold z03;go_simp
              first
               |exact z00 _ _
               |(fail)
             intro K hK;go_simp;refine hK _ ?_;clear hK K))
          apply z1x (V:=VRow w.heap.size 175 3 (s.leaves.length+1) (lfC (s.leaves.zip us)++([.bool true,.int .i64 (nx:Int),.slice A2 cs.length c2]:List Value)) (Value.slice Al s.leaves.length cl).ownBlock w5.heap.size) rfl (by kernel_rfl)
          .intro wg hwg hf;unfold z03;go_simp;have hq:VRow w.heap.size 175 3 (s.leaves.length+1) (lfC (s.leaves.zip us)++([.bool true,.int .i64 (nx:Int),.slice A2 cs.length c2]:List Value)) (Value.slice Al s.leaves.length cl).ownBlock w5.heap.size (.slice A79 (s.leaves.length+1) c79) wg:=hf ⟨3,.data⟩ (by simp) rfl _ _ rfl;exact⟨y7 _ _,hq⟩
          intro xv hxv K hK;obtain⟨wx,hwx,hbx⟩:=hxv;have hbo:=hbx;obtain⟨⟨A4,c4,rfl⟩,_⟩:=hbo;go_simp;refine hK _ ?_;clear hK K hbx hwx;apply z1x (V:=VRow w.heap.size 3 1 (s.leaves.length+1) (idC s.leaves++([.int .i64 ui]:List Value)) (Value.slice Ai s.leaves.length ci).ownBlock w5.heap.size) rfl (by kernel_rfl)
          .intro wg hwg hf;unfold z03;go_simp;have hq:VRow w.heap.size 3 1 (s.leaves.length+1) (idC s.leaves++([.int .i64 ui]:List Value)) (Value.slice Ai s.leaves.length ci).ownBlock w5.heap.size (.slice A84 (s.leaves.length+1) c84) wg:=hf ⟨8,.data⟩ (by simp) rfl _ _ rfl;exact⟨y7 _ _,hq⟩
          intro xv hxv K hK;obtain⟨wx,hwx,hbx⟩:=hxv;have hbo:=hbx;obtain⟨⟨A5,c5,rfl⟩,_⟩:=hbo;go_simp;refine hK _ ?_;clear hK K hbx hwx
          repeat(first
           |(apply z1y rfl
             intro K hK;go_simp;refine hK _ ?_;clear hK K)
           |(apply z3n rfl (by kernel_rfl)
             .intro wg hwg _;have v0:=Turn.cell hwg qu0 hEu;have v1:=Turn.cell hwg qu1 hEu;have p0:=Turn.cell hwg qp0 hEp;have p1:=Turn.cell hwg qp1 hEp;have p2:=Turn.cell hwg qp2 hEp;unfold z03;go_simp
              first
               |exact z00 _ _
               |(fail)
             intro K hK;go_simp;refine hK _ ?_;clear hK K))
          refine z9p (fun w6 hw6 hv6=> ?_);have h3:VRow w.heap.size 175 3 (s.leaves.length+1) (lfC (s.leaves.zip us)++([.bool true,.int .i64 (nx:Int),.slice A2 cs.length c2]:List Value)) (Value.slice Al s.leaves.length cl).ownBlock w5.heap.size (.slice A4 (s.leaves.length+1) c4) w6:=hv6 11 _ _ rfl;have h8:VRow w.heap.size 3 1 (s.leaves.length+1) (idC s.leaves++([.int .i64 ui]:List Value)) (Value.slice Ai s.leaves.length ci).ownBlock w5.heap.size (.slice A5 (s.leaves.length+1) c5) w6:=hv6 12 _ _ rfl;go_wp2_with fail
          go_roundw
          case rel=>
           have hrl:=S5.out.leaf (i:=ui) (x:=(true,nx,cs)) (u:= .slice A2 cs.length c2) (d:=ud) hw6 (fun b hb=>by
            rw [zKA]at hb;exact hb.imp (HFL2.out b) (HFI2.out b)) ⟨_,_,_,rfl⟩ HUS1.out L5.out HUS3.out h3.2.1 h8.2.1
           have hln:(s.leaves++ [(ui,((true,nx,cs):Pag))]).length=s.leaves.length+1:=by simp
           refine⟨_,A4,A5,ct,c4,c5,td,_,k',rfl,?_,?_,rfl,?_,K5⟩
           .simp only [hln]
           .simp only [hln]
           .simp only [hln];exact hrl
          case measure=>
           obtain⟨f6,hf6,_⟩:=S5.out.seen;have e6:=MpV.cnt (hf6.at (hw6.block _ hf6.lt fun hb=>by
            rw [zKA]at hb;rcases hb with hb|hb
            .exact zDf hf6 L5.out (HFL2.out _ hb)
            .exact zDf hf6 I5.out (HFI2.out _ hb)))
           have e7:=HCNT.out;simp only [y8]at e6;simp;omega
         .apply And.intro
          .repeat(first
            |exact trivial
            |(refine⟨okTr _ _,?_⟩)
            |(refine⟨z7x VSl.stays (.inr (.inr (VSl.tstays HfL.out))) (.inr (.inr (VSl.tstays HfI.out))),?_⟩)
            |(refine⟨z7x VRow.stays (.inl rfl) (.inr (.inr (VRow.tstays (fun g hg hx=>HLI.out g hg (HFI2.out g hx)) HfI.out))),?_⟩)
            |(refine⟨z7x VRow.stays (.inr (.inl (by kernel_rfl))) (.inr (.inr (VRow.tstays (fun g hg hx=>HLI.out g hg (HFI2.out g hx)) HfI.out))),?_⟩)
            |(refine⟨z7x VRow.stays (.inr (.inr (VRow.tstays (fun g hg hx=>HLI.out g (HFL2.out g hx) hg) HfL.out))) (.inl rfl),?_⟩)
            |(refine⟨z7x VRow.stays (.inr (.inr (VRow.tstays (fun g hg hx=>HLI.out g (HFL2.out g hx) hg) HfL.out))) (.inr (.inl (by kernel_rfl))),?_⟩)
            )
          .rfl
      |false=>
       exact absurd HLF.out.1 (by simp)
theorem zEB(Z:Pz)(P:Pgr)(c:Int->List UInt8)(w:World)(hp:Pg w Z P)(hr:Pr P c)(hb:BitsOk w)(z0:¬Z.has 0)(hp0:P.pages.length=0)(H0:∀i x,(P.wp 0 (true,0,[])).pg c i=some x->x.1=true/\x.2.2= []):
 Calls prog 72 #[.pointer (some ⟨Z.g,0,none⟩)] w (z51 Z P c w):=by
 have q1:=(y7 w.heap.size w).alloc (y5 _) (.cells #[.pointer (some ⟨Z.g,0,none⟩)] 202);have HQ:=zz q1;have HT:Hid (Tg (w.alloc (.cells #[.pointer (some ⟨Z.g,0,none⟩)] 202)) w.heap.size Z P c):=⟨hp.later q1,Blk.new _ _ _,hr,hb.later q1,z0⟩;clear hp hr hb q1;go_enter func72,ntmps72
 go_wp2_with fail
 generalize hW:w.alloc (.cells #[.pointer (some ⟨Z.g,0,none⟩)] 202)=W at*;clear hW;refine(z3P Z P W HT.out.pg).mono ?_;rintro e w1 ⟨v,rfl,ho,hb1⟩;obtain⟨A,k,c1,rfl⟩:=z0v ho;obtain rfl:=z0h ho;have hil:(il P.pages).length=P.pages.length:=by simp [il]
 rw [hil];have HT1:=zz (HT.out.later hb1);have HS1:=zz ((Ptp.below (Z:=Z) HQ.out).trans (Ptp.below hb1));clear ho hb1 hil;by_cases h0:P.pages.length=0
 .have hop:opP P=P.wp 0 (true,0,[]):=yB h0;have h1:((P.pages.length:Int)==0)=true:=by rw [h0];rfl
  have HOP:=zz hop;clear h0 hop;go_wp2_with fail
  refine(z0M w.heap.size Z P c 0 (fun _=>True) true 0 (.slice none 0 0) [] w1 HT1.out (by unfold InI;omega) zJo (by omega) Sl.nil).mono ?_;rintro e w2 ⟨rfl,ht2,hs2⟩;have HT2:=zz ht2;have HS2:=zz (HS1.out.trans hs2);clear ht2 hs2 h1;go_wp2_with fail
  refine(zBp w.heap.size Z _ c w2 HT2.out H0).mono ?_;rintro e w3 ⟨rfl,hb3⟩;have HT3:=zz (HT2.out.later hb3);have HS3:=zz (HS2.out.trans (Ptp.below hb3));clear hb3;cases hck:zHI ((P.wp 0 (true,0,[])).pg c) (P.wp 0 (true,0,[])).pages.length with
  |true=>
   go_wp2_with fail
   go_ret2
   unfold z51;rw [HOP.out];exact⟨HS3.out,HT3.out.pg,Kin.wp _ _ _,.inl ⟨hck,_,y5 _,rfl,HT3.out⟩⟩
  |false=>
   go_wp2_with fail
   go_ret2
   unfold z51;rw [HOP.out];exact⟨HS3.out,HT3.out.pg,Kin.wp _ _ _,.inr ⟨hck,rfl⟩⟩
 .exact absurd hp0 h0
theorem zHK{pf:PF}(h0:pf 0=some (true,0,[])):zHI pf 1=true:=by
 unfold zHI zGX;rw [z25];simp only [h0];simp [z99,z25,z2d]
end
end Go.Proofs.YthnlcbamjehpdaaGreatDoor
