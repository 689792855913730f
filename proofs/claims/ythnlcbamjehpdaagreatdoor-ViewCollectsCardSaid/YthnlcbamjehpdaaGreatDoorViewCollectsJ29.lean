/- Part 29. -/
import Derived.Test.YthnlcbamjehpdaaGreatDoorViewCollectsJ26
import Derived.Test.YthnlcbamjehpdaaGreatDoorViewCollectsJ28
namespace Go.Proofs.YthnlcbamjehpdaaGreatDoor
set_option linter.unusedVariables false
set_option maxHeartbeats 16000000
set_option maxRecDepth 100000
section
open Go Go.RowKit Tryz
theorem zC0{pf:Int->Pag}{k:List UInt8}:∀ {n:Nat} {i:Int} {l:List TStp},z3E pf k n i=some l->∀s∈l,s.pg=pf s.id
 |0,_,_,h,_,_=>by cases h
 |n+1,i,l,h,s,hs=>by
  rw [z3E]at h
  split at h
  .cases h;obtain rfl:=yJ.1 hs;rfl
  .rw [YR]at h;obtain⟨l',h1,rfl⟩:=h;rcases y9.1 hs with rfl|hs
   .rfl
   .exact zC0 h1 s hs
theorem zD4{pf:Int->Pag}{k:List UInt8}:∀ {n:Nat} {i:Int} {l:List TStp},z3E pf k n i=some l->InI i->∀s∈l,InI s.id
 |0,_,_,h,_,_,_=>by cases h
 |n+1,i,l,h,hi,s,hs=>by
  rw [z3E]at h
  split at h
  .cases h;obtain rfl:=yJ.1 hs;exact hi
  .rw [YR]at h;obtain⟨l',h1,rfl⟩:=h;rcases y9.1 hs with rfl|hs
   .exact hi
   .exact zD4 h1 (z1X _) s hs
theorem zGo{pf:Int->Pag}{k:List UInt8}{n:Nat}{i:Int}{l:List TStp}(h:z3E pf k n i=some l):l.head?.map (·.id)=some i:=by
 rcases n with _|n
 .cases h
 .rw [z3E]at h
  split at h
  .cases h;rfl
  .rw [YR]at h;obtain⟨l',_,rfl⟩:=h;rfl
structure WayOk(P:Pgr)(c:Int->List UInt8)(l:List TStp)(s:TStp):Prop where
 pg:∀t∈l++ [s],POk t.pg/\InI t.id
 root:Root0 l s.id
theorem WayOk.of{P:Pgr}{c:Int->List UInt8}{k:List UInt8}{n:Nat}{l:List TStp}{s:TStp}(h:z3E (P.pgD c) k n 0=some (l++ [s])):WayOk P c l s:=by
 refine⟨fun t ht=>⟨by rw [zC0 h t ht];exact z7H _ _ _,zD4 h (by unfold InI;omega) t ht⟩,?_⟩;have:=zGo h;unfold Root0;cases l with
 |nil=>simpa using this
 |cons a l=>simpa using this
theorem Wsl.len{S:Nat->Prop}{w:World}{A:Option Addr}{k c:Nat}{l:z7q}(h:Wsl S w (.slice A k c) l):k=l.length:=by
 obtain⟨_,A',c',hv,_⟩:=h.sl;injection hv
theorem Wsl.cap{S:Nat->Prop}{w:World}{A:Option Addr}{n c:Nat}{l:z7q}(h:Wsl S w (.slice A n c) l):Wsl S w (.slice A n n) l:=by
 obtain⟨⟨h1,A',c',hv,h2,h3,h4,h5⟩,h6⟩:=h;injection hv with e1 e2 e3
 subst e1 e2 e3;exact⟨⟨h1,A,_,rfl,y5 _,by omega,fun e=>by have:=h4 e;omega,h5⟩,h6⟩
theorem UpOk.leaf{x:Pag}(h:POk x)(hk:∀c∈x.2.2,c.1.length<=470){k v:List UInt8}(h1:k.length<=240)(h2:k.length+v.length<=480):UpOk (z15 x (k,v)):=by
 have h3:=z0m h;have h4:=z3h x.2.2 (k,v);refine⟨by unfold z15;simp only;omega,by unfold z15;simp only;omega,fun c hc=> ?_⟩;unfold z15 at hc;simp only at hc;unfold putC at hc;rcases yF.1 hc with hc|hc
 .exact⟨hk c (yY hc),by have:=z11 none _ h.parts.2.1 c (yY hc);omega⟩
 .rcases y9.1 hc with rfl|hc
  .simp only;omega
  .exact⟨hk c (yo hc),by have:=z11 none _ h.parts.2.1 c (yo hc);omega⟩
def zHA(g:Nat)(Z:Pz)(P':Pgr)(er:Nat)(c:Int->List UInt8)(w:World)(e:Ending)(w':World):Prop:=e= .returned (.int .i64 (er:Int))/\z1O g Z P' c w w'
theorem zIF(g:Nat)(Z:Pz)(P:Pgr)(c:Int->List UInt8)(k v:List UInt8)(n0:Nat)(L:List TStp)(w:World)(ht:Tg w g Z P c)(hk:k.length<=65536)(hv:v.length<=65536)(hw:z3E (P.pgD c) k n0 0=some L)(hL:L.length<=1000)
 (hky:∀s∈L,∀x∈s.pg.2.2,x.1.length<=470):Calls prog 116 #[.pointer (some ⟨g,0,none⟩),.agg #[.string (st k),.string (st v)]] w (zHA g Z (putT P L (k,v)).1 (putT P L (k,v)).2 c w):=by
 obtain⟨l,s,rfl⟩:=z5k (zKJ hw);have HWO:=zz (WayOk.of hw);have HW:=zz hw;have HKY:=zz hky;have HZ:Hid (∀b,Z.has b->b<w.heap.size):=fun b h=>ht.pg.lt h
 have q0:=(y7 w.heap.size w).alloc (y5 _) (.cells #[.string (st k),.string (st v)] 94);have HT:=zz (ht.later q0);have b0:=Blk.new w 94 #[.string (st k),.string (st v)];have HB:=zz b0;have HQ:=zz q0;have c0:(w.alloc (.cells #[.string (st k),.string (st v)] 94)).cell? ⟨w.heap.size,0,none⟩=some (.string (st k)):=b0.cell 0;have hll:l.length+1<=1000:=by simpa using hL
 have HP:Hid (putT P (l++ [s]) (k,v)=if 240<k.length then(P,100)else if 480<k.length+v.length then(P,100)else if 90<P.pages.length+(l.length+1+2)then(P,141)else(upP P l.reverse s.id (z15 s.pg (k,v)),0)):=by
  unfold putT Hid;simp
 generalize putT P (l++ [s]) (k,v)=R at*;clear ht hw hky q0 b0 hL;go_enter func116,ntmps116
 by_cases h240:240<k.length
 .have hR:=HP.out;rw [yB h240]at hR;have h1:(240:Int)<(k.length:Int):=by omega
  subst hR;clear HP;go_wp2_with fail
  go_ret
  exact⟨rfl,HT.out,Ptp.below HQ.out⟩
 .have hR:=HP.out;rw [yA h240]at hR;have HR:=zz hR;have h1:¬ (240:Int)<(k.length:Int):=by omega
  clear HP hR;go_wp2_with fail
  generalize hW:w.alloc (.cells #[.string (st k),.string (st v)] 94)=W at*;have HW0:Hid (w.heap.size<=W.heap.size):=HQ.out.size;clear hW;refine(z6S g Z P c k n0 (l++ [s]) W HT.out HW.out (by simp;omega)).mono ?_;rintro e w1 ⟨A,k1,c1,ls,rfl,hs,hm,hb1⟩;obtain⟨l',⟨s',u⟩,rfl⟩:=z5k (l:=ls) (fun e=>by rw [e]at hm;simp at hm);rw [Y6]at hm;obtain⟨hm1,hm2⟩:=Qi hm rfl;obtain rfl:s'=s:=by simpa using hm2
  subst hm1;obtain rfl:k1=l'.length+1:=by have:=hs.len;simpa using this
  obtain⟨hsp,b1,o1,rfl,hb1S,hcel,hc1,hc1m,hcs⟩:=hs.pop;obtain⟨sid,sat,slf,sn,scs⟩:=s';simp only at hcs;obtain⟨A2,c2,rfl,_⟩:=hcs.at;have e0:=hcel 0 _ rfl;have e1:=hcel 1 _ rfl;have e2:=hcel 2 _ rfl;have e3:=hcel 3 _ rfl;have e4:=hcel 4 _ rfl;simp only [YQ]at e0;have hll2:l'.length<=1000:=by simp at hll;omega
  have hn2:IntKind.i64.wrap (l'.length:Int)=(l'.length:Int):=z1C (by omega) (by omega);have HT1:=zz (HT.out.later hb1);have HB1:=zz (HB.out.later hb1);have HQ1:=zz (HQ.out.trans (hb1.mono HQ.out.size));have HSP:=zz hsp;have HCS:=zz hcs;have hpo:=HWO.out.pg ⟨sid,sat,slf,sn,scs⟩ (by simp);have HPO:=zz hpo;have hcl:=z0m hpo.1;simp only at hcl;clear hsp hcs hcel hs hm hm2 hpo c0 HT HB HQ HW;go_upto_region 5 with(fail)
  have q2:=(y7 w1.heap.size w1).alloc (y5 _) (.cells #[.int .i64 sid,.int .i64 (sat:Int),.bool slf,.int .i64 (sn:Int),.slice A2 scs.length c2] 177);have b2:=Blk.new w1 177 #[.int .i64 sid,.int .i64 (sat:Int),.bool slf,.int .i64 (sn:Int),.slice A2 scs.length c2];have HT2:=zz (HT1.out.later q2);have HQ2:=zz (HQ1.out.trans (q2.mono HQ1.out.size));have HB2:=zz b2;have HC2:=zz (HB1.out.later q2);have hq1:w.heap.size<=w1.heap.size:=HQ1.out.size;have hz0:=HC2.out.lt;have HSP2:Hid (Wsl (fun b=>w.heap.size<=b/\b<w1.heap.size) (w1.alloc (.cells #[.int .i64 sid,.int .i64 (sat:Int),.bool slf,.int .i64 (sn:Int),.slice A2 scs.length c2] 177)) (.slice (some ⟨b1,o1,none⟩) l'.length l'.length) l'):=
   ⟨(Sl.below HSP.out.cap.sl q2 fun b h=>h.2).more fun b h=>⟨yD HW0.out h.1,h.2⟩,fun x hx=>(Sl.below (HSP.out.cs x hx) q2 fun b h=>h.2).more fun b h=>⟨yD HW0.out h.1,h.2⟩⟩
  have HCS2:Hid (Cs (fun b=>w.heap.size<=b/\b<w1.heap.size) (w1.alloc (.cells #[.int .i64 sid,.int .i64 (sat:Int),.bool slf,.int .i64 (sn:Int),.slice A2 scs.length c2] 177)) (.slice A2 scs.length c2) scs):=(Sl.below HCS.out q2 fun b h=>h.2).more fun b h=>⟨yD HW0.out h.1,h.2⟩
  clear q2 b2 e0 e1 e2 e3 e4 HT1 HQ1 HB1 HSP HCS hb1S hb1;unfold maxLen at hc1m;generalize w1.alloc (.cells #[.int .i64 sid,.int .i64 (sat:Int),.bool slf,.int .i64 (sn:Int),.slice A2 scs.length c2] 177)=W2 at*;have s0:(W2).cell? ⟨w1.heap.size,0,none⟩=some (.int .i64 sid):=HB2.out.cell 0;have s1:(W2).cell? ⟨w1.heap.size,1,none⟩=some (.int .i64 (sat:Int)):=HB2.out.cell 1;have s2:(W2).cell? ⟨w1.heap.size,2,none⟩=some (.bool slf):=HB2.out.cell 2;have s3:(W2).cell? ⟨w1.heap.size,3,none⟩=some (.int .i64 (sn:Int)):=HB2.out.cell 3;have s4:(W2).cell? ⟨w1.heap.size,4,none⟩=some (.slice A2 scs.length c2):=HB2.out.cell 4;have d0:(W2).cell? ⟨w.heap.size,0,none⟩=some (.string (st k)):=HC2.out.cell 0;have d1:(W2).cell? ⟨w.heap.size,1,none⟩=some (.string (st v)):=HC2.out.cell 1;by_cases h480:480<k.length+v.length
  .have hR:=HR.out;rw [yB h480]at hR;subst hR;clear HR;go_wp2_with fail
   refine(zFm _ slf (sn:Int) _ scs k v W2 HCS2.out hk hv h480).mono ?_;rintro e w3 ⟨rfl,hb3⟩;have HT3:=zz (HT2.out.later hb3);have HQ3:=zz (HQ2.out.trans (hb3.mono HQ2.out.size));clear hb3;go_wp2_with fail
   go_ret
   exact⟨rfl,HT3.out.later ((y7 _ _).alloc (y5 _) _),(Ptp.below HQ3.out).trans (Ptp.below ((y7 _ _).alloc (y5 _) _))⟩
  .have hR:=HR.out;rw [yA h480]at hR;have HR2:=zz hR;clear hR HR;go_wp2_with fail
   refine(z6M _ slf (sn:Int) _ scs k v W2 (by omega) HCS2.out HPO.out.1.asc.rises (by omega)).mono ?_;rintro e w3 ⟨vq,rfl,⟨A3,c3,rfl,hcs3⟩,hb3⟩;have huo:=UpOk.leaf (x:=(slf,sn,scs)) HPO.out.1 (HKY.out ⟨sid,sat,(slf,sn,scs)⟩ (by simp)) (k:=k) (v:=v) (by omega) (by omega);have hpp:z15 (slf,sn,scs) (k,v)=(slf,sn,putC scs (k,v)):=rfl;rw [hpp]at huo HR2;obtain⟨pc,hpc⟩:∃pc,putC scs (k,v)=pc:=⟨_,rfl⟩;rw [hpc]at hcs3 huo HR2 ⊢;have q4:=(y7 w3.heap.size w3).alloc (y5 _) (.cells #[.bool slf,.int .i64 (sn:Int),.slice A3 pc.length c3] 175);have HT4:=zz ((HT2.out.later hb3).later q4);have HQ4:=zz ((HQ2.out.trans (hb3.mono HQ2.out.size)).trans (q4.mono (yD HQ2.out.size hb3.size)));have hz2:=HB2.out.lt;have hb34:=hb3.trans (q4.mono hb3.size);have HB4:=zz (HB2.out.later hb34);have HP4:=zz (Blk.new w3 175 #[.bool slf,.int .i64 (sn:Int),.slice A3 pc.length c3]);have HS4:Hid (Wsl (fun b=>w.heap.size<=b/\b<w1.heap.size) (w3.alloc (.cells #[.bool slf,.int .i64 (sn:Int),.slice A3 pc.length c3] 175)) (.slice (some ⟨b1,o1,none⟩) l'.length l'.length) l'):=
    ⟨Sl.below HSP2.out.sl hb34 fun b h=>Yp h.2 hz2,fun x hx=>Sl.below (HSP2.out.cs x hx) hb34 fun b h=>Yp h.2 hz2⟩
   have HC4:Hid (Cs (fun b=>w.heap.size<=b/\b<w3.heap.size) (w3.alloc (.cells #[.bool slf,.int .i64 (sn:Int),.slice A3 pc.length c3] 175)) (.slice A3 pc.length c3) pc):=(Sl.below hcs3 q4 fun b h=>h.2).more fun b h=>⟨yD HQ2.out.size h.1,h.2⟩
   have HUO:=zz huo;have hz3:=HP4.out.lt;clear hcs3 hb3 q4 hb34 HT2 HQ2 HB2 HC2 HSP2 HCS2 s0 s1 s2 s3 s4 d0 d1 huo hpc hpp;go_upto_region 8 with(fail)
   generalize w3.alloc (.cells #[.bool slf,.int .i64 (sn:Int),.slice A3 pc.length c3] 175)=W4 at*;generalize w3.heap.size=gx at*;generalize w1.heap.size=gs at*;have tg0:W4.cell? ⟨g,0,none⟩=some (.pointer (some ⟨Z.g,0,none⟩)):=HT4.out.blk.cell 0;have hpl:P.pages.length<=90:=by unfold Pgr.pages;exact yD (YI _ _) (by simp)
   have hwp:IntKind.i64.wrap (90-(P.pages.length:Int))=90-(P.pages.length:Int):=z1C (by omega) (by omega);have hwl:IntKind.i64.wrap ((l'.length:Int)+1+2)=(l'.length:Int)+1+2:=z1C (by omega) (by omega);go_wp2_with fail
   refine(z3P Z P W4 HT4.out.pg).mono ?_;rintro e w5 ⟨v5,rfl,ho5,hb5⟩;obtain⟨A5,k5,c5,rfl⟩:=z0v ho5;obtain rfl:=z0h ho5;have hil:(il P.pages).length=P.pages.length:=by simp [il]
   rw [hil];have HT5:=zz (HT4.out.later hb5);have HQ5:=zz (HQ4.out.trans (hb5.mono HQ4.out.size));have hz4:=HB4.out.lt;have HS5:Hid (Wsl (fun b=>w.heap.size<=b/\b<gs) w5 (.slice (some ⟨b1,o1,none⟩) l'.length l'.length) l'):=⟨Sl.below HS4.out.sl hb5 fun b h=>Yp h.2 hz4,fun x hx=>Sl.below (HS4.out.cs x hx) hb5 fun b h=>Yp h.2 hz4⟩;have HC5:Hid (Cs (fun b=>w.heap.size<=b/\b<gx) w5 (.slice A3 pc.length c3) pc):=Sl.below HC4.out hb5 fun b h=>Yp h.2 hz3
   have HB5:=zz (HB4.out.later hb5);have HP5:=zz (HP4.out.later hb5);have hzg:=HB5.out.lt;clear ho5 hb5 hil tg0 HT4 HQ4 HB4 HP4 HS4 HC4;by_cases hfull:90<P.pages.length+(l'.length+1+2)
   .have hR:=HR2.out;rw [yw,yB hfull]at hR;subst hR;have hf1:(90:Int)-(P.pages.length:Int)<(l'.length:Int)+1+2:=by omega
    clear HR2 hfull;go_wp2_with fail
    go_ret
    exact⟨rfl,HT5.out,Ptp.below HQ5.out⟩
   .have hR:=HR2.out;rw [yw,yA hfull]at hR;have HR3:=zz hR;have hf1:¬ (90:Int)-(P.pages.length:Int)<(l'.length:Int)+1+2:=by omega
    clear HR2 hR hfull;have s0:(w5).cell? ⟨gs,0,none⟩=some (.int .i64 sid):=HB5.out.cell 0;have s1:(w5).cell? ⟨gs,1,none⟩=some (.int .i64 (sat:Int)):=HB5.out.cell 1;have s2:(w5).cell? ⟨gs,2,none⟩=some (.bool slf):=HB5.out.cell 2;have s3:(w5).cell? ⟨gs,3,none⟩=some (.int .i64 (sn:Int)):=HB5.out.cell 3;have s4:(w5).cell? ⟨gs,4,none⟩=some (.slice A2 scs.length c2):=HB5.out.cell 4;have x0:(w5).cell? ⟨gx,0,none⟩=some (.bool slf):=HP5.out.cell 0;have x1:(w5).cell? ⟨gx,1,none⟩=some (.int .i64 (sn:Int)):=HP5.out.cell 1;have x2:(w5).cell? ⟨gx,2,none⟩=some (.slice A3 pc.length c3):=HP5.out.cell 2;have hn3:IntKind.i64.wrap ((l'.length:Int)+1-1)=(l'.length:Int):=by rw [show(l'.length:Int)+1-1=(l'.length:Int) by omega];exact hn2
    have hn4:(0:Int)<=(l'.length:Int):=by omega
    have hn5:(l'.length:Int)<=(c1:Int):=by omega
    have hn6:l'.length<=c1:=by omega
    go_wp2_with fail
    go_still_tail 12,(by kernel_rfl)
    change wpList _ _ _ _ _ w5.drew;have HT6:Hid (Tg w5.drew g Z P c):=HT5.out.later ((y7 _ _).drew);have HQ6:Hid (Below w.heap.size w w5.drew):=HQ5.out.drew;have HS6:Hid (Wsl (fun b=>b<w5.drew.heap.size/\¬Z.has b) w5.drew (.slice (some ⟨b1,o1,none⟩) l'.length l'.length) l'):=
     ⟨Sl.more (Sl.drew HS5.out.sl) fun b h=>⟨Yp h.2 hzg,fun e=>by have:=HZ.out b e;omega⟩,fun x hx=>Sl.more (Sl.drew (HS5.out.cs x hx)) fun b h=>⟨Yp h.2 hzg,fun e=>by have:=HZ.out b e;omega⟩⟩
    have HC6:Hid (Cs (fun b=>w.heap.size<=b/\b<gx) w5.drew (.slice A3 pc.length c3) pc):=Sl.drew HC5.out;generalize w5.drew=w6 at*;go_wp2_with fail
    refine(zGQ g Z P c _ l' (some ⟨b1,o1,none⟩) l'.length sid slf sn _ pc w6 HT6.out HS6.out HC6.out (fun b h e=>by have:=HZ.out b e;omega) HUO.out (fun y hy=> ?_) HWO.out.root (HWO.out.pg ⟨sid,sat,(slf,sn,scs)⟩ (by simp)).2 (by omega)).mono ?_
    .have hy1:y.1∈l'.map (·.1)++ [⟨sid,sat,(slf,sn,scs)⟩]:=yS _ (yP.2 ⟨y,hy,rfl⟩);exact⟨(HWO.out.pg _ hy1).1,HKY.out _ hy1,(HWO.out.pg _ hy1).2⟩
    rintro e w7 ⟨rfl,hT7,hS7⟩;have HT7:=zz hT7;have HS7:=zz hS7;clear hT7 hS7;go_wp2_with fail
    go_ret
    rw [HR3.out];exact⟨rfl,HT7.out,(Ptp.below HQ6.out).trans HS7.out⟩
def DownC(g:Nat)(Z:Pz)(P:Pgr)(c:Int->List UInt8)(l:List TStp)(id:Int)(x:Pag):Prop:=
 ∀ (w:World) (S:Nat->Prop) (l':z7q) (A0:Option Addr) (c0:Nat) (v0:Value),l'.map (·.1)=l->Tg w g Z P c->Wsl (fun b=>b<w.heap.size/\¬Z.has b) w (.slice A0 l'.length c0) l'->Cs S w v0 x.2.2->(∀b,S b->¬Z.has b)->
   Calls prog 152 #[.pointer (some ⟨g,0,none⟩),.slice A0 l'.length c0,.int .i64 id,.agg #[.bool x.1,.int .i64 (x.2.1:Int),v0]] w fun e w'=>e= .returned (.tuple #[])/\z1O g Z (z2t c P l.reverse id x) c w w'
def zH9(g:Nat)(Z:Pz)(P':Pgr)(er:Nat)(c:Int->List UInt8)(w:World)(e:Ending)(w':World):Prop:=e= .returned (.int .i64 (er:Int))/\z1O g Z P' c w w'
theorem z8j(g:Nat)(Z:Pz)(P:Pgr)(c:Int->List UInt8)(k:List UInt8)(n0:Nat)(l:List TStp)(s:TStp)(w:World)(ht:Tg w g Z P c)(hw:z3E (P.pgD c) k n0 0=some (l++ [s]))(hL:l.length<=999)
 (hd:isK s.pg.2.2 k=true->DownC g Z P c l s.id (z40 s.pg k)):Calls prog 115 #[.pointer (some ⟨g,0,none⟩),.string (st k)] w (zH9 g Z (deleteT P c (l++ [s]) k).1 (deleteT P c (l++ [s]) k).2 c w):=by
 have HWO:=zz (WayOk.of hw);have HW:=zz hw;have HZ:Hid (∀b,Z.has b->b<w.heap.size):=fun b h=>ht.pg.lt h
 have HT:=zz ht;have HD:=zz hd;have HP:Hid (deleteT P c (l++ [s]) k=if isK s.pg.2.2 k then(z2t c P l.reverse s.id (z40 s.pg k),0)else(P,140)):=by
  unfold deleteT Hid;simp
 generalize deleteT P c (l++ [s]) k=R at*;clear ht hw hd;go_enter func115,ntmps115
 go_wp2_with fail
 refine(z6S g Z P c k n0 (l++ [s]) w HT.out HW.out (by simp;omega)).mono ?_;rintro e w1 ⟨A,k1,c1,ls,rfl,hs,hm,hb1⟩;obtain⟨l',⟨s',u⟩,rfl⟩:=z5k (l:=ls) (fun e=>by rw [e]at hm;simp at hm);rw [Y6]at hm;obtain⟨hm1,hm2⟩:=Qi hm rfl;obtain rfl:s'=s:=by simpa using hm2
 subst hm1;obtain rfl:k1=l'.length+1:=by have:=hs.len;simpa using this
 obtain⟨hsp,b1,o1,rfl,hb1S,hcel,hc1,hc1m,hcs⟩:=hs.pop;obtain⟨sid,sat,slf,sn,scs⟩:=s';simp only at hcs;obtain⟨A2,c2,rfl,_⟩:=hcs.at;have e0:=hcel 0 _ rfl;have e1:=hcel 1 _ rfl;have e2:=hcel 2 _ rfl;have e3:=hcel 3 _ rfl;have e4:=hcel 4 _ rfl;simp only [YQ]at e0;have hll2:l'.length<=1000:=by simp at hL;omega
 have hn2:IntKind.i64.wrap (l'.length:Int)=(l'.length:Int):=z1C (by omega) (by omega);have HT1:=zz (HT.out.later hb1);have HQ1:=zz hb1;have HSP:=zz hsp;have HCS:=zz hcs;have hpo:=HWO.out.pg ⟨sid,sat,slf,sn,scs⟩ (by simp);have HPO:=zz hpo;have hcl:=z0m hpo.1;simp only at hcl;clear hsp hcs hcel hs hm hm2 hpo HT HW hL;go_upto_region 3 with(fail)
 have q2:=(y7 w1.heap.size w1).alloc (y5 _) (.cells #[.int .i64 sid,.int .i64 (sat:Int),.bool slf,.int .i64 (sn:Int),.slice A2 scs.length c2] 177);have b2:=Blk.new w1 177 #[.int .i64 sid,.int .i64 (sat:Int),.bool slf,.int .i64 (sn:Int),.slice A2 scs.length c2];have HT2:=zz (HT1.out.later q2);have HQ2:=zz (HQ1.out.trans (q2.mono HQ1.out.size));have HB2:=zz b2;have hq1:w.heap.size<=w1.heap.size:=HQ1.out.size;have HSP2:Hid (Wsl (fun b=>w.heap.size<=b/\b<w1.heap.size) (w1.alloc (.cells #[.int .i64 sid,.int .i64 (sat:Int),.bool slf,.int .i64 (sn:Int),.slice A2 scs.length c2] 177)) (.slice (some ⟨b1,o1,none⟩) l'.length l'.length) l'):=
  ⟨Sl.below HSP.out.cap.sl q2 fun b h=>h.2,fun x hx=>Sl.below (HSP.out.cs x hx) q2 fun b h=>h.2⟩
 have HCS2:Hid (Cs (fun b=>w.heap.size<=b/\b<w1.heap.size) (w1.alloc (.cells #[.int .i64 sid,.int .i64 (sat:Int),.bool slf,.int .i64 (sn:Int),.slice A2 scs.length c2] 177)) (.slice A2 scs.length c2) scs):=Sl.below HCS.out q2 fun b h=>h.2
 clear q2 b2 e0 e1 e2 e3 e4 HT1 HQ1 HSP HCS hb1S hb1;unfold maxLen at hc1m;generalize w1.alloc (.cells #[.int .i64 sid,.int .i64 (sat:Int),.bool slf,.int .i64 (sn:Int),.slice A2 scs.length c2] 177)=W2 at*;have s0:(W2).cell? ⟨w1.heap.size,0,none⟩=some (.int .i64 sid):=HB2.out.cell 0;have s1:(W2).cell? ⟨w1.heap.size,1,none⟩=some (.int .i64 (sat:Int)):=HB2.out.cell 1;have s2:(W2).cell? ⟨w1.heap.size,2,none⟩=some (.bool slf):=HB2.out.cell 2;have s3:(W2).cell? ⟨w1.heap.size,3,none⟩=some (.int .i64 (sn:Int)):=HB2.out.cell 3;have s4:(W2).cell? ⟨w1.heap.size,4,none⟩=some (.slice A2 scs.length c2):=HB2.out.cell 4;cases hki:isK scs k with
 |false=>
  have hR:=HP.out;simp only [hki,yu,yv]at hR;subst hR;clear HP;go_wp2_with fail
  refine(zDq _ slf (sn:Int) _ scs k W2 (by omega) HCS2.out HPO.out.1.asc.rises hki).mono ?_;rintro e w3 ⟨rfl,hb3⟩;have HT3:=zz (HT2.out.later hb3);have HQ3:=zz (HQ2.out.trans (hb3.mono HQ2.out.size));clear hb3;go_wp2_with fail
  go_ret
  exact⟨rfl,HT3.out.later ((y7 _ _).alloc (y5 _) _),(Ptp.below HQ3.out).trans (Ptp.below ((y7 _ _).alloc (y5 _) _))⟩
 |true=>
  have hR:=HP.out;simp only [hki,YN]at hR;have HR3:=zz hR;clear hR HP;go_wp2_with fail
  refine(z7J _ slf (sn:Int) _ scs k W2 (by omega) HCS2.out HPO.out.1.asc.rises hki).mono ?_;rintro e w3 ⟨vq,rfl,⟨A3,c3,rfl,hcs3⟩,hb3⟩;have hdp:z40 (slf,sn,scs) k=(slf,sn,delC scs k):=rfl;have hdd:=HD.out hki;rw [hdp]at hdd HR3;obtain⟨pc,hpc⟩:∃pc,delC scs k=pc:=⟨_,rfl⟩;rw [hpc]at hcs3 hdd HR3 ⊢;have HDD:=zz hdd;have q4:=(y7 w3.heap.size w3).alloc (y5 _) (.cells #[.bool slf,.int .i64 (sn:Int),.slice A3 pc.length c3] 175);have HT4:=zz ((HT2.out.later hb3).later q4);have HQ4:=zz ((HQ2.out.trans (hb3.mono HQ2.out.size)).trans (q4.mono (yD HQ2.out.size hb3.size)));have hz2:=HB2.out.lt;have hb34:=hb3.trans (q4.mono hb3.size);have HB4:=zz (HB2.out.later hb34);have HP4:=zz (Blk.new w3 175 #[.bool slf,.int .i64 (sn:Int),.slice A3 pc.length c3]);have HS4:Hid (Wsl (fun b=>w.heap.size<=b/\b<w1.heap.size) (w3.alloc (.cells #[.bool slf,.int .i64 (sn:Int),.slice A3 pc.length c3] 175)) (.slice (some ⟨b1,o1,none⟩) l'.length l'.length) l'):=
   ⟨Sl.below HSP2.out.sl hb34 fun b h=>Yp h.2 hz2,fun x hx=>Sl.below (HSP2.out.cs x hx) hb34 fun b h=>Yp h.2 hz2⟩
  have HC4:Hid (Cs (fun b=>w.heap.size<=b/\b<w3.heap.size) (w3.alloc (.cells #[.bool slf,.int .i64 (sn:Int),.slice A3 pc.length c3] 175)) (.slice A3 pc.length c3) pc):=(Sl.below hcs3 q4 fun b h=>h.2).more fun b h=>⟨yD HQ2.out.size h.1,h.2⟩
  have hz3:=HP4.out.lt;clear hcs3 hb3 q4 hb34 HT2 HQ2 HB2 HSP2 HCS2 s0 s1 s2 s3 s4 hpc hdp hdd HD;go_upto_region 6 with(fail)
  generalize w3.alloc (.cells #[.bool slf,.int .i64 (sn:Int),.slice A3 pc.length c3] 175)=W4 at*;generalize w3.heap.size=gx at*;generalize w1.heap.size=gs at*;have s0:(W4).cell? ⟨gs,0,none⟩=some (.int .i64 sid):=HB4.out.cell 0;have s1:(W4).cell? ⟨gs,1,none⟩=some (.int .i64 (sat:Int)):=HB4.out.cell 1;have s2:(W4).cell? ⟨gs,2,none⟩=some (.bool slf):=HB4.out.cell 2;have s3:(W4).cell? ⟨gs,3,none⟩=some (.int .i64 (sn:Int)):=HB4.out.cell 3;have s4:(W4).cell? ⟨gs,4,none⟩=some (.slice A2 scs.length c2):=HB4.out.cell 4;have x0:(W4).cell? ⟨gx,0,none⟩=some (.bool slf):=HP4.out.cell 0;have x1:(W4).cell? ⟨gx,1,none⟩=some (.int .i64 (sn:Int)):=HP4.out.cell 1;have x2:(W4).cell? ⟨gx,2,none⟩=some (.slice A3 pc.length c3):=HP4.out.cell 2;have hn3:IntKind.i64.wrap ((l'.length:Int)+1-1)=(l'.length:Int):=by rw [show(l'.length:Int)+1-1=(l'.length:Int) by omega];exact hn2
  have hn4:(0:Int)<=(l'.length:Int):=by omega
  have hn5:(l'.length:Int)<=(c1:Int):=by omega
  have hn6:l'.length<=c1:=by omega
  have hzg:=HB4.out.lt;go_still_tail 12,(by kernel_rfl)
  change wpList _ _ _ _ _ W4.drew;have HT6:Hid (Tg W4.drew g Z P c):=HT4.out.later ((y7 _ _).drew);have HQ6:Hid (Below w.heap.size w W4.drew):=HQ4.out.drew;have HS6:Hid (Wsl (fun b=>b<W4.drew.heap.size/\¬Z.has b) W4.drew (.slice (some ⟨b1,o1,none⟩) l'.length l'.length) l'):=
   ⟨Sl.more (Sl.drew HS4.out.sl) fun b h=>⟨Yp h.2 hzg,fun e=>by have:=HZ.out b e;omega⟩,fun x hx=>Sl.more (Sl.drew (HS4.out.cs x hx)) fun b h=>⟨Yp h.2 hzg,fun e=>by have:=HZ.out b e;omega⟩⟩
  have HC6:Hid (Cs (fun b=>w.heap.size<=b/\b<gx) W4.drew (.slice A3 pc.length c3) pc):=Sl.drew HC4.out;generalize W4.drew=w6 at*;go_wp2_with fail
  refine(HDD.out w6 _ l' (some ⟨b1,o1,none⟩) l'.length _ rfl HT6.out HS6.out HC6.out (fun b h e=>by have:=HZ.out b e;omega)).mono ?_;rintro e w7 ⟨rfl,hT7,hS7⟩;have HT7:=zz hT7;have HS7:=zz hS7;clear hT7 hS7;go_wp2_with fail
  go_ret
  rw [HR3.out];exact⟨rfl,HT7.out,(Ptp.below HQ6.out).trans HS7.out⟩
end
end Go.Proofs.YthnlcbamjehpdaaGreatDoor
