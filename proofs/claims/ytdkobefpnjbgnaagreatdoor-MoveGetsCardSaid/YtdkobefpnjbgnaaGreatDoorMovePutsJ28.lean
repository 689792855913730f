/- Part 28. -/
import Derived.Test.YtdkobefpnjbgnaaGreatDoorMovePutsJ25
import Derived.Test.YtdkobefpnjbgnaaGreatDoorMovePutsJ27
namespace Go.Proofs.YtdkobefpnjbgnaaGreatDoor
set_option linter.unusedVariables false
set_option maxHeartbeats 16000000
set_option maxRecDepth 100000
section
open Go Go.RowKit
theorem zBE{pf:Int→Pag}{k:List UInt8}:∀ {n:Nat} {i:Int} {l:List TStp},z4T pf k n i=some l→∀s∈l,s.pg=pf s.id
 |0,_,_,h,_,_=>by cases h
 |n+1,i,l,h,s,hs=>by
  rw [z4T]at h
  split at h
  ·cases h;obtain rfl:=List.mem_singleton.1 hs;rfl
  ·rw [Option.map_eq_some_iff]at h;obtain⟨l',h1,rfl⟩:=h;rcases List.mem_cons.1 hs with rfl|hs
   ·rfl
   ·exact zBE h1 s hs
theorem zBn{pf:Int→Pag}{k:List UInt8}:∀ {n:Nat} {i:Int} {l:List TStp},z4T pf k n i=some l→InI i→∀s∈l,InI s.id
 |0,_,_,h,_,_,_=>by cases h
 |n+1,i,l,h,hi,s,hs=>by
  rw [z4T]at h
  split at h
  ·cases h;obtain rfl:=List.mem_singleton.1 hs;exact hi
  ·rw [Option.map_eq_some_iff]at h;obtain⟨l',h1,rfl⟩:=h;rcases List.mem_cons.1 hs with rfl|hs
   ·exact hi
   ·exact zBn h1 (zCF _) s hs
theorem zEm{pf:Int→Pag}{k:List UInt8}{n:Nat}{i:Int}{l:List TStp}(h:z4T pf k n i=some l):l.head?.map (·.id)=some i:=by
 rcases n with _|n
 ·cases h
 ·rw [z4T]at h
  split at h
  ·cases h;rfl
  ·rw [Option.map_eq_some_iff]at h;obtain⟨l',_,rfl⟩:=h;rfl
structure WayOk(P:Pgr)(c:Int→List UInt8)(l:List TStp)(s:TStp):Prop where
 pg:∀t∈l++ [s],POk t.pg∧InI t.id
 root:Root0 l s.id
theorem WayOk.of{P:Pgr}{c:Int→List UInt8}{k:List UInt8}{n:Nat}{l:List TStp}{s:TStp}(h:z4T (P.pgD c) k n 0=some (l++ [s])):WayOk P c l s:=by
 refine⟨fun t ht=>⟨by rw [zBE h t ht];exact zDy _ _ _,zBn h (by unfold InI;omega) t ht⟩,?_⟩;have:=zEm h;unfold Root0;cases l with
 |nil=>simpa using this
 |cons a l=>simpa using this
theorem Wsl.len{S:Nat→Prop}{w:World}{A:Option Addr}{k c:Nat}{l:z9z}(h:Wsl S w (.slice A k c) l):k=l.length:=by
 obtain⟨_,A',c',hv,_⟩:=h.sl;injection hv
theorem Wsl.cap{S:Nat→Prop}{w:World}{A:Option Addr}{n c:Nat}{l:z9z}(h:Wsl S w (.slice A n c) l):Wsl S w (.slice A n n) l:=by
 obtain⟨⟨h1,A',c',hv,h2,h3,h4,h5⟩,h6⟩:=h;injection hv with e1 e2 e3
 subst e1 e2 e3;exact⟨⟨h1,A,_,rfl,Nat.le_refl _,by omega,fun e=>by have:=h4 e;omega,h5⟩,h6⟩
theorem UpOk.leaf{x:Pag}(h:POk x)(hk:∀c∈x.2.2,c.1.length≤470){k v:List UInt8}(h1:k.length≤240)(h2:k.length+v.length≤480):UpOk (z0t x (k,v)):=by
 have h3:=z1c h;have h4:=z3n x.2.2 (k,v);refine⟨by unfold z0t;simp only;omega,by unfold z0t;simp only;omega,fun c hc=> ?_⟩;unfold z0t at hc;simp only at hc;unfold putC at hc;rcases List.mem_append.1 hc with hc|hc
 ·exact⟨hk c (List.mem_of_mem_take hc),by have:=z1d none _ h.parts.2.1 c (List.mem_of_mem_take hc);omega⟩
 ·rcases List.mem_cons.1 hc with rfl|hc
  ·simp only;omega
  ·exact⟨hk c (List.mem_of_mem_drop hc),by have:=z1d none _ h.parts.2.1 c (List.mem_of_mem_drop hc);omega⟩
def zGk(g:Nat)(Z:Pz)(P':Pgr)(er:Nat)(c:Int→List UInt8)(w:World)(e:Ending)(w':World):Prop:=e= .returned (.int .i64 (er:Int))∧z1i g Z P' c w w'
theorem zHb(g:Nat)(Z:Pz)(P:Pgr)(c:Int→List UInt8)(k v:List UInt8)(n0:Nat)(L:List TStp)(w:World)(ht:Tg w g Z P c)(hk:k.length≤65536)(hv:v.length≤65536)(hw:z4T (P.pgD c) k n0 0=some L)(hL:L.length≤1000)
 (hky:∀s∈L,∀x∈s.pg.2.2,x.1.length≤470):Calls Tryz.prog 129 #[.pointer (some ⟨g,0,none⟩),.agg #[.string (st k),.string (st v)]] w (zGk g Z (putT P L (k,v)).1 (putT P L (k,v)).2 c w):=by
 obtain⟨l,s,rfl⟩:=z8v (zJX hw);have HWO:=zz (WayOk.of hw);have HW:=zz hw;have HKY:=zz hky;have HZ:Hid (∀b,Z.has b→b<w.heap.size):=fun b h=>ht.pg.lt h
 have q0:=(Below.refl w.heap.size w).alloc (Nat.le_refl _) (.cells #[.string (st k),.string (st v)] 121);have HT:=zz (ht.later q0);have b0:=Blk.new w 121 #[.string (st k),.string (st v)];have HB:=zz b0;have HQ:=zz q0;have c0:(w.alloc (.cells #[.string (st k),.string (st v)] 121)).cell? ⟨w.heap.size,0,none⟩=some (.string (st k)):=b0.cell 0;have hll:l.length+1≤1000:=by simpa using hL
 have HP:Hid (putT P (l++ [s]) (k,v)=if 240<k.length then(P,100)else if 480<k.length+v.length then(P,100)else if 90<P.pages.length+(l.length+1+2)then(P,141)else(upP P l.reverse s.id (z0t s.pg (k,v)),0)):=by
  unfold putT Hid;simp
 generalize putT P (l++ [s]) (k,v)=R at*;clear ht hw hky q0 b0 hL;go_enter Tryz.func129,Tryz.ntmps129
 by_cases h240:240<k.length
 ·have hR:=HP.out;rw [if_pos h240]at hR;have h1:(240:Int)<(k.length:Int):=by omega
  subst hR;clear HP;go_wp2_with fail
  go_ret
  exact⟨rfl,HT.out,Ptp.below HQ.out⟩
 ·have hR:=HP.out;rw [if_neg h240]at hR;have HR:=zz hR;have h1:¬ (240:Int)<(k.length:Int):=by omega
  clear HP hR;go_wp2_with fail
  generalize hW:w.alloc (.cells #[.string (st k),.string (st v)] 121)=W at*;have HW0:Hid (w.heap.size≤W.heap.size):=HQ.out.size;clear hW;refine(zBl g Z P c k n0 (l++ [s]) W HT.out HW.out (by simp;omega)).mono ?_;rintro e w1 ⟨A,k1,c1,ls,rfl,hs,hm,hb1⟩;obtain⟨l',⟨s',u⟩,rfl⟩:=z8v (l:=ls) (fun e=>by rw [e]at hm;simp at hm);rw [List.map_append]at hm;obtain⟨hm1,hm2⟩:=List.append_inj' hm rfl;obtain rfl:s'=s:=by simpa using hm2
  subst hm1;obtain rfl:k1=l'.length+1:=by have:=hs.len;simpa using this
  obtain⟨hsp,b1,o1,rfl,hb1S,hcel,hc1,hc1m,hcs⟩:=hs.pop;obtain⟨sid,sat,slf,sn,scs⟩:=s';simp only at hcs;obtain⟨A2,c2,rfl,_⟩:=hcs.at;have e0:=hcel 0 _ rfl;have e1:=hcel 1 _ rfl;have e2:=hcel 2 _ rfl;have e3:=hcel 3 _ rfl;have e4:=hcel 4 _ rfl;simp only [Nat.add_zero]at e0;have hll2:l'.length≤1000:=by simp at hll;omega
  have hn2:IntKind.i64.wrap (l'.length:Int)=(l'.length:Int):=z1T (by omega) (by omega);have HT1:=zz (HT.out.later hb1);have HB1:=zz (HB.out.later hb1);have HQ1:=zz (HQ.out.trans (hb1.mono HQ.out.size));have HSP:=zz hsp;have HCS:=zz hcs;have hpo:=HWO.out.pg ⟨sid,sat,slf,sn,scs⟩ (by simp);have HPO:=zz hpo;have hcl:=z1c hpo.1;simp only at hcl;clear hsp hcs hcel hs hm hm2 hpo c0 HT HB HQ HW;go_upto_region 5 with(fail)
  have q2:=(Below.refl w1.heap.size w1).alloc (Nat.le_refl _) (.cells #[.int .i64 sid,.int .i64 (sat:Int),.bool slf,.int .i64 (sn:Int),.slice A2 scs.length c2] 188);have b2:=Blk.new w1 188 #[.int .i64 sid,.int .i64 (sat:Int),.bool slf,.int .i64 (sn:Int),.slice A2 scs.length c2];have HT2:=zz (HT1.out.later q2);have HQ2:=zz (HQ1.out.trans (q2.mono HQ1.out.size));have HB2:=zz b2;have HC2:=zz (HB1.out.later q2);have hq1:w.heap.size≤w1.heap.size:=HQ1.out.size;have hz0:=HC2.out.lt;have HSP2:Hid (Wsl (fun b=>w.heap.size≤b∧b<w1.heap.size) (w1.alloc (.cells #[.int .i64 sid,.int .i64 (sat:Int),.bool slf,.int .i64 (sn:Int),.slice A2 scs.length c2] 188)) (.slice (some ⟨b1,o1,none⟩) l'.length l'.length) l'):=
   ⟨(Sl.below HSP.out.cap.sl q2 fun b h=>h.2).more fun b h=>⟨Nat.le_trans HW0.out h.1,h.2⟩,fun x hx=>(Sl.below (HSP.out.cs x hx) q2 fun b h=>h.2).more fun b h=>⟨Nat.le_trans HW0.out h.1,h.2⟩⟩
  have HCS2:Hid (Cs (fun b=>w.heap.size≤b∧b<w1.heap.size) (w1.alloc (.cells #[.int .i64 sid,.int .i64 (sat:Int),.bool slf,.int .i64 (sn:Int),.slice A2 scs.length c2] 188)) (.slice A2 scs.length c2) scs):=(Sl.below HCS.out q2 fun b h=>h.2).more fun b h=>⟨Nat.le_trans HW0.out h.1,h.2⟩
  clear q2 b2 e0 e1 e2 e3 e4 HT1 HQ1 HB1 HSP HCS hb1S hb1;unfold maxLen at hc1m;generalize w1.alloc (.cells #[.int .i64 sid,.int .i64 (sat:Int),.bool slf,.int .i64 (sn:Int),.slice A2 scs.length c2] 188)=W2 at*;have s0:(W2).cell? ⟨w1.heap.size,0,none⟩=some (.int .i64 sid):=HB2.out.cell 0;have s1:(W2).cell? ⟨w1.heap.size,1,none⟩=some (.int .i64 (sat:Int)):=HB2.out.cell 1;have s2:(W2).cell? ⟨w1.heap.size,2,none⟩=some (.bool slf):=HB2.out.cell 2;have s3:(W2).cell? ⟨w1.heap.size,3,none⟩=some (.int .i64 (sn:Int)):=HB2.out.cell 3;have s4:(W2).cell? ⟨w1.heap.size,4,none⟩=some (.slice A2 scs.length c2):=HB2.out.cell 4;have d0:(W2).cell? ⟨w.heap.size,0,none⟩=some (.string (st k)):=HC2.out.cell 0;have d1:(W2).cell? ⟨w.heap.size,1,none⟩=some (.string (st v)):=HC2.out.cell 1;by_cases h480:480<k.length+v.length
  ·have hR:=HR.out;rw [if_pos h480]at hR;subst hR;clear HR;go_wp2_with fail
   refine(zFW _ slf (sn:Int) _ scs k v W2 HCS2.out hk hv h480).mono ?_;rintro e w3 ⟨rfl,hb3⟩;have HT3:=zz (HT2.out.later hb3);have HQ3:=zz (HQ2.out.trans (hb3.mono HQ2.out.size));clear hb3;go_wp2_with fail
   go_ret
   exact⟨rfl,HT3.out.later ((Below.refl _ _).alloc (Nat.le_refl _) _),(Ptp.below HQ3.out).trans (Ptp.below ((Below.refl _ _).alloc (Nat.le_refl _) _))⟩
  ·have hR:=HR.out;rw [if_neg h480]at hR;have HR2:=zz hR;clear hR HR;go_wp2_with fail
   refine(z8A _ slf (sn:Int) _ scs k v W2 (by omega) HCS2.out HPO.out.1.asc.rises (by omega)).mono ?_;rintro e w3 ⟨vq,rfl,⟨A3,c3,rfl,hcs3⟩,hb3⟩;have huo:=UpOk.leaf (x:=(slf,sn,scs)) HPO.out.1 (HKY.out ⟨sid,sat,(slf,sn,scs)⟩ (by simp)) (k:=k) (v:=v) (by omega) (by omega);have hpp:z0t (slf,sn,scs) (k,v)=(slf,sn,putC scs (k,v)):=rfl;rw [hpp]at huo HR2;obtain⟨pc,hpc⟩:∃pc,putC scs (k,v)=pc:=⟨_,rfl⟩;rw [hpc]at hcs3 huo HR2 ⊢;have q4:=(Below.refl w3.heap.size w3).alloc (Nat.le_refl _) (.cells #[.bool slf,.int .i64 (sn:Int),.slice A3 pc.length c3] 186);have HT4:=zz ((HT2.out.later hb3).later q4);have HQ4:=zz ((HQ2.out.trans (hb3.mono HQ2.out.size)).trans (q4.mono (Nat.le_trans HQ2.out.size hb3.size)));have hz2:=HB2.out.lt;have hb34:=hb3.trans (q4.mono hb3.size);have HB4:=zz (HB2.out.later hb34);have HP4:=zz (Blk.new w3 186 #[.bool slf,.int .i64 (sn:Int),.slice A3 pc.length c3]);have HS4:Hid (Wsl (fun b=>w.heap.size≤b∧b<w1.heap.size) (w3.alloc (.cells #[.bool slf,.int .i64 (sn:Int),.slice A3 pc.length c3] 186)) (.slice (some ⟨b1,o1,none⟩) l'.length l'.length) l'):=
    ⟨Sl.below HSP2.out.sl hb34 fun b h=>Nat.lt_trans h.2 hz2,fun x hx=>Sl.below (HSP2.out.cs x hx) hb34 fun b h=>Nat.lt_trans h.2 hz2⟩
   have HC4:Hid (Cs (fun b=>w.heap.size≤b∧b<w3.heap.size) (w3.alloc (.cells #[.bool slf,.int .i64 (sn:Int),.slice A3 pc.length c3] 186)) (.slice A3 pc.length c3) pc):=(Sl.below hcs3 q4 fun b h=>h.2).more fun b h=>⟨Nat.le_trans HQ2.out.size h.1,h.2⟩
   have HUO:=zz huo;have hz3:=HP4.out.lt;clear hcs3 hb3 q4 hb34 HT2 HQ2 HB2 HC2 HSP2 HCS2 s0 s1 s2 s3 s4 d0 d1 huo hpc hpp;go_upto_region 8 with(fail)
   generalize w3.alloc (.cells #[.bool slf,.int .i64 (sn:Int),.slice A3 pc.length c3] 186)=W4 at*;generalize w3.heap.size=gx at*;generalize w1.heap.size=gs at*;have tg0:W4.cell? ⟨g,0,none⟩=some (.pointer (some ⟨Z.g,0,none⟩)):=HT4.out.blk.cell 0;have hpl:P.pages.length≤90:=by unfold Pgr.pages;exact Nat.le_trans (List.length_filter_le _ _) (by simp)
   have hwp:IntKind.i64.wrap (90-(P.pages.length:Int))=90-(P.pages.length:Int):=z1T (by omega) (by omega);have hwl:IntKind.i64.wrap ((l'.length:Int)+1+2)=(l'.length:Int)+1+2:=z1T (by omega) (by omega);go_wp2_with fail
   refine(z3m Z P W4 HT4.out.pg).mono ?_;rintro e w5 ⟨v5,rfl,ho5,hb5⟩;obtain⟨A5,k5,c5,rfl⟩:=z0p ho5;obtain rfl:=z0V ho5;have hil:(il P.pages).length=P.pages.length:=by simp [il]
   rw [hil];have HT5:=zz (HT4.out.later hb5);have HQ5:=zz (HQ4.out.trans (hb5.mono HQ4.out.size));have hz4:=HB4.out.lt;have HS5:Hid (Wsl (fun b=>w.heap.size≤b∧b<gs) w5 (.slice (some ⟨b1,o1,none⟩) l'.length l'.length) l'):=⟨Sl.below HS4.out.sl hb5 fun b h=>Nat.lt_trans h.2 hz4,fun x hx=>Sl.below (HS4.out.cs x hx) hb5 fun b h=>Nat.lt_trans h.2 hz4⟩;have HC5:Hid (Cs (fun b=>w.heap.size≤b∧b<gx) w5 (.slice A3 pc.length c3) pc):=Sl.below HC4.out hb5 fun b h=>Nat.lt_trans h.2 hz3
   have HB5:=zz (HB4.out.later hb5);have HP5:=zz (HP4.out.later hb5);have hzg:=HB5.out.lt;clear ho5 hb5 hil tg0 HT4 HQ4 HB4 HP4 HS4 HC4;by_cases hfull:90<P.pages.length+(l'.length+1+2)
   ·have hR:=HR2.out;rw [List.length_map,if_pos hfull]at hR;subst hR;have hf1:(90:Int)-(P.pages.length:Int)<(l'.length:Int)+1+2:=by omega
    clear HR2 hfull;go_wp2_with fail
    go_ret
    exact⟨rfl,HT5.out,Ptp.below HQ5.out⟩
   ·have hR:=HR2.out;rw [List.length_map,if_neg hfull]at hR;have HR3:=zz hR;have hf1:¬ (90:Int)-(P.pages.length:Int)<(l'.length:Int)+1+2:=by omega
    clear HR2 hR hfull;have s0:(w5).cell? ⟨gs,0,none⟩=some (.int .i64 sid):=HB5.out.cell 0;have s1:(w5).cell? ⟨gs,1,none⟩=some (.int .i64 (sat:Int)):=HB5.out.cell 1;have s2:(w5).cell? ⟨gs,2,none⟩=some (.bool slf):=HB5.out.cell 2;have s3:(w5).cell? ⟨gs,3,none⟩=some (.int .i64 (sn:Int)):=HB5.out.cell 3;have s4:(w5).cell? ⟨gs,4,none⟩=some (.slice A2 scs.length c2):=HB5.out.cell 4;have x0:(w5).cell? ⟨gx,0,none⟩=some (.bool slf):=HP5.out.cell 0;have x1:(w5).cell? ⟨gx,1,none⟩=some (.int .i64 (sn:Int)):=HP5.out.cell 1;have x2:(w5).cell? ⟨gx,2,none⟩=some (.slice A3 pc.length c3):=HP5.out.cell 2;have hn3:IntKind.i64.wrap ((l'.length:Int)+1-1)=(l'.length:Int):=by rw [show(l'.length:Int)+1-1=(l'.length:Int) by omega];exact hn2
    have hn4:(0:Int)≤(l'.length:Int):=by omega
    have hn5:(l'.length:Int)≤(c1:Int):=by omega
    have hn6:l'.length≤c1:=by omega
    go_wp2_with fail
    go_still_tail 12,(by kernel_rfl)
    change wpList _ _ _ _ _ w5.drew;have HT6:Hid (Tg w5.drew g Z P c):=HT5.out.later ((Below.refl _ _).drew);have HQ6:Hid (Below w.heap.size w w5.drew):=HQ5.out.drew;have HS6:Hid (Wsl (fun b=>b<w5.drew.heap.size∧¬Z.has b) w5.drew (.slice (some ⟨b1,o1,none⟩) l'.length l'.length) l'):=
     ⟨Sl.more (Sl.drew HS5.out.sl) fun b h=>⟨Nat.lt_trans h.2 hzg,fun e=>by have:=HZ.out b e;omega⟩,fun x hx=>Sl.more (Sl.drew (HS5.out.cs x hx)) fun b h=>⟨Nat.lt_trans h.2 hzg,fun e=>by have:=HZ.out b e;omega⟩⟩
    have HC6:Hid (Cs (fun b=>w.heap.size≤b∧b<gx) w5.drew (.slice A3 pc.length c3) pc):=Sl.drew HC5.out;generalize w5.drew=w6 at*;go_wp2_with fail
    refine(zIo g Z P c _ l' (some ⟨b1,o1,none⟩) l'.length sid slf sn _ pc w6 HT6.out HS6.out HC6.out (fun b h e=>by have:=HZ.out b e;omega) HUO.out (fun y hy=> ?_) HWO.out.root (HWO.out.pg ⟨sid,sat,(slf,sn,scs)⟩ (by simp)).2 (by omega)).mono ?_
    ·have hy1:y.1∈l'.map (·.1)++ [⟨sid,sat,(slf,sn,scs)⟩]:=List.mem_append_left _ (List.mem_map.2 ⟨y,hy,rfl⟩);exact⟨(HWO.out.pg _ hy1).1,HKY.out _ hy1,(HWO.out.pg _ hy1).2⟩
    rintro e w7 ⟨rfl,hT7,hS7⟩;have HT7:=zz hT7;have HS7:=zz hS7;clear hT7 hS7;go_wp2_with fail
    go_ret
    rw [HR3.out];exact⟨rfl,HT7.out,(Ptp.below HQ6.out).trans HS7.out⟩
structure Vb where
 g:Nat
 t:TypeId
 c:Array Value
section
variable {F:Nat→Prop} {w W W':World} {g:Nat} {Z:Pz} {P P':Pgr} {c:Int→List UInt8} {bs:List Vb} {cs:List (Value×List Cel)}
end
set_option linter.unusedSimpArgs false
section
variable {F:Nat→Prop} {w W W':World} {g:Nat} {Z:Pz} {P P':Pgr} {c:Int→List UInt8} {bs:List Vb} {cs:List (Value×List Cel)}
end
end
section
open Go Go.RowKit
set_option linter.unusedSimpArgs false
section
variable {P:Program} {ops:Array Oper} {st:List TrP} {w0:World}
variable {Q:Act→World→Prop} {a:Act} {o:Oper} {rest:List Oper} {Ds:List DP} {env:List (Value×VP)}
theorem zFp{D:DP}(hw:Region.wanted o (yielded ops a.tmps)=true)(hs:st.find? (fun p=>p.i==env.length)=none)
 (h1:∀w,Turn (trX ops st env.length) w0 w→(∀e∈o.after,Region.binds .any e=true→∀ (x:Value) (W:VP),env[e.on]? =some (x,W)→W x w)→z07 P o a w (D (yOf env)))
 (h2:∀x,(∃w,Turn (trE st) w0 w∧D (yOf env) x w)→∀K:Act→Prop,(∀a',z2R P ops (trR ops st w0) Q rest Ds (env++ [(x,D (yOf env))]) a'→K a')→K (a.put o.dst x)):z2R P ops (trR ops st w0) Q (o::rest) (D::Ds) env a:=by
 refine⟨?_,fun x hx=>h2 x hx _ fun _ h=>h⟩;rw [if_pos hw];intro w hC hf;have h3:=h1 w hC hf;have eS:(trR ops st w0).S env.length=fun w w'=>Below w.heap.size w w':=by funext w w';simp only [trR,zGI,hs]
 rw [eS];unfold z07 at h3;unfold steps
 revert h3
 cases (execOp a.eval o).run P w with
 |ok n w'=>
  cases n<;>simp only [z0G,z0T]<;>first|exact fun h=>h|exact fun h=>h.2.mono fun e w'' ⟨v,he,hb,hv⟩=>⟨v,he,z14 h.1 hb,hv⟩
 |halt x w'=>simp only [z0G,z0T];exact fun h=>h
theorem zHx{c:Value}(hw:Region.wanted o (yielded ops a.tmps)=true)(hs:st.find? (fun p=>p.i==env.length)=none)
 (h1:∀w,Turn (trX ops st env.length) w0 w→(∀e∈o.after,Region.binds .any e=true→∀ (x:Value) (W:VP),env[e.on]? =some (x,W)→W x w)→z07 P o a w (Is c))
 (h2:∀K:Act→Prop,(∀a',z2R P ops (trR ops st w0) Q rest Ds (env++ [(c,Is c)]) a'→K a')→K (a.put o.dst c)):z2R P ops (trR ops st w0) Q (o::rest) (DIs c::Ds) env a:=
 zFp (D:=DIs c) hw hs h1 fun x ⟨_,_,hx⟩=>by
  obtain rfl:x=c:=hx;exact h2
theorem z60{j:Nat}(h:∀p∈st,p.i=j∨z0r ops p.i j=true){w:World}(hT:Turn (trX ops st j) w0 w):Below w0.heap.size w0 w:=
 ⟨hT.os,hT.tape,hT.output,hT.size,fun b hb=>hT.block b hb (by
   rintro⟨p,hp,h1,h2,_⟩;rcases h p hp with h3|h3
   ·exact h1 h3
   ·rw [h3]at h2;cases h2)⟩
end
end
section
open Go Go.RowKit
section
variable {Q:Prm} {P:Pgr} {c:Int→List UInt8} {j D:Nat} {h:Nat} {t:Ct j} {st:Pag}
end
theorem Tree.pgD_keys{Q:Prm}{P:Pgr}{c:Int→List UInt8}{D:Nat}{t:Ct D}(T:Tree Q P c D t)(i:Int):∀x∈(P.pgD c i).2.2,x.1.length≤Q.K:=by
 intro x hx;unfold Pgr.pgD at hx;cases hp:P.pg c i with
 |none=>rw [hp]at hx;simp [noPg]at hx
 |some p=>
  rw [hp]at hx;obtain⟨n,rfl,hm⟩:=(T.rep.rep.get i p).1 hp;exact(T.ok (n,p) hm).2.2 x hx
theorem zF7{Q:Prm}(hQ:Q.Ok)(g:Nat)(Z:Pz)(P:Pgr)(c:Int→List UInt8){D:Nat}{t:Ct D}(w:World)(ht:Tg w g Z P c)(T:Tree Q P c D t)(k v:List UInt8)(hk:k.length≤Q.K)(hx:k.length+v.length≤480)(hf:1+(Ct.subs D t).length+D+3≤90):
 Calls Tryz.prog 129 #[.pointer (some ⟨g,0,none⟩),.agg #[.string (st k),.string (st v)]] w fun e w'=>e= .returned (.int .i64 0)∧z1i g Z (putW P c (k,v)).1 c w w':=by
 obtain⟨wy,h1,h2,h3,h4,_⟩:=zF4 hQ T (x:=(k,v)) hk hx hf;have hD:=T.deep hQ;have hK:=hQ.K;refine(zHb g Z P c k v (D+1) wy w ht (by omega) (by omega) h1 (by omega) (fun s hs x hx=> ?_)).mono ?_
 ·rw [zBE h1 s hs]at hx;have:=T.pgD_keys _ x hx;omega
 ·rintro e w' ⟨rfl,hd⟩;rw [h3,zEd h1 (by omega)];exact⟨rfl,hd⟩
noncomputable def chgP(P:Pgr)(c:Int→List UInt8)(L:List Cel)(x:Chg):Pgr:=if x.gone then(if isK L x.k then(delW P c x.k).1 else P)else(putW P c (x.k,x.v)).1
def z9W(L:List Cel)(x:Chg):List Cel:=if x.gone then(if isK L x.k then delC L x.k else L)else putC L (x.k,x.v)
def z9k(Q:Prm)(D:Nat)(t:Ct D)(x:Chg):Prop:=
 if x.gone then(isK (Ct.cells D t) x.k=true→1+(Ct.subs D t).length+D+3≤90∨(Weak Q D∧1+(Ct.subs D t).length+zIa D≤90))
 else x.k.length≤Q.K∧x.k.length+x.v.length≤480∧1+(Ct.subs D t).length+D+3≤90
def VTgC(w:World)(g:Nat)(Z:Pz)(P:Pgr)(c:Int→List UInt8):VP:=fun _ wg=>z1i g Z P c w wg
theorem VTgC.stays{w:World}{g:Nat}{Z:Pz}{P:Pgr}{c:Int→List UInt8}:Stays (VTgC w g Z P c):=fun v w1 w2 hb h=>⟨h.1.later hb,h.2.trans (Ptp.below hb)⟩
def zCX(Q:Prm):Prop:=∀ (g:Nat) (Z:Pz) (P:Pgr) (c:Int→List UInt8) (D:Nat) (t:Ct D) (w:World),Tg w g Z P c→Tree Q P c D t→∀ (k:Key),(isK (Ct.cells D t) k=true→1+(Ct.subs D t).length+D+3≤90∨(Weak Q D∧1+(Ct.subs D t).length+zIa D≤90))→
    Calls Tryz.prog 128 #[.pointer (some ⟨g,0,none⟩),.string (st k)] w fun e w'=>∃P' v,z1i g Z P' c w w'∧e= .returned v∧P'=if isK (Ct.cells D t) k then(delW P c k).1 else P
theorem zGZ{Q:Prm}(hQ:Q.Ok)(gs g gb:Nat)(Z:Pz)(P:Pgr)(c:Int→List UInt8){D:Nat}{t:Ct D}(w:World)(ht:Tg w g Z P c)(T:Tree Q P c D t){v1 v2:Value}(hs:Blk w gs 118 #[.pointer (some ⟨g,0,none⟩),v1,v2])(hb:Blk w gb 51 #[.pointer (some ⟨gs,0,none⟩)])(x:Chg)(hr:z9k Q D t x)(hdl:x.gone=true→zCX Q):
 Calls Tryz.prog 127 #[.agg #[.string (st x.k),.string (st x.v),.bool x.gone],.pointer (some ⟨gb,0,none⟩)] w fun e w'=>e= .returned (.tuple #[])∧z1i g Z (chgP P c (Ct.cells D t) x) c w w':=by
 obtain⟨k,v,gn⟩:=x;have q0:=(Below.refl w.heap.size w).alloc (Nat.le_refl _) (.cells #[.string (st k),.string (st v),.bool gn] 127);have HT:=zz (ht.later q0);have HS:=zz (hs.later q0);have HB:=zz (hb.later q0);have HX:=zz (Blk.new w 127 #[.string (st k),.string (st v),.bool gn]);have HNS:Hid (¬Z.has gs):=Pz.not_kind ht.pg (z0F hs) (by decide) (by decide) (by decide) (by decide);have HNB:Hid (¬Z.has gb):=Pz.not_kind ht.pg (z0F hb) (by decide) (by decide) (by decide) (by decide);have HNX:Hid (¬Z.has w.heap.size):=fun h=>by have:=ht.pg.lt h;omega
 have HNG:Hid (¬Z.has g):=ht.nz;have HPT:Hid (Ptp Z w Z (w.alloc (.cells #[.string (st k),.string (st v),.bool gn] 127))):=Ptp.below q0;have HR:=zz hr;obtain⟨P2,hP2⟩:∃P2,chgP P c (Ct.cells D t) ⟨k,v,gn⟩=P2:=⟨_,rfl⟩;have HP2:=zz hP2;have HDL:=zz hdl;rw [hP2];clear ht hs hb q0 hr hP2 hdl;go_enter Tryz.func127,Tryz.ntmps127
 go_upto_region 1 with(fail)
 generalize hW:w.alloc (.cells #[.string (st k),.string (st v),.bool gn] 127)=W at*;clear hW;generalize w.heap.size=gx at*;have hx:=HX.out;have x0:(W).cell? ⟨gx,0,none⟩=some (.string (st k)):=hx.cell 0;have x1:(W).cell? ⟨gx,1,none⟩=some (.string (st v)):=hx.cell 1;have x2:(W).cell? ⟨gx,2,none⟩=some (.bool gn):=hx.cell 2;clear hx;cases gn with
 |true=>
  have HDE:Hid (∀wg,Below W.heap.size W wg→Calls Tryz.prog 128 #[.pointer (some ⟨g,0,none⟩),.string (st k)] wg fun e w'=>∃v,e= .returned v∧Turn Z.has wg w'∧VTgC W g Z P2 c v w'):=fun wg hwg=>by
   refine(HDL.out rfl g Z P c D t wg (HT.out.later hwg) T k (by have:=HR.out;unfold z9k at this;exact this)).mono ?_;rintro e w' ⟨P',v,hd,rfl,h⟩;refine⟨_,rfl,hd.2.turn,?_⟩;have:P'=P2:=by
    rw [←HP2.out,h];rfl
   rw [←this];exact⟨hd.1,(Ptp.below hwg).trans hd.2⟩
  clear HP2 HR HDL;have HK:Hid (∀wg,Turn (trE [TrP.of 6 Z.has]) W wg→Blk wg gb 51 #[.pointer (some ⟨gs,0,none⟩)]∧Blk wg gs 118 #[.pointer (some ⟨g,0,none⟩),v1,v2]∧Blk wg gx 127 #[.string (st k),.string (st v),.bool true]):=fun wg h=>by
   have hn:∀ {b:Nat},¬Z.has b→¬trE [TrP.of 6 Z.has] b:=fun {b} hb h1=>by
    obtain⟨p,hp,hF⟩:=h1;simp only [List.mem_cons,List.not_mem_nil,or_false]at hp;subst hp;exact hb hF
   exact⟨HB.out.turn h (hn HNB.out),HS.out.turn h (hn HNS.out),HX.out.turn h (hn HNX.out)⟩
  go_upto_region 2 with(fail)
  refine z3P [TrP.of 6 Z.has] (by kernel_rfl) (by kernel_rfl) ?_;apply Exists.intro;apply And.intro
  ·repeat(first
    |(apply z53 rfl
      intro K hK;go_simp;refine hK _ ?_;clear hK K)
    |(apply z8P rfl (by kernel_rfl)
      ·intro wg hwg _;have hb:=HK.out wg hwg;have b0:wg.cell? ⟨gb,0,none⟩=some (.pointer (some ⟨gs,0,none⟩)):=hb.1.cell 0;have s0:wg.cell? ⟨gs,0,none⟩=some (.pointer (some ⟨g,0,none⟩)):=hb.2.1.cell 0;have k0:wg.cell? ⟨gx,0,none⟩=some (.string (st k)):=hb.2.2.cell 0;unfold z07;go_simp
       first
        |exact z00 _ _
        |(fail)
      intro K hK;go_simp;refine hK _ ?_;clear hK K))
   apply z5E (V:=VTgC W g Z P2 c) (TrP.of 6 Z.has);exact rfl
   kernel_rfl
   ·intro wg hwg hf;have hwg2:=z60 (fun p hp=>by simp only [List.mem_cons,List.not_mem_nil,or_false]at hp;subst hp;exact .inl rfl) hwg;clear hwg hf;unfold steps;go_simp;apply z2I;exact HDE.out wg hwg2
   intro xv hxv K hK;obtain⟨wx,hwx,hbx⟩:=hxv
   skip
   go_simp;refine hK _ ?_;clear hK K hbx hwx;refine z8j (fun wf hE hf=> ?_);have g6:=hf 6 _ _ rfl;clear hf hE;have H6:Hid (z1i g Z P2 c w wf):=⟨g6.1,HPT.out.trans g6.2⟩;clear g6;go_wp2_with fail
   refine bodyPost_ret (results_none rfl _ _ _) rfl ?_;exact⟨rfl,H6.out⟩
  ·apply And.intro
   ·repeat(first
     |exact trivial
     |(refine⟨zEk _ _,?_⟩)
     |(refine⟨zJV VTgC.stays (fun p hp hn hw=>by simp only [List.mem_cons,List.not_mem_nil,or_false]at hp;subst hp;exact absurd rfl hn),?_⟩)
     )
   ·rfl
 |false=>
  have HPU:Hid (∀wg,Below W.heap.size W wg→Calls Tryz.prog 129 #[.pointer (some ⟨g,0,none⟩),.agg #[.string (st k),.string (st v)]] wg fun e w'=>∃v,e= .returned v∧Turn Z.has wg w'∧VTgC W g Z P2 c v w'):=fun wg hwg=>by
   have hr:=HR.out;unfold z9k at hr;simp only [Bool.false_eq_true,if_false]at hr;refine(zF7 hQ g Z P c wg (HT.out.later hwg) T k v hr.1 hr.2.1 hr.2.2).mono ?_;rintro e w' ⟨rfl,hd⟩;have:(putW P c (k,v)).1=P2:=by rw [←HP2.out];simp [chgP]
   rw [this]at hd;exact⟨_,rfl,hd.2.turn,hd.1,(Ptp.below hwg).trans hd.2⟩
  clear HP2 HR HDL;have HK:Hid (∀wg,Turn (trE [TrP.of 9 Z.has]) W wg→Blk wg gb 51 #[.pointer (some ⟨gs,0,none⟩)]∧Blk wg gs 118 #[.pointer (some ⟨g,0,none⟩),v1,v2]∧Blk wg gx 127 #[.string (st k),.string (st v),.bool false]):=fun wg h=>by
   have hn:∀ {b:Nat},¬Z.has b→¬trE [TrP.of 9 Z.has] b:=fun {b} hb h1=>by
    obtain⟨p,hp,hF⟩:=h1;simp only [List.mem_cons,List.not_mem_nil,or_false]at hp;subst hp;exact hb hF
   exact⟨HB.out.turn h (hn HNB.out),HS.out.turn h (hn HNS.out),HX.out.turn h (hn HNX.out)⟩
  go_upto_region 3 with(fail)
  refine z3P [TrP.of 9 Z.has] (by kernel_rfl) (by kernel_rfl) ?_;apply Exists.intro;apply And.intro
  ·repeat(first
    |(apply z53 rfl
      intro K hK;go_simp;refine hK _ ?_;clear hK K)
    |(apply z8P rfl (by kernel_rfl)
      ·intro wg hwg _;have hb:=HK.out wg hwg;have b0:wg.cell? ⟨gb,0,none⟩=some (.pointer (some ⟨gs,0,none⟩)):=hb.1.cell 0;have s0:wg.cell? ⟨gs,0,none⟩=some (.pointer (some ⟨g,0,none⟩)):=hb.2.1.cell 0;have k0:wg.cell? ⟨gx,0,none⟩=some (.string (st k)):=hb.2.2.cell 0;have k1:wg.cell? ⟨gx,1,none⟩=some (.string (st v)):=hb.2.2.cell 1;unfold z07;go_simp
       first
        |exact z00 _ _
        |(fail)
      intro K hK;go_simp;refine hK _ ?_;clear hK K))
   apply z5E (V:=VTgC W g Z P2 c) (TrP.of 9 Z.has);exact rfl
   kernel_rfl
   ·intro wg hwg hf;have hwg2:=z60 (fun p hp=>by simp only [List.mem_cons,List.not_mem_nil,or_false]at hp;subst hp;exact .inl rfl) hwg;clear hwg hf;unfold steps;go_simp;apply z2I;exact HPU.out wg hwg2
   intro xv hxv K hK;obtain⟨wx,hwx,hbx⟩:=hxv
   skip
   go_simp;refine hK _ ?_;clear hK K hbx hwx;refine z8j (fun wf hE hf=> ?_);have g6:=hf 9 _ _ rfl;clear hf hE;have H6:Hid (z1i g Z P2 c w wf):=⟨g6.1,HPT.out.trans g6.2⟩;clear g6;go_wp2_with fail
   go_end0
   exact⟨rfl,H6.out⟩
  ·apply And.intro
   ·repeat(first
     |exact trivial
     |(refine⟨zEk _ _,?_⟩)
     |(refine⟨zJV VTgC.stays (fun p hp hn hw=>by simp only [List.mem_cons,List.not_mem_nil,or_false]at hp;subst hp;exact absurd rfl hn),?_⟩)
     )
   ·rfl
noncomputable def chgsP(c:Int→List UInt8):Pgr→List Cel→List Chg→Pgr
 |P,_,[]=>P
 |P,L,x::r=>chgsP c (chgP P c L x) (z9W L x) r
def z3Z(L:List Cel)(l:List Chg):List Cel:=l.foldl z9W L
def z4x(Q:Prm)(c:Int→List UInt8):Pgr→List Cel→List Chg→Prop
 |_,_,[]=>True
 |P,L,x::r=>(∃D,∃t:Ct D,Tree Q P c D t∧Ct.cells D t=L∧z9k Q D t x)∧z4x Q c (chgP P c L x) (z9W L x) r
structure DoSt(Q:Prm)(W0 wr:World)(g:Nat)(Z:Pz)(c:Int→List UInt8)(R P:Pgr)(L:List Cel)(r:List Chg):Prop where
 T:z1i g Z P c W0 wr
 K:z4x Q c P L r
 E:chgsP c P L r=R
theorem zFx{Q:Prm}(hQ:Q.Ok)(gs g:Nat)(Z:Pz)(P:Pgr)(c:Int→List UInt8)(L:List Cel)(l:List Chg)(w:World)(v0:Value)(ht:Tg w g Z P c){v1 v2:Value}(hs:Blk w gs 118 #[.pointer (some ⟨g,0,none⟩),v1,v2])(hr:Ch (fun b=>¬Z.has b) w v0 l)(hk:z4x Q c P L l)(hl:l.length≤1000000)(hdl:∀y∈l,y.gone=true→zCX Q):
 Calls Tryz.prog 93 #[.pointer (some ⟨gs,0,none⟩),v0] w fun e w'=>e= .returned (.tuple #[])∧z1i g Z (chgsP c P L l) c w w':=by
 have q0:=(Below.refl w.heap.size w).alloc (Nat.le_refl _) (.cells #[.pointer (some ⟨gs,0,none⟩)] 51);have HNS:Hid (¬Z.has gs):=Pz.not_kind ht.pg (z0F hs) (by decide) (by decide) (by decide) (by decide);have HNB:Hid (¬Z.has w.heap.size):=fun h=>by have:=ht.pg.lt h;omega
 have HS:=zz (hs.later q0);have HB:=zz (Blk.new w 51 #[.pointer (some ⟨gs,0,none⟩)]);have HPT:Hid (Ptp Z w Z (w.alloc (.cells #[.pointer (some ⟨gs,0,none⟩)] 51))):=Ptp.below q0;obtain⟨R,hR⟩:∃R,chgsP c P L l=R:=⟨_,rfl⟩;have R0:Hid (DoSt Q (w.alloc (.cells #[.pointer (some ⟨gs,0,none⟩)] 51)) (w.alloc (.cells #[.pointer (some ⟨gs,0,none⟩)] 51)) g Z c R P L (l.drop 0)):=⟨⟨ht.later q0,Ptp.refl _ _⟩,hk,hR⟩;have hr1:Ch (fun b=>¬Z.has b∧b<w.heap.size) w v0 l:=Sl.lt hr (by omega);have hr2:Ch (fun b=>¬Z.has b∧b<w.heap.size) (w.alloc (.cells #[.pointer (some ⟨gs,0,none⟩)] 51)) v0 l:=Sl.below hr1 q0 fun b h=>h.2
 obtain⟨A,c0,rfl,hlc,hcm,hA0,hA⟩:=hr2.at;have hsz0:=q0.size;have HA:Hid (0<l.length→∃b o,A=some ⟨b,o,none⟩∧(¬Z.has b∧b<(w.alloc (.cells #[.pointer (some ⟨gs,0,none⟩)] 51)).heap.size)∧∀j (hj:j<l.length),(w.alloc (.cells #[.pointer (some ⟨gs,0,none⟩)] 51)).cell? ⟨b,o+j*3,none⟩=some (.string (st l[j].k))∧(w.alloc (.cells #[.pointer (some ⟨gs,0,none⟩)] 51)).cell? ⟨b,o+j*3+1,none⟩=some (.string (st l[j].v))∧(w.alloc (.cells #[.pointer (some ⟨gs,0,none⟩)] 51)).cell? ⟨b,o+j*3+2,none⟩=some (.bool l[j].gone)):=fun h=>by
  obtain⟨b,o,h1,h2,h3⟩:=hA h;exact⟨b,o,h1,⟨h2.1,by omega⟩,h3⟩
 rw [hR];have HDL:=zz hdl;clear ht hs hr hr1 hr2 hk hR hA hA0 q0 hsz0 hdl;go_enter Tryz.func93,Tryz.ntmps93
 go_upto_region 1 with(fail)
 generalize hW0:w.alloc (.cells #[.pointer (some ⟨gs,0,none⟩)] 51)=W0 at*;clear hW0;generalize w.heap.size=gb at*;go_wp2_with fail
 go_loopw [10] (fun iv wr=>∃ (i:Nat) (P':Pgr) (L':List Cel),iv= .int .i64 (i:Int)∧i≤l.length∧Hid (DoSt Q W0 wr g Z c R P' L' (l.drop i))) (fun iv _=>l.length-(intOf iv).toNat)
 case atStart=>exact⟨0,P,L,rfl,by omega,R0⟩
 case round=>
  clear R0;obtain⟨i,P',L',rfl,hi,RR⟩:=hrel;have HT:=zz RR.out.T;by_cases hil:i<l.length
  ·obtain⟨b,o,rfl,hbs,hc⟩:=HA.out (by omega);have hdr:l.drop i=l[i]::l.drop (i+1):=List.drop_eq_getElem_cons hil;have hk:=RR.out.K;have hE:=RR.out.E;rw [hdr]at hk hE;have htn:∀q,wr.cell? ⟨b,q,none⟩=W0.cell? ⟨b,q,none⟩:=fun q=>World.cell?_of_block (HT.out.2.turn.block b hbs.2 hbs.1)
   have c0:wr.cell? ⟨b,o+i*3,none⟩=some (.string (st l[i].k)):=(htn _).trans (hc i hil).1;have c1:wr.cell? ⟨b,o+i*3+1,none⟩=some (.string (st l[i].v)):=(htn _).trans (hc i hil).2.1;have c2:wr.cell? ⟨b,o+i*3+2,none⟩=some (.bool l[i].gone):=(htn _).trans (hc i hil).2.2;obtain⟨x,hx0⟩:∃x,l[i]=x:=⟨_,rfl⟩;have HDX:Hid (x.gone=true→zCX Q):=HDL.out x (hx0▸List.getElem_mem hil);rw [hx0]at c0 c1 c2 hk hE;clear hx0 hc htn hdr RR;have HK:=zz hk;have HE:=zz hE;have qx:=(Below.refl wr.heap.size wr).alloc (Nat.le_refl _) (.cells #[.string (st x.k),.string (st x.v),.bool x.gone] 127);have H5:Hid (z1i g Z P' c W0 (wr.alloc (.cells #[.string (st x.k),.string (st x.v),.bool x.gone] 127))):=⟨HT.out.1.later qx,HT.out.2.trans (Ptp.below qx)⟩;have HX:=zz (Blk.new wr 127 #[.string (st x.k),.string (st x.v),.bool x.gone]);clear hk hE qx HT;go_upto_region 5 with(fail)
   generalize hW5:wr.alloc (.cells #[.string (st x.k),.string (st x.v),.bool x.gone] 127)=W5 at*;clear hW5;generalize wr.heap.size=gx at*;have hx:=HX.out;have x0:(W5).cell? ⟨gx,0,none⟩=some (.string (st x.k)):=hx.cell 0;have x1:(W5).cell? ⟨gx,1,none⟩=some (.string (st x.v)):=hx.cell 1;have x2:(W5).cell? ⟨gx,2,none⟩=some (.bool x.gone):=hx.cell 2;clear hx;obtain⟨⟨D,t,hT,hL,hroom⟩,hk2⟩:=HK.out;subst hL;have HRM:=zz hroom;have HK2:=zz hk2;have hs5:=zz (HS.out.turn H5.out.2.turn HNS.out);have hb5:=zz (HB.out.turn H5.out.2.turn HNB.out);clear hroom hk2 HK c0 c1 c2;go_wp2_with fail
   refine(zGZ hQ gs g gb Z P' c W5 H5.out.1 hT hs5.out hb5.out x HRM.out HDX.out).mono ?_;rintro e w6 ⟨rfl,hd6⟩;have RF:Hid (DoSt Q W0 w6 g Z c R (chgP P' c (Ct.cells D t) x) (z9W (Ct.cells D t) x) (l.drop (i+1))):=⟨⟨hd6.1,H5.out.2.trans hd6.2⟩,HK2.out,HE.out⟩;clear hd6 HK2 HE HRM hs5 hb5 hT x0 x1 x2 HDX;go_wp2_with fail
   go_roundw
   case rel=>exact⟨i+1,_,_,by go_num,by omega,RF⟩
   case measure=>simp [intOf];omega
  ·obtain rfl:i=l.length:=by omega
   have hE:=RR.out.E;rw [List.drop_length]at hE;have hF:z1i g Z R c w wr:=by
    have h1:=HT.out;rw [show P'=R from hE]at h1;exact⟨h1.1,HPT.out.trans h1.2⟩
   have HF:=zz hF;clear hF hE HT RR;go_wp2_with fail
   go_end0
   exact⟨rfl,HF.out⟩
end
section
open Go
theorem zFC:∀ {a b:List Cel},Asc a→Asc b→(∀c,c∈a↔c∈b)→a=b
 | [],[],_,_,_=>rfl
 | [],y::b,_,_,h=>by have:=(h y).2 (by simp);cases this
 |x::a,[],_,_,h=>by have:=(h x).1 (by simp);cases this
 |x::a,y::b,ha,hb,h=>by
  obtain⟨a1,a2⟩:=List.pairwise_cons.1 ha;obtain⟨b1,b2⟩:=List.pairwise_cons.1 hb;have hxy:x=y:=by
   rcases List.mem_cons.1 ((h x).1 (by simp))with e|e
   ·exact e
   ·rcases List.mem_cons.1 ((h y).2 (by simp))with e2|e2
    ·exact e2.symm
    ·exact absurd (a1 y e2) (b1 x e).not
  subst hxy
  congr 1
  refine zFC a2 b2 fun c=>⟨fun hc=> ?_,fun hc=> ?_⟩
  ·rcases List.mem_cons.1 ((h c).1 (by simp [hc]))with e|e
   ·subst e;exact absurd (a1 c hc) fun q=>q.irrefl
   ·exact e
  ·rcases List.mem_cons.1 ((h c).2 (by simp [hc]))with e|e
   ·subst e;exact absurd (b1 c hc) fun q=>q.irrefl
   ·exact e
theorem zA5{L:List Cel}{k:Key}{y:Cel}(ha:Asc L):(y∈L∧y.1≠k)↔(y∈L.take (z0B L k)∨y∈L.drop (z0B L k+z63 L k)):=by
 constructor
 ·rintro⟨h1,h2⟩;rw [←List.take_append_drop (z0B L k) L]at h1;rcases List.mem_append.1 h1 with h|h
  ·exact .inl h
  ·right;unfold z63;by_cases hk:isK L k=true
   ·rw [if_pos hk];obtain⟨v,hv⟩:=zF0 hk;rw [hv]at h;rcases List.mem_cons.1 h with rfl|h
    ·exact absurd rfl h2
    ·exact h
   ·rw [if_neg hk];exact h
 ·rintro(h|h)
  ·exact⟨List.mem_of_mem_take h,(z72 h).ne⟩
  ·exact⟨List.mem_of_mem_drop h,(z8D ha h).ne.symm⟩
theorem zGu{L:List Cel}(ha:Asc L){x y:Cel}:y∈putC L x↔(y∈L∧y.1≠x.1)∨y=x:=by
 rw [zA5 ha];unfold putC;rw [List.mem_append,List.mem_cons];constructor
 ·rintro(h|rfl|h)
  ·exact .inl (.inl h)
  ·exact .inr rfl
  ·exact .inl (.inr h)
 ·rintro((h|h)|rfl)
  ·exact .inl h
  ·exact .inr (.inr h)
  ·exact .inr (.inl rfl)
theorem zC1{L:List Cel}(ha:Asc L){k:Key}{y:Cel}:y∈delC L k↔(y∈L∧y.1≠k):=by
 rw [zA5 ha];unfold delC;rw [List.mem_append]
theorem zHB{L:List Cel}(ha:Asc L)(x:Chg){y:Cel}:y∈z9W L x↔(y∈L∧y.1≠x.k)∨(x.gone=false∧y=(x.k,x.v)):=by
 obtain⟨k,v,gn⟩:=x;unfold z9W;cases gn with
 |true=>
  simp only [if_true];by_cases hk:isK L k=true
  ·rw [if_pos hk,zC1 ha];simp
  ·rw [if_neg hk];have hm:=zC1 ha (k:=k) (y:=y);rw [zIg (by simpa using hk:isK L k=false)]at hm;constructor
   ·intro h;exact .inl (hm.1 h)
   ·rintro(h|⟨h,_⟩)
    ·exact h.1
    ·cases h
 |false=>
  simp only [Bool.false_eq_true,if_false];rw [zGu ha];simp
theorem zCK{L:List Cel}(ha:Asc L)(x:Chg):Asc (z9W L x):=by
 unfold z9W
 split
 ·split
  ·exact ha.delC _
  ·exact ha
 ·exact ha.putC _
theorem z9e:∀ {xs:List Chg} {L:List Cel} (ha:Asc L),Asc (z3Z L xs)
 | [],L,ha=>ha
 |x::xs,L,ha=>z9e (xs:=xs) (zCK ha x)
theorem zA7:∀ {xs:List Chg} {L:List Cel} (ha:Asc L) (hd:xs.Pairwise fun a b=>a.k≠b.k) {y:Cel},y∈z3Z L xs↔(y∈L∧∀x∈xs,y.1≠x.k)∨∃x∈xs,x.gone=false∧y=(x.k,x.v)
 | [],L,ha,_,y=>by simp [z3Z]
 |x::xs,L,ha,hd,y=>by
  obtain⟨h1,h2⟩:=List.pairwise_cons.1 hd;have ih:=zA7 (zCK ha x) h2 (y:=y);rw [zHB ha]at ih;show y∈z3Z (z9W L x) xs↔_;rw [ih];constructor
  ·rintro(⟨(⟨a,b⟩|⟨a,b⟩),c⟩|⟨z,hz,a,b⟩)
   ·exact .inl ⟨a,fun z hz=>by rcases List.mem_cons.1 hz with rfl|hz;exact b;exact c z hz⟩
   ·exact .inr ⟨x,by simp,a,b⟩
   ·exact .inr ⟨z,by simp [hz],a,b⟩
  ·rintro(⟨a,b⟩|⟨z,hz,a,b⟩)
   ·exact .inl ⟨.inl ⟨a,b x (by simp)⟩,fun z hz=>b z (by simp [hz])⟩
   ·rcases List.mem_cons.1 hz with rfl|hz
    ·exact .inl ⟨.inr ⟨a,b⟩,fun q hq=>by rw [b];exact h1 q hq⟩
    ·exact .inr ⟨z,hz,a,b⟩
def setR(l:List Rw)(k:List UInt8)(vs:List Vsn):List Rw:=l.filter (fun r=>Op.bytesLess r.k k)++((if vs= []then []else [⟨k,vs⟩])++l.filter fun r=>Op.bytesLess k r.k)
theorem z3o{l:List Rw}{k:List UInt8}{vs:List Vsn}{r:Rw}:r∈setR l k vs↔(r∈l∧r.k≠k)∨(vs≠ []∧r=⟨k,vs⟩):=by
 unfold setR;rw [List.mem_append,List.mem_append,List.mem_filter,List.mem_filter,z0L,z0L];constructor
 ·rintro(h|h|h)
  ·exact .inl ⟨h.1,h.2.ne⟩
  ·by_cases e:vs= []
   ·rw [if_pos e]at h;cases h
   ·rw [if_neg e]at h;exact .inr ⟨e,by simpa using h⟩
  ·exact .inl ⟨h.1,h.2.ne.symm⟩
 ·rintro(h|h)
  ·rcases z7G (a:=r.k) (b:=k)with q|q|q
   ·exact .inl ⟨h.1,q⟩
   ·exact absurd q h.2
   ·exact .inr (.inr ⟨h.1,q⟩)
  ·rw [if_neg h.1];exact .inr (.inl (by simp [h.2]))
theorem RowsOk.set{l:List Rw}(h:RowsOk l){k:List UInt8}{vs:List Vsn}(hr:vs≠ []→RwOk ⟨k,vs⟩):RowsOk (setR l k vs):=by
 refine⟨fun r hm=> ?_,?_⟩
 ·rcases z3o.1 hm with h1|h1
  ·exact h.rw r h1.1
  ·rw [h1.2];exact hr h1.1
 ·unfold setR;rw [List.pairwise_append,List.pairwise_append];refine⟨h.asc.filter _,⟨?_,h.asc.filter _,?_⟩,?_⟩
  ·split
   ·exact List.Pairwise.nil
   ·exact List.pairwise_singleton _ _
  ·intro a ha b hb;have hb:=z0L.1 (List.mem_filter.1 hb).2
   split at ha
   ·cases ha
   ·obtain rfl:=List.mem_singleton.1 ha;exact hb
  ·intro a ha b hb;have ha:=z0L.1 (List.mem_filter.1 ha).2;rcases List.mem_append.1 hb with hb|hb
   ·split at hb
    ·cases hb
    ·obtain rfl:=List.mem_singleton.1 hb;exact ha
   ·exact ha.trans (z0L.1 (List.mem_filter.1 hb).2)
theorem zC9{l:List Rw}(h:RowsOk l){r q:Rw}(hr:r∈l)(hq:q∈l)(e:r.k=q.k):r=q:=by
 have:=h.asc;clear h
 induction l with
 |nil=>cases hr
 |cons a l ih=>
  obtain⟨h1,h2⟩:=List.pairwise_cons.1 this;rcases List.mem_cons.1 hr with e1|hr'
  ·rcases List.mem_cons.1 hq with e2|hq'
   ·rw [e1,e2]
   ·exact absurd (e1▸e) (h1 q hq').ne
  ·rcases List.mem_cons.1 hq with e2|hq'
   ·exact absurd (e2▸e).symm (h1 r hr').ne
   ·exact ih hr' hq' h2
theorem z3p{l:List Rw}{key:List UInt8}{x:Vsn}(h:x∈z3L l key):∃r∈l,r.k=key∧r.vs=z3L l key:=by
 unfold z3L at h ⊢
 split at h
 ·rename_i r hr;have:=List.find?_some hr;exact⟨r,List.mem_of_find?_eq_some hr,by simpa using this,rfl⟩
 ·cases h
theorem z88{l:List Rw}(h:RowsOk l){r:Rw}(hr:r∈l):z3L l r.k=r.vs:=by
 unfold z3L
 split
 ·rename_i q hq;have h1:=List.mem_of_find?_eq_some hq;have h2:q.k=r.k:=by simpa using List.find?_some hq
  rw [zC9 h h1 hr h2]
 ·rename_i hn;have:=List.find?_eq_none.1 hn r hr;simp at this
theorem z9U{l:List Rw}{key:List UInt8}(h:∀r∈l,r.k≠key):z3L l key= []:=by
 unfold z3L
 split
 ·rename_i q hq;exact absurd (by simpa using List.find?_some hq) (h q (List.mem_of_find?_eq_some hq))
 ·rfl
theorem z8G{l:List Rw}{k:List UInt8}{vs:List Vsn}{c:Cel}:c∈z3M (setR l k vs)↔(∃r∈l,r.k≠k∧c∈rwC r)∨c∈rwC ⟨k,vs⟩:=by
 unfold z3M;rw [List.mem_flatMap];constructor
 ·rintro⟨r,hr,hc⟩;rcases z3o.1 hr with h|h
  ·exact .inl ⟨r,h.1,h.2,hc⟩
  ·rw [h.2]at hc;exact .inr hc
 ·rintro(⟨r,hr,hk,hc⟩|hc)
  ·exact⟨r,z3o.2 (.inl ⟨hr,hk⟩),hc⟩
  ·refine⟨⟨k,vs⟩,z3o.2 (.inr ⟨fun e=> ?_,rfl⟩),hc⟩;subst e;cases hc
def zFL(l:List Rw)(key:List UInt8)(x:Vsn):List Rw:=setR l key (z3L l key++ [x])
theorem z5q{r:Rw}{c:Cel}:c∈rwC r↔∃x∈r.vs,c=zAJ r.k x:=by
 refine⟨z39,?_⟩;rintro⟨x,hx,rfl⟩;exact List.mem_map.2 ⟨x,List.mem_reverse.2 hx,rfl⟩
theorem zGS{l:List Rw}(h:RowsOk l){key:List UInt8}{x:Vsn}{c:Cel}:c∈z3M (zFL l key x)↔c∈z3M l∨c=zAJ key x:=by
 unfold zFL;rw [z8G];constructor
 ·rintro(⟨r,hr,hk,hc⟩|hc)
  ·exact .inl (List.mem_flatMap.2 ⟨r,hr,hc⟩)
  ·obtain⟨y,hy,rfl⟩:=z39 hc;rcases List.mem_append.1 hy with hy|hy
   ·obtain⟨r,hr,hk,hv⟩:=z3p hy;exact .inl (List.mem_flatMap.2 ⟨r,hr,z5q.2 ⟨y,hv▸hy,by rw [hk]⟩⟩)
   ·obtain rfl:=List.mem_singleton.1 hy;exact .inr rfl
 ·rintro(hc|rfl)
  ·obtain⟨r,hr,hc⟩:=List.mem_flatMap.1 hc;by_cases e:r.k=key
   ·right;subst e;obtain⟨y,hy,rfl⟩:=z39 hc;rw [z88 h hr];exact z5q.2 ⟨y,by simp [hy],rfl⟩
   ·exact .inl ⟨r,hr,e,hc⟩
  ·exact .inr (z5q.2 ⟨x,by simp,rfl⟩)
structure Wri where
 k:List UInt8
 v:List UInt8
 gone:Bool
def Wri.vs(at_:Nat)(x:Wri):Vsn:=⟨at_,x.v,x.gone⟩
structure Wri.Ok(x:Wri):Prop where
 k0:x.k≠ []
 k64:x.k.length≤64
 v:x.v.length≤256
 g:x.gone=true→x.v= []
def z31(at_:Nat):List Rw→List Wri→List Rw:=List.foldl fun l w=>zFL l w.k (w.vs at_)
def wriC(at_:Nat)(w:Wri):Chg:=⟨z1f w.k at_,zAM (w.vs at_),false⟩
def z0W(at_ hor:Nat)(ws:List Wri):List Chg:=⟨ttlK,zDs at_ hor,false⟩::ws.map (wriC at_)
def zGp(l:List Rw)(at_:Nat):Prop:=∀r∈l,∀x∈r.vs,x.t<at_
theorem RowsOk.add{l:List Rw}(h:RowsOk l){at_:Nat}{w:Wri}(hu:∀x∈z3L l w.k,x.t<at_)(hw:w.Ok)(h0:0<at_)(h64:at_<U64):RowsOk (zFL l w.k (w.vs at_)):=by
 refine h.set fun _=>⟨hw.k0,hw.k64,by simp,?_,fun x hx=> ?_⟩
 ·rw [List.pairwise_append];refine⟨?_,List.pairwise_singleton _ _,fun a ha b hb=> ?_⟩
  ·cases hv:z3L l w.k with
   |nil=>exact List.Pairwise.nil
   |cons a r=>
    obtain⟨q,hq,_,hv2⟩:=z3p (l:=l) (key:=w.k) (x:=a) (by rw [hv];simp);rw [←hv,←hv2];exact(h.rw q hq).asc
  ·obtain rfl:=List.mem_singleton.1 hb;exact hu a ha
 ·rcases List.mem_append.1 hx with hx|hx
  ·obtain⟨q,hq,_,hv2⟩:=z3p hx;exact(h.rw q hq).vs x (hv2▸hx)
  ·obtain rfl:=List.mem_singleton.1 hx;exact⟨h0,h64,hw.v,hw.g⟩
theorem zGM{l:List Rw}{key k:List UInt8}{x:Vsn}(h:RowsOk l)(hk:k≠key):z3L (zFL l key x) k=z3L l k:=by
 have hp:∀ (a b:List Rw),z3L (a++b) k=if(a.find? fun r=>r.k==k).isSome then z3L a k else z3L b k:=by
  intro a b;unfold z3L;rw [List.find?_append];cases a.find? fun r=>r.k==k with
  |none=>rfl
  |some r=>rfl
 have hin:∀q,q∈zFL l key x→q.k=k→q∈l:=fun q hq e=>by
  rcases z3o.1 hq with hq|hq
  ·exact hq.1
  ·rw [hq.2]at e;exact absurd e.symm hk
 have hout:∀q∈l,q.k=k→q∈zFL l key x:=fun q hq e=>z3o.2 (.inl ⟨hq,by rw [e];exact hk⟩)
 by_cases hx:∃q∈l,q.k=k
 ·obtain⟨q,hq,e⟩:=hx;have hd:∀a∈zFL l key x,∀b∈zFL l key x,a.k=k→b.k=k→a=b:=fun a ha b hb e1 e2=>zC9 h (hin a ha e1) (hin b hb e2) (e1.trans e2.symm)
  have e1:z3L (zFL l key x) k=q.vs:=by
   unfold z3L
   split
   ·rename_i r hr;have hrk:r.k=k:=by simpa using List.find?_some hr
    rw [hd r (List.mem_of_find?_eq_some hr) q (hout q hq e) hrk e]
   ·rename_i hn;exact absurd (by simpa using e) (List.find?_eq_none.1 hn q (hout q hq e))
  rw [e1,←e,z88 h hq]
 ·rw [z9U fun r hr e=>hx ⟨r,hr,e⟩,z9U fun r hr e=>hx ⟨r,hin r hr e,e⟩]
theorem z4M:∀ {ws:List Wri} {l:List Rw} {at_:Nat},RowsOk l→(∀w∈ws,w.Ok∧∀x∈z3L l w.k,x.t<at_)→(ws.Pairwise fun a b=>a.k≠b.k)→0<at_→at_<U64→RowsOk (z31 at_ l ws)∧∀c,c∈z3M (z31 at_ l ws)↔c∈z3M l∨∃w∈ws,c=zAJ w.k (w.vs at_)
 | [],l,at_,h,_,_,_,_=>⟨h,fun c=>by simp [z31]⟩
 |w::ws,l,at_,h,hw,hd,h0,h64=>by
  obtain⟨d1,d2⟩:=List.pairwise_cons.1 hd;have h1:=h.add (hw w (by simp)).2 (hw w (by simp)).1 h0 h64;obtain⟨i1,i2⟩:=z4M (ws:=ws) h1 (fun q hq=>⟨(hw q (by simp [hq])).1,fun x hx=>(hw q (by simp [hq])).2 x (by rwa [zGM h (d1 q hq).symm]at hx)⟩) d2 h0 h64;refine⟨i1,fun c=> ?_⟩;show c∈z3M (z31 at_ (zFL l w.k (w.vs at_)) ws)↔_;rw [i2 c,zGS h];constructor
  ·rintro((a|a)|⟨q,hq,a⟩)
   ·exact .inl a
   ·exact .inr ⟨w,by simp,a⟩
   ·exact .inr ⟨q,by simp [hq],a⟩
  ·rintro(a|⟨q,hq,a⟩)
   ·exact .inl (.inl a)
   ·rcases List.mem_cons.1 hq with rfl|hq
    ·exact .inl (.inr a)
    ·exact .inr ⟨q,hq,a⟩
theorem z6S{l:List Rw}{c:Cel}:c∈z3M l↔∃r∈l,∃x∈r.vs,c=zAJ r.k x:=by
 unfold z3M;rw [List.mem_flatMap];simp only [z5q]
theorem z9I{l:List Rw}{tl:List Cel}(h:RowsOk l)(ht:zIO tl){ws:List Wri}{at_:Nat}(hor:Nat)(hu:zGp l at_)(hw:∀w∈ws,w.Ok)(hd:ws.Pairwise fun a b=>a.k≠b.k)(h0:0<at_)(h64:at_<U64):
 RowsOk (z31 at_ l ws)∧z3Z (vwC l tl) (z0W at_ hor ws)=vwC (z31 at_ l ws) [(ttlK,zDs at_ hor)]:=by
 obtain⟨h1,h2⟩:=z4M h (fun w hm=>⟨hw w hm,fun x hx=>by obtain⟨r,hr,_,hv⟩:=z3p hx;exact hu r hr x (hv▸hx)⟩) hd h0 h64;refine⟨h1,zFC (z9e (z8n h ht)) (z8n h1 (.inr ⟨_,rfl⟩)) fun c=> ?_⟩;have hpw:(z0W at_ hor ws).Pairwise fun a b=>a.k≠b.k:=by
  unfold z0W;rw [List.pairwise_cons,List.pairwise_map];refine⟨fun y hy=> ?_,hd.imp fun {a b} hab e=>hab (z5u h64 h64 e).1⟩;obtain⟨w,_,rfl⟩:=List.mem_map.1 hy;exact(z66 w.k at_).ne.symm
 rw [zA7 (z8n h ht) hpw];unfold vwC;rw [List.mem_append,List.mem_append,h2 c,List.mem_singleton];unfold z0W;constructor
 ·rintro(⟨(a|a),b⟩|⟨x,hx,a,b⟩)
  ·exact .inl (.inl a)
  ·exfalso;rcases ht with rfl|⟨v,rfl⟩
   ·cases a
   ·obtain rfl:=List.mem_singleton.1 a;exact b ⟨ttlK,zDs at_ hor,false⟩ (by simp) rfl
  ·rcases List.mem_cons.1 hx with rfl|hx
   ·exact .inr b
   ·obtain⟨w,hw2,rfl⟩:=List.mem_map.1 hx;exact .inl (.inr ⟨w,hw2,b⟩)
 ·rintro((a|⟨w,hw2,a⟩)|a)
  ·refine .inl ⟨.inl a,fun x hx=> ?_⟩;obtain⟨r,hr,y,hy,rfl⟩:=z6S.1 a;rcases List.mem_cons.1 hx with rfl|hx
   ·exact(z66 r.k y.t).ne
   ·obtain⟨w,hw2,rfl⟩:=List.mem_map.1 hx;intro e;have:=(z5u ((h.rw r hr).vs y hy).t64 h64 e).2;have:=hu r hr y hy;omega
  ·exact .inr ⟨wriC at_ w,List.mem_cons_of_mem _ (List.mem_map.2 ⟨w,hw2,rfl⟩),rfl,a⟩
  ·exact .inr ⟨⟨ttlK,zDs at_ hor,false⟩,by simp,rfl,a⟩
end
section
open Go Go.RowKit
def z97(w:Wri):Nat:=if w.k= []∨64<w.k.length then 52 else if 256<w.v.length∨(w.gone=true∧w.v≠ [])then 53 else 0
def z4L:Option Key→List Wri→Nat
 |_,[]=>0
 |p,w::r=>if z97 w≠0 then z97 w else if zAI p w.k=true then 54 else z4L (some w.k) r
def z7I(ws:List Wri):Nat:=if ws= []then 50 else if 8<ws.length then 51 else z4L none ws
theorem zJK{w:Wri}(h:z97 w=0):w.Ok:=by
 unfold z97 at h
 split at h
 ·cases h
 ·rename_i h1
  split at h
  ·cases h
  ·rename_i h2;refine⟨fun e=>h1 (.inl e),by omega,by omega,fun hg=> ?_⟩;by_cases e:w.v= []
   ·exact e
   ·exact absurd (.inr ⟨hg,e⟩) h2
theorem zCV:∀ {p:Option Key} {ws:List Wri},z4L p ws=0→(∀w∈ws,w.Ok)∧(ws.Pairwise fun a b=>Lt a.k b.k)∧∀k,p=some k→∀w∈ws,Lt k w.k
 |p,[],_=>⟨fun w h=>(by cases h),List.Pairwise.nil,fun k _ w h=>(by cases h)⟩
 |p,w::r,h=>by
  rw [z4L]at h
  split at h
  ·rename_i h1;exact absurd h h1
  ·rename_i h1
   split at h
   ·cases h
   ·rename_i h2;obtain⟨i1,i2,i3⟩:=zCV h;have hw:=zJK (w:=w) (by omega);refine⟨fun q hq=>by rcases List.mem_cons.1 hq with rfl|hq;exact hw;exact i1 q hq,List.pairwise_cons.2 ⟨i3 _ rfl,i2⟩,fun k hk q hq=> ?_⟩;subst hk;have hl:Lt k w.k:=by
     rw [←z0L];cases hb:Op.bytesLess k w.k with
     |true=>rfl
     |false=>exact absurd (by simp [zAI,hb]) h2
    rcases List.mem_cons.1 hq with rfl|hq
    ·exact hl
    ·exact hl.trans (i3 _ rfl q hq)
theorem zEl{ws:List Wri}(h:z7I ws=0):ws≠ []∧ws.length≤8∧(∀w∈ws,w.Ok)∧ws.Pairwise fun a b=>Lt a.k b.k:=by
 unfold z7I at h
 split at h
 ·cases h
 ·rename_i h1
  split at h
  ·cases h
  ·rename_i h2;obtain⟨a,b,_⟩:=zCV h;exact⟨h1,by omega,a,b⟩
def zHs(x:Wri):List Value:= [.string (st x.k),.string (st x.v),.bool x.gone]
def zHv(l:List Wri):List Value:=l.flatMap zHs
theorem zFQ:∀ {l:List Wri} {j:Nat} (h:j<l.length),(zHv l)[j*3]? =some (.string (st l[j].k))∧(zHv l)[j*3+1]? =some (.string (st l[j].v))∧(zHv l)[j*3+2]? =some (.bool l[j].gone)
 |a::l,0,h=>⟨rfl,rfl,rfl⟩
 |a::l,j+1,h=>by
  have ih:=zFQ (l:=l) (j:=j) (by simpa using h);have e:zHv (a::l)=zHs a++zHv l:=rfl;have e2:∀m,(zHv (a::l))[(j+1)*3+m]? =(zHv l)[j*3+m]? :=fun m=>by
   rw [e,List.getElem?_append_right (by simp only [zHs,List.length_cons,List.length_nil];omega)]
   congr 1
   simp only [zHs,List.length_cons,List.length_nil];omega
  have h0:=e2 0;simp only [Nat.add_zero]at h0;rw [h0,e2 1,e2 2];simpa using ih
def Wrs(S:Nat→Prop)(w:World)(v:Value)(l:List Wri):Prop:=Sl S w 3 v l.length (zHv l)
theorem Wrs.lt{S:Nat→Prop}{w:World}{v:Value}{l:List Wri}(h:Wrs S w v l):Wrs (fun b=>S b∧b<w.heap.size) w v l:=Sl.lt h (by omega)
theorem Wrs.at{S:Nat→Prop}{w:World}{v:Value}{l:List Wri}(h:Wrs S w v l):∃A c,v= .slice A l.length c∧l.length≤c∧c≤maxLen∧(A=none→c=0)∧
 (0<l.length→∃b o,A=some ⟨b,o,none⟩∧S b∧∀j (hj:j<l.length),w.cell? ⟨b,o+j*3,none⟩=some (.string (st l[j].k))∧w.cell? ⟨b,o+j*3+1,none⟩=some (.string (st l[j].v))∧w.cell? ⟨b,o+j*3+2,none⟩=some (.bool l[j].gone)):=by
 obtain⟨h1,A,c,rfl,h2,h3,h4,h5⟩:=h;refine⟨A,c,rfl,h2,h3,h4,fun h0=> ?_⟩;obtain⟨b,o,rfl,hS,hc⟩:=h5 h0;refine⟨b,o,rfl,hS,fun j hj=> ?_⟩;have ha:=zFQ hj;exact⟨hc _ _ ha.1,hc _ _ ha.2.1,hc _ _ ha.2.2⟩
def rdChg(s:List UInt8×Nat):Chg×(List UInt8×Nat):=
 let t:=z0H s.1 s.2
 let f:=z1C t.2.1 t.2.2
 if f.1 then(⟨t.1,[],true⟩,f.2)else
  let v:=z0H f.2.1 f.2.2
  (⟨t.1,v.1,false⟩,v.2)
def zIY:Nat→List UInt8×Nat→List Chg→List Chg×(List UInt8×Nat)
 |0,s,acc=>(acc,s)
 |n+1,s,acc=>zIY n (rdChg s).2 (acc++ [(rdChg s).1])
def z2F(l:List UInt8):List Chg×Bool:=
 let c:=z0I l 0 11
 let p:=zIY c.1 c.2 []
 (p.1,z1P p.2.1 p.2.2==0)
def Wo(w:World)(B:Nat)(v:Value)(l:List Chg):Prop:=w.ownsRow B 127 3 v l.length (chs l)
theorem zBx{w:World}{B:Nat}{e:TypeId}{size n:Nat}{v:Value}{xs:List Value}(h:w.ownsRow B e size v n xs){gx:Nat}(hne:v.ownBlock≠some gx)(i:Nat)(u:Value):(w.setCell ⟨gx,i,none⟩ u).ownsRow B e size v n xs:=by
 obtain⟨h1,h2⟩:=h;refine⟨h1,?_⟩;rcases h2 with h2|⟨g',cap,cur,rfl,hB,hh,hrest⟩
 ·exact .inl h2
 ·exact .inr ⟨g',cap,cur,rfl,hB,(Below.heap_setCell w _ u g' (fun e=>hne (by simp [Value.ownBlock]at e ⊢;exact e))).trans hh,hrest⟩
end
section
open Go
def z3J(x:Vsn):List UInt8:=z0A x.t++(z1N x.gone++if x.gone then []else z0Q x.v)
def rwB(r:Rw):List UInt8:=z0Q r.k++(z0A r.vs.length++r.vs.flatMap z3J)
def z47(l:List Rw):List UInt8:=z0A l.length++l.flatMap rwB
def z0R(x:Vsn):Bool:=decide (0<x.t)&&decide (x.v.length≤256)&& !(x.gone&&decide (x.v≠ []))
def z1h:List Vsn→Bool
 | []=>true
 | [_]=>true
 |a::b::r=>decide (a.t<b.t)&&z1h (b::r)
def z3N(r:Rw):Bool:=decide (r.k≠ [])&&decide (r.k.length≤64)&&decide (r.vs≠ [])&&decide (r.vs.length≤100)&&z1h r.vs&&r.vs.all z0R
def z7k:List Rw→Bool
 | []=>true
 | [_]=>true
 |a::b::r=>Op.bytesLess a.k b.k&&z7k (b::r)
def z1R(l:List Rw):Bool:=l.all z3N&&z7k l&&decide (l.length≤100)
def z7F(s:List UInt8×Nat):Vsn×(List UInt8×Nat):=
 let n:=z0k s.1 s.2
 let f:=z1C n.2.1 n.2.2
 if f.1 then(⟨n.1,[],true⟩,f.2)else
  let v:=z0H f.2.1 f.2.2
  (⟨n.1,v.1,false⟩,v.2)
def z1t:Nat→List UInt8×Nat→List Vsn→List Vsn×(List UInt8×Nat)
 |0,s,acc=>(acc,s)
 |n+1,s,acc=>z1t n (z7F s).2 (acc++ [(z7F s).1])
def zIU(s:List UInt8×Nat):Rw×(List UInt8×Nat):=
 let t:=z0H s.1 s.2
 let c:=z0I t.2.1 t.2.2 100
 let p:=z1t c.1 c.2 []
 (⟨t.1,p.1⟩,p.2)
def z3B:Nat→List UInt8×Nat→List Rw→List Rw×(List UInt8×Nat)
 |0,s,acc=>(acc,s)
 |n+1,s,acc=>z3B n (zIU s).2 (acc++ [(zIU s).1])
def zHe(l:List UInt8):List Rw×Bool:=
 let c:=z0I l 0 100
 let p:=z3B c.1 c.2 []
 (p.1,z1P p.2.1 p.2.2==0&&z1R p.1)
theorem zAV{c i:Nat}(h:i<c)(s:List UInt8×Nat)(acc:List Vsn):z1t (c-i) s acc=z1t (c-(i+1)) (z7F s).2 (acc++ [(z7F s).1]):=by
 rw [show c-i=c-(i+1)+1 by omega,z1t]
theorem zDf{c i:Nat}(h:i<c)(s:List UInt8×Nat)(acc:List Rw):z3B (c-i) s acc=z3B (c-(i+1)) (zIU s).2 (acc++ [(zIU s).1]):=by
 rw [show c-i=c-(i+1)+1 by omega,z3B]
end
section
open Go Go.RowKit
theorem z5G:∀ {l:List Vsn},z1h l=true↔∀m,(h:m+1<l.length)→(l[m]'(by omega)).t<l[m+1].t
 | []=>by simp [z1h]
 | [a]=>by simp [z1h]
 |a::b::r=>by
  have ih:=z5G (l:=b::r);rw [z1h,Bool.and_eq_true,decide_eq_true_eq,ih];constructor
  ·rintro⟨h1,h2⟩ m hm;rcases m with _|m
   ·exact h1
   ·exact h2 m (by simpa using hm)
  ·intro h;exact⟨h 0 (by simp),fun m hm=>h (m+1) (by simpa using hm)⟩
theorem zCY(S:Nat→Prop)(v0:Value)(l:List Vsn)(w:World)(hr:Vs S w v0 l)(hl:l.length≤1000000000):
 Calls Tryz.prog 110 #[v0] w fun e w'=>e= .returned (.bool (z1h l))∧Below w.heap.size w w':=by
 obtain⟨R,hR0⟩:∃R,z1h l=R:=⟨_,rfl⟩;have hR:=z5G (l:=l);rw [hR0]at hR ⊢;clear hR0;have HR:=zz hR;obtain⟨A,c,rfl,hlc,hcm,hA0,hA⟩:=hr.at;have HA:=zz hA;clear hA hr hR;go_enter Tryz.func110,Tryz.ntmps110
 go_wp2_with fail
 go_loopw [3] (fun iv wr=>∃j:Nat,iv= .int .i64 ((j+1:Nat):Int)∧(j=0∨j+1≤l.length)∧Hid (∀m,(h:m+1<l.length)→m<j→(l[m]'(by omega)).t<l[m+1].t)∧∃n,wr=w.drewN n) (fun iv _=>l.length+1-(intOf iv).toNat)
 case atStart=>exact⟨0,rfl,by omega,(fun m _ h=>by omega),0,rfl⟩
 case round=>
  obtain⟨j,rfl,hj,hall,n,rfl⟩:=hrel;by_cases hil:j+1<l.length
  ·obtain⟨b,o,rfl,hbs,hc⟩:=HA.out (by omega);have hjl:j<l.length:=by omega
   have c0:w.cell? ⟨b,o+j*3,none⟩=some (.int .u64 (l[j].t:Int)):=(hc j hjl).1;have c1:w.cell? ⟨b,o+(j+1)*3,none⟩=some (.int .u64 (l[j+1].t:Int)):=(hc (j+1) hil).1;have HN:Hid (l[j].t<l[j+1].t→∀m,(h:m+1<l.length)→m<j+1→(l[m]'(by omega)).t<l[m+1].t):=fun h m hm1 hm2=>by
    rcases Nat.lt_or_ge m j with h3|h3
    ·exact hall.out m hm1 h3
    ·obtain rfl:m=j:=by omega
     exact h
   have HF:Hid (¬l[j].t<l[j+1].t→R=false):=fun h=>by
    cases R with
    |false=>rfl
    |true=>exact absurd (HR.out.1 rfl j hil) h
   generalize l[j].t=x at*;generalize l[j+1].t=y at*;have hwj:IntKind.i64.wrap (j:Int)=(j:Int):=IntWalk.i64_in _ (by omega);clear hc hall;by_cases hxy:x<y
   ·have HE:=zz (HN.out hxy);have e1:decide ((y:Int)≤(x:Int))=false:=by rw [decide_eq_false_iff_not];omega
    have e2:decide (y≤x)=false:=by rw [decide_eq_false_iff_not];omega
    clear hxy;go_wp2_with fail
    go_quiet (fail)
    go_wp2_with fail
    go_roundw
    case rel=>exact⟨j+1,by go_num,by omega,HE,_,rfl⟩
    case measure=>simp [intOf];omega
   ·have HE:=zz (HF.out hxy);have e1:decide ((y:Int)≤(x:Int))=true:=by rw [decide_eq_true_eq];omega
    have e2:decide (y≤x)=true:=by rw [decide_eq_true_eq];omega
    clear hxy;go_wp2_with fail
    go_quiet (fail)
    go_wp2_with fail
    go_ret
    exact⟨by rw [HE.out];rfl,below_drewN (below_drewN (Below.refl _ _) _) _⟩
  ·have HE:Hid (R=true):=HR.out.2 (fun m hm1=>hall.out m hm1 (by omega));go_wp2_with fail
   go_ret
   exact⟨by rw [HE.out];rfl,below_drewN (Below.refl _ _) _⟩
theorem zD4(x:Vsn)(w:World)(hv:x.v.length≤1000000000):
 Calls Tryz.prog 111 #[zEX x] w fun e w'=>e= .returned (.bool (z0R x))∧Below w.heap.size w w':=by
 obtain⟨t,v,gn⟩:=x;simp only at hv;have q:=(Below.refl w.heap.size w).alloc (Nat.le_refl _) (.cells #[.int .u64 (t:Int),.string (st v),.bool gn] 73);unfold zEX;simp only;by_cases h0:0<t
 ·have e1:decide ((0:Int)<(t:Int))=true:=by rw [decide_eq_true_eq];omega
  have e2:decide (0<t)=true:=by rw [decide_eq_true_eq];omega
  by_cases h1:v.length≤256
  ·cases gn with
   |false=>
    have HE:Hid (z0R ⟨t,v,false⟩=true):=by rw [Hid];unfold z0R;simp [h0,h1]
    clear h0;go_enter Tryz.func111,Tryz.ntmps111
    go_wp2_with fail
    go_ret
    exact⟨by rw [HE.out];rfl,q⟩
   |true=>
    by_cases h2:v= []
    ·subst h2;have HE:Hid (z0R ⟨t,[],true⟩=true):=by rw [Hid];unfold z0R;simp [h0]
     clear h0;go_enter Tryz.func111,Tryz.ntmps111
     go_wp2_with fail
     go_ret
     exact⟨by rw [HE.out];rfl,q⟩
    ·have HE:Hid (z0R ⟨t,v,true⟩=false):=by rw [Hid];unfold z0R;simp [h2]
     have e3:(v== [])=false:=by simpa using h2
     clear h0 h2;go_enter Tryz.func111,Tryz.ntmps111
     go_wp2_with fail
     go_ret
     exact⟨by rw [HE.out];rfl,q⟩
  ·have HE:Hid (z0R ⟨t,v,gn⟩=false):=by rw [Hid];unfold z0R;simp [h1]
   clear h0;go_enter Tryz.func111,Tryz.ntmps111
   go_wp2_with fail
   go_ret
   exact⟨by rw [HE.out];rfl,q⟩
 ·obtain rfl:t=0:=by omega
  have HE:Hid (z0R ⟨0,v,gn⟩=false):=by rw [Hid];unfold z0R;simp
  clear h0;go_enter Tryz.func111,Tryz.ntmps111
  go_wp2_with fail
  go_ret
  exact⟨by rw [HE.out];rfl,q⟩
theorem zHL(S:Nat→Prop)(r:Rw)(u:Value)(w:World)(hr:Vs S w u r.vs)(hl:r.vs.length≤1000000000)(hv:∀x∈r.vs,x.v.length≤1000000000)(hk:r.k.length≤1000000000):
 Calls Tryz.prog 72 #[.agg #[.string (st r.k),u]] w fun e w'=>e= .returned (.bool (z3N r))∧Below w.heap.size w w':=by
 obtain⟨k,vs⟩:=r;simp only at hr hl hv hk ⊢;have HR:=zz hr.lt;have HV:=zz hv;obtain⟨A,c,rfl,hlc,hcm,hA0,hA⟩:=hr.lt.at;have HA:=zz hA;clear hA hr hA0 hv;have hb:=Blk.new w 46 #[.string (st k),.slice A vs.length c];have q1:Below w.heap.size w (w.alloc (.cells #[.string (st k),.slice A vs.length c] 46)):=(Below.refl _ _).alloc (Nat.le_refl _) _;by_cases h:k= []
 ·subst h;have h:=hlc;have HE:Hid (z3N ⟨[],vs⟩=false):=by rw [Hid];unfold z3N;simp
  clear h;go_enter Tryz.func72,Tryz.ntmps72
  go_wp2_with fail
  go_ret
  exact⟨by rw [HE.out];rfl,q1⟩
 have e0:(k== [])=false:=by simpa using h
 have HK0:=zz h;clear h;by_cases h:64<k.length
 ·have HE:Hid (z3N ⟨k,vs⟩=false):=by rw [Hid];unfold z3N;rw [decide_eq_false (show ¬k.length≤64 by omega)];simp
  have h:=h;have e1:decide ((64:Int)<(k.length:Int))=true:=by rw [decide_eq_true_eq];omega
  have e2:decide (64<k.length)=true:=by rw [decide_eq_true_eq];omega
  clear h;go_enter Tryz.func72,Tryz.ntmps72
  go_wp2_with fail
  go_ret
  exact⟨by rw [HE.out];rfl,q1⟩
 have e1:decide ((64:Int)<(k.length:Int))=false:=by rw [decide_eq_false_iff_not];omega
 have e2:decide (64<k.length)=false:=by rw [decide_eq_false_iff_not];omega
 have hk64:k.length≤64:=by omega
 clear h;by_cases h:vs= []
 ·have HE:Hid (z3N ⟨k,vs⟩=false):=by rw [Hid];unfold z3N;simp [h]
  have hl0:vs.length=0:=by rw [h];rfl
  rw [hl0]at hb q1 ⊢;clear HR HV HA hl hlc hl0;clear h;go_enter Tryz.func72,Tryz.ntmps72
  go_wp2_with fail
  go_ret
  exact⟨by rw [HE.out];rfl,q1⟩
 have hpos:0<vs.length:=List.length_pos_iff.2 h;have HV0:=zz h;clear h;have e3:((vs.length:Int)==0)=false:=by rw [beq_eq_false_iff_ne];omega
 by_cases h:100<vs.length
 ·have HE:Hid (z3N ⟨k,vs⟩=false):=by rw [Hid];unfold z3N;rw [decide_eq_false (show ¬vs.length≤100 by omega)];simp
  have e4:decide ((100:Int)<(vs.length:Int))=true:=by rw [decide_eq_true_eq];omega
  have e5:decide (100<vs.length)=true:=by rw [decide_eq_true_eq];omega
  clear h;go_enter Tryz.func72,Tryz.ntmps72
  go_wp2_with fail
  go_ret
  exact⟨by rw [HE.out];rfl,q1⟩
 have e4:decide ((100:Int)<(vs.length:Int))=false:=by rw [decide_eq_false_iff_not];omega
 have e5:decide (100<vs.length)=false:=by rw [decide_eq_false_iff_not];omega
 have hl100:vs.length≤100:=by omega
 clear h;have HRS:Hid (z3N ⟨k,vs⟩=(z1h vs&&vs.all z0R)):=by
  rw [Hid];unfold z3N;simp only;rw [decide_eq_true HK0.out,decide_eq_true hk64,decide_eq_true HV0.out,decide_eq_true hl100];simp
 have HC:=zz (zCY _ _ vs (w.alloc (.cells #[.string (st k),.slice A vs.length c] 46)) (Sl.below HR.out q1 fun b hb=>hb.2) (by omega));have g1:(w.alloc (.cells #[.string (st k),.slice A vs.length c] 46)).cell? ⟨w.heap.size,1,none⟩=some (.slice A vs.length c):=hb.cell 1;cases hrs:z1h vs with
 |false=>
  have HE:Hid (z3N ⟨k,vs⟩=false):=by rw [Hid,HRS.out,hrs];rfl
  rw [hrs]at HC;clear hrs HRS HV HA;go_enter Tryz.func72,Tryz.ntmps72
  go_wp2_with fail
  refine HC.out.mono ?_;rintro e w2 ⟨rfl,hb2⟩;have q2:=q1.trans (hb2.mono q1.size);clear HC hb2 HR;go_wp2_with fail
  go_ret
  exact⟨by rw [HE.out];rfl,q2⟩
 |true=>
  have HE:Hid (z3N ⟨k,vs⟩=vs.all z0R):=by rw [Hid,HRS.out,hrs];rfl
  rw [hrs]at HC;clear hrs HRS;go_enter Tryz.func72,Tryz.ntmps72
  go_wp2_with fail
  refine HC.out.mono ?_;rintro e w2 ⟨rfl,hb2⟩;have q2:=q1.trans (hb2.mono q1.size);have hb3:=hb.later hb2;have g2:w2.cell? ⟨w.heap.size,1,none⟩=some (.slice A vs.length c):=hb3.cell 1;clear HC hb2 HR g1 hb hb3 e0 e1 e2 e3 e4 e5 q1;go_wp2_with fail
  go_loopw [35] (fun iv wr=>∃i:Nat,iv= .int .i64 (i:Int)∧i≤vs.length∧Hid ((∀x∈vs.take i,z0R x=true)∧Below w.heap.size w wr)) (fun iv _=>vs.length-(intOf iv).toNat)
  case atStart=>exact⟨0,rfl,by omega,by simp,q2⟩
  case round=>
   obtain⟨i,rfl,hi,RR⟩:=hrel;have hbl:=RR.out.2;by_cases hil:i<vs.length
   ·obtain⟨b,o,rfl,hbs,hc⟩:=HA.out (by omega);have c0:wr.cell? ⟨b,o+i*3,none⟩=some (.int .u64 (vs[i].t:Int)):=(hbl.cell (p:=⟨b,o+i*3,none⟩) hbs.2).trans (hc i hil).1;have c1:wr.cell? ⟨b,o+i*3+1,none⟩=some (.string (st vs[i].v)):=(hbl.cell (p:=⟨b,o+i*3+1,none⟩) hbs.2).trans (hc i hil).2.1;have c2:wr.cell? ⟨b,o+i*3+2,none⟩=some (.bool vs[i].gone):=(hbl.cell (p:=⟨b,o+i*3+2,none⟩) hbs.2).trans (hc i hil).2.2;have hx:=HV.out _ (List.getElem_mem hil);have HT:Hid (z0R vs[i]=true→∀x∈vs.take (i+1),z0R x=true):=fun h x hx=>by
     rw [List.take_succ_eq_append_getElem hil]at hx;rcases List.mem_append.1 hx with hx|hx
     ·exact RR.out.1 x hx
     ·obtain rfl:=List.mem_singleton.1 hx;exact h
    have HF:Hid (z0R vs[i]=false→vs.all z0R=false):=fun h=>by
     rw [List.all_eq_false];exact⟨vs[i],List.getElem_mem hil,by rw [h];simp⟩
    have q3:=hbl.alloc hbl.size (.cells #[.int .u64 (vs[i].t:Int),.string (st vs[i].v),.bool vs[i].gone] 73);have HMV:=zz (zD4 vs[i] (wr.alloc (.cells #[.int .u64 (vs[i].t:Int),.string (st vs[i].v),.bool vs[i].gone] 73)) hx);unfold zEX at HMV;obtain⟨x,hx0⟩:∃x,vs[i]=x:=⟨_,rfl⟩;rw [hx0]at c0 c1 c2 HT HF HMV q3;clear hx hx0 hc RR hbl;obtain⟨t,v,gn⟩:=x;simp only at c0 c1 c2 HMV q3;go_wp2_with fail
    refine HMV.out.mono ?_;rintro e w4 ⟨rfl,hb4⟩;have q4:=q3.trans (hb4.mono q3.size);clear HMV hb4 q3;cases hok:z0R ⟨t,v,gn⟩with
    |true=>
     have RF:Hid ((∀x∈vs.take (i+1),z0R x=true)∧Below w.heap.size w w4):=⟨HT.out hok,q4⟩;clear HT HF hok;go_wp2_with fail
     go_roundw
     case rel=>exact⟨i+1,by go_num,by omega,RF⟩
     case measure=>simp [intOf];omega
    |false=>
     have HE2:Hid (z3N ⟨k,vs⟩=false):=by rw [Hid,HE.out,HF.out hok]
     clear HT HF hok;go_wp2_with fail
     go_ret
     exact⟨by rw [HE2.out];rfl,q4⟩
   ·obtain rfl:i=vs.length:=by omega
    have HE2:Hid (z3N ⟨k,vs⟩=true):=by
     rw [Hid,HE.out,List.all_eq_true];have:=RR.out.1
     rwa [List.take_length]at this
    go_wp2_with fail
    go_ret
    exact⟨by rw [HE2.out];rfl,hbl⟩
theorem z7e:∀ {l:List Rw},z7k l=true↔∀m,(h:m+1<l.length)→Op.bytesLess (l[m]'(by omega)).k l[m+1].k=true
 | []=>by simp [z7k]
 | [a]=>by simp [z7k]
 |a::b::r=>by
  have ih:=z7e (l:=b::r);rw [z7k,Bool.and_eq_true,ih];constructor
  ·rintro⟨h1,h2⟩ m hm;rcases m with _|m
   ·exact h1
   ·exact h2 m (by simpa using hm)
  ·intro h;exact⟨h 0 (by simp),fun m hm=>h (m+1) (by simpa using hm)⟩
def zES(p:RwV)(i:Nat):Prop:=(∀m,(h:m<p.length)→m<i→z3N p[m].1=true)∧∀m,(h:m+1<p.length)→m+1<i→Op.bytesLess (p[m]'(by omega)).1.k p[m+1].1.k=true
theorem zA1{p:RwV}:z1R (p.map (·.1))=true↔zES p p.length∧p.length≤100:=by
 unfold z1R zES;rw [Bool.and_eq_true,Bool.and_eq_true,decide_eq_true_eq,z7e,List.all_eq_true];constructor
 ·rintro⟨⟨h1,h2⟩,h3⟩;exact⟨⟨fun m h _=>h1 _ (List.mem_map.2 ⟨_,List.getElem_mem h,rfl⟩),fun m h _=>by have:=h2 m (by simpa using h);simpa using this⟩,by simpa using h3⟩
 ·rintro⟨⟨h1,h2⟩,h3⟩
  refine⟨⟨fun r hr=> ?_,fun m h=>by have h':m+1<p.length:=by simpa using h
                                    have:=h2 m h' h';simpa using this⟩,by simpa using h3⟩
  obtain⟨x,hx,rfl⟩:=List.mem_map.1 hr;obtain⟨m,hm,rfl⟩:=List.mem_iff_getElem.1 hx;exact h1 m hm hm
def Mild(p:RwV):Prop:=p.length≤1000000000∧∀x∈p,x.1.k.length≤1000000000∧x.1.vs.length≤1000000000∧∀y∈x.1.vs,y.v.length≤1000000000
theorem z9S(S:Nat→Prop)(v0:Value)(p:RwV)(w:World)(hr:Rws S w v0 p)(hm:Mild p):
 Calls Tryz.prog 31 #[v0] w fun e w'=>e= .returned (.bool (z1R (p.map (·.1))))∧Below w.heap.size w w':=by
 have hR:=zA1 (p:=p);obtain⟨R,hR0⟩:∃R,z1R (p.map (·.1))=R:=⟨_,rfl⟩;rw [hR0]at hR ⊢;clear hR0;have HR:=zz hR;have HV:=zz hr.lt.vs;have HM:=zz hm.2;have hl:=hm.1;obtain⟨A,c,rfl,hlc,hcm,hA0,hA⟩:=hr.lt.at;have HA:=zz hA;clear hA hr hA0 hm hR;go_enter Tryz.func31,Tryz.ntmps31
 go_wp2_with fail
 go_loopw [7] (fun iv wr=>∃i:Nat,iv= .int .i64 (i:Int)∧i≤p.length∧Hid (zES p i∧Below w.heap.size w wr)) (fun iv _=>p.length-(intOf iv).toNat)
 case atStart=>exact⟨0,rfl,by omega,⟨fun m _ h=>by omega,fun m _ h=>by omega⟩,Below.refl _ _⟩
 case round=>
  obtain⟨i,rfl,hi,RR⟩:=hrel;have hbl:=RR.out.2;by_cases hil:i<p.length
  ·obtain⟨b,o,rfl,hbs,hc⟩:=HA.out (by omega);have c0:wr.cell? ⟨b,o+i*2,none⟩=some (.string (st p[i].1.k)):=(hbl.cell (p:=⟨b,o+i*2,none⟩) hbs.2).trans (hc i hil).1;have c1:wr.cell? ⟨b,o+i*2+1,none⟩=some p[i].2:=(hbl.cell (p:=⟨b,o+i*2+1,none⟩) hbs.2).trans (hc i hil).2;have hmi:=HM.out _ (List.getElem_mem hil);have hvi:=HV.out _ (List.getElem_mem hil);have hib:(0:Int)≤(i:Int):=by omega
   have HCC:Hid (∀j,(hj:j<p.length)→wr.cell? ⟨b,o+j*2,none⟩=some (.string (st p[j].1.k))):=fun j hj=>(hbl.cell (p:=⟨b,o+j*2,none⟩) hbs.2).trans (hc j hj).1
   have HTN:Hid (z3N p[i].1=true→(∀j,(e:i=j+1)→Op.bytesLess (p[j]'(by omega)).1.k p[i].1.k=true)→zES p (i+1)):=fun h1 h2=>by
    refine⟨fun m hm hmi=> ?_,fun m hm hmi=> ?_⟩
    ·by_cases e:m=i
     ·subst e;exact h1
     ·exact RR.out.1.1 m hm (by omega)
    ·by_cases e:i=m+1
     ·subst e;exact h2 m rfl
     ·exact RR.out.1.2 m hm (by omega)
   have HF1:Hid (z3N p[i].1=false→R=false):=fun h=>by
    cases R with
    |false=>rfl
    |true=>have:=(HR.out.1 rfl).1.1 i hil hil;rw [h]at this;cases this
   have HF2:Hid (∀j,(e:i=j+1)→Op.bytesLess (p[j]'(by omega)).1.k p[i].1.k=false→R=false):=fun j e h=>by
    subst e;cases R with
    |false=>rfl
    |true=>have:=(HR.out.1 rfl).1.2 j hil hil;rw [h]at this;cases this
   obtain⟨u,hu⟩:∃u,p[i].2=u:=⟨_,rfl⟩;obtain⟨r,hr0⟩:∃r,p[i].1=r:=⟨_,rfl⟩;rw [hu]at c1 hvi;rw [hr0]at c0 hmi hvi HTN HF1 HF2;clear hu hr0;obtain⟨k,vs⟩:=r;simp only at c0 hmi hvi HTN HF1 HF2;obtain⟨A1,c1',rfl,-⟩:=Vs.at hvi;have q3:Below wr.heap.size wr (wr.alloc (.cells #[.string (st k),.slice A1 vs.length c1'] 46)):=(Below.refl _ _).alloc (Nat.le_refl _) _;have hbx:=Blk.new wr 46 #[.string (st k),.slice A1 vs.length c1'];have HBX:=zz (hbl.trans (q3.mono hbl.size));have HCX:Hid (∀j,(hj:j<p.length)→(wr.alloc (.cells #[.string (st k),.slice A1 vs.length c1'] 46)).cell? ⟨b,o+j*2,none⟩=some (.string (st p[j].1.k))):=fun j hj=>cell_later q3 (HCC.out j hj)
   have HMR:Hid (∀wg,Below (wr.alloc (.cells #[.string (st k),.slice A1 vs.length c1'] 46)).heap.size (wr.alloc (.cells #[.string (st k),.slice A1 vs.length c1'] 46)) wg→Calls Tryz.prog 72 #[.agg #[.string (st k),.slice A1 vs.length c1']] wg fun e w'=>e= .returned (.bool (z3N ⟨k,vs⟩))∧Below wg.heap.size wg w'):=fun wg hwg=>
    zHL _ ⟨k,vs⟩ _ wg (Sl.below (Sl.below hvi HBX.out fun b hb=>hb.2) hwg fun b hb=>Nat.lt_of_lt_of_le hb.2 HBX.out.size) hmi.2.1 hmi.2.2 hmi.1
   clear hvi hmi hc RR hbl HCC HM HV HA;go_wp2_with fail
   generalize hW:wr.alloc (.cells #[.string (st k),.slice A1 vs.length c1'] 46)=W at*;clear hW;have x0:W.cell? ⟨wr.heap.size,0,none⟩=some (.string (st k)):=hbx.cell 0;have x1:W.cell? ⟨wr.heap.size,1,none⟩=some (.slice A1 vs.length c1'):=hbx.cell 1;generalize wr.heap.size=gx at*;obtain⟨ok,hok⟩:∃ok,z3N ⟨k,vs⟩=ok:=⟨_,rfl⟩;rw [hok]at HTN HF1 HMR;clear hok;cases ok with
   |false=>
    have HE:=zz (HF1.out rfl);clear HTN HF1 HF2 HCX;refine z01 (by kernel_rfl) (by kernel_rfl) ?_;apply Exists.intro;apply And.intro
    ·repeat(first
      |(apply z04 rfl
        intro K hK;go_simp;refine hK _ ?_;clear hK K)
      |(apply z09 rfl
        ·intro wg hwg _;have x0':=cell_later hwg x0;have x1':=cell_later hwg x1;unfold z07;go_simp
         first
          |exact z00 _ _
          |(exact z0C (HMR.out wg hwg))
        intro K hK;go_simp;refine hK _ ?_;clear hK K))
     refine z08 (fun wg hwg _=> ?_);go_wp2_with fail
     go_ret
     rw [HE.out];exact⟨rfl,HBX.out.trans (hwg.mono HBX.out.size)⟩
    ·apply And.intro
     ·repeat(first|exact trivial|(refine⟨Stays.is _,?_⟩)|(refine⟨Stays.bs _,?_⟩)|(refine⟨Stays.pg _ _ _,?_⟩))
     ·rfl
   |true=>
    clear HF1;rcases i with _|j
    ·have HE:=zz (HTN.out rfl (fun j e=>by omega));clear HTN HF2 HCX;refine z01 (by kernel_rfl) (by kernel_rfl) ?_;apply Exists.intro;apply And.intro
     ·repeat(first
       |(apply z04 rfl
         intro K hK;go_simp;refine hK _ ?_;clear hK K)
       |(apply z09 rfl
         ·intro wg hwg _;have x0':=cell_later hwg x0;have x1':=cell_later hwg x1;unfold z07;go_simp
          first
           |exact z00 _ _
           |(exact z0C (HMR.out wg hwg))
         intro K hK;go_simp;refine hK _ ?_;clear hK K))
      refine z08 (fun wg hwg _=> ?_);have RF:Hid (zES p (0+1)∧Below w.heap.size w wg):=⟨HE.out,HBX.out.trans (hwg.mono HBX.out.size)⟩;clear HE HBX hwg;go_wp2_with fail
      go_roundw
      case rel=>exact⟨0+1,by go_num,by omega,RF⟩
      case measure=>simp [intOf];omega
     ·apply And.intro
      ·repeat(first|exact trivial|(refine⟨Stays.is _,?_⟩)|(refine⟨Stays.bs _,?_⟩)|(refine⟨Stays.pg _ _ _,?_⟩))
      ·rfl
    ·have hjl:j<p.length:=by omega
     have c5:=HCX.out j hjl;have hib2:(0:Int)≤(j:Int):=by omega
     have hwj:IntKind.i64.wrap (j:Int)=(j:Int):=IntWalk.i64_in _ (by omega);have HT1:Hid (Op.bytesLess (p[j]'(by omega)).1.k k=true→zES p (j+1+1)):=fun h=>HTN.out rfl (fun j' e=>by
      obtain rfl:j=j':=Nat.add_right_cancel e;exact h)
     have HT2:=zz (HF2.out j rfl);clear HTN HF2 HCX;obtain⟨y,hy⟩:∃y,p[j].1.k=y:=⟨_,rfl⟩;rw [hy]at c5 HT1 HT2;clear hy;cases hbs2:Op.bytesLess y k with
     |true=>
      have HE:=zz (HT1.out hbs2);clear HT1 HT2;refine z01 (by kernel_rfl) (by kernel_rfl) ?_;apply Exists.intro;apply And.intro
      ·repeat(first
        |(apply z04 rfl
          intro K hK;go_simp;refine hK _ ?_;clear hK K)
        |(apply z09 rfl
          ·intro wg hwg _;have c5':=cell_later hwg c5;have x0':=cell_later hwg x0;have x1':=cell_later hwg x1;unfold z07;go_simp
           first
            |exact z00 _ _
            |(exact z0C (HMR.out wg hwg))
          intro K hK;go_simp;refine hK _ ?_;clear hK K))
       refine z08 (fun wg hwg _=> ?_);have RF:Hid (zES p (j+1+1)∧Below w.heap.size w wg):=⟨HE.out,HBX.out.trans (hwg.mono HBX.out.size)⟩;clear HE HBX hwg;go_wp2_with fail
       go_roundw
       case rel=>exact⟨j+1+1,by go_num,by omega,RF⟩
       case measure=>simp [intOf];omega
      ·apply And.intro
       ·repeat(first|exact trivial|(refine⟨Stays.is _,?_⟩)|(refine⟨Stays.bs _,?_⟩)|(refine⟨Stays.pg _ _ _,?_⟩))
       ·rfl
     |false=>
      have HE:=zz (HT2.out hbs2);clear HT1 HT2;refine z01 (by kernel_rfl) (by kernel_rfl) ?_;apply Exists.intro;apply And.intro
      ·repeat(first
        |(apply z04 rfl
          intro K hK;go_simp;refine hK _ ?_;clear hK K)
        |(apply z09 rfl
          ·intro wg hwg _;have c5':=cell_later hwg c5;have x0':=cell_later hwg x0;have x1':=cell_later hwg x1;unfold z07;go_simp
           first
            |exact z00 _ _
            |(exact z0C (HMR.out wg hwg))
          intro K hK;go_simp;refine hK _ ?_;clear hK K))
       refine z08 (fun wg hwg _=> ?_);go_wp2_with fail
       go_ret
       rw [HE.out];exact⟨rfl,HBX.out.trans (hwg.mono HBX.out.size)⟩
      ·apply And.intro
       ·repeat(first|exact trivial|(refine⟨Stays.is _,?_⟩)|(refine⟨Stays.bs _,?_⟩)|(refine⟨Stays.pg _ _ _,?_⟩))
       ·rfl
  ·obtain rfl:i=p.length:=by omega
   have HE:Hid (R=decide (p.length≤100)):=by
    rw [Hid];by_cases h:p.length≤100
    ·rw [decide_eq_true h];exact HR.out.2 ⟨RR.out.1,h⟩
    ·rw [decide_eq_false h];cases R with
     |false=>rfl
     |true=>exact absurd (HR.out.1 rfl).2 h
   have e1:decide ((p.length:Int)≤100)=decide (p.length≤100):=by
    by_cases h:p.length≤100
    ·rw [decide_eq_true h,decide_eq_true_eq];omega
    ·rw [decide_eq_false h,decide_eq_false_iff_not];omega
   go_wp2_with fail
   go_ret
   rw [HE.out];exact⟨by first|rfl|rw [e1],hbl⟩
end
section
open Go
theorem z9C{k:List UInt8}(hk:k.length≤65536)(s:List UInt8):z0H (z0Q k++s) 0=(k,s,0):=by
 unfold z0Q;rw [List.append_assoc];exact z5W hk s
theorem z2k{x:Vsn}:z0R x=true↔0<x.t∧x.v.length≤256∧(x.gone=true→x.v= []):=by
 unfold z0R;cases x.gone<;>simp [and_assoc]
theorem zCt{x:Vsn}(hx:z0R x=true)(ht:x.t<U64)(s:List UInt8):z7F (z3J x++s,0)=(x,(s,0)):=by
 obtain⟨h1,h2,h3⟩:=z2k.1 hx;obtain⟨t,v,gn⟩:=x;simp only at h1 h2 h3 ht;unfold z7F z3J;simp only [List.append_assoc];rw [zEn ht,z81];cases gn with
 |true=>simp [h3 rfl]
 |false=>
  simp only [Bool.false_eq_true,if_false];rw [z9C (by omega)]
theorem z6s:∀ (l:List Vsn),(∀x∈l,z0R x=true∧x.t<U64)→∀ (s:List UInt8) (acc:List Vsn),z1t l.length (l.flatMap z3J++s,0) acc=(acc++l,(s,0))
 | [],_,s,acc=>by simp [z1t]
 |x::r,h,s,acc=>by
  rw [List.length_cons,z1t,List.flatMap_cons,List.append_assoc,zCt (h x (by simp)).1 (h x (by simp)).2];simp only;rw [z6s r (fun y hy=>h y (by simp [hy]))];simp
theorem z3l{r:Rw}(h:z3N r=true):r.k≠ []∧r.k.length≤64∧r.vs≠ []∧r.vs.length≤100∧z1h r.vs=true∧∀x∈r.vs,z0R x=true:=by
 unfold z3N at h;simp only [Bool.and_eq_true,decide_eq_true_eq,List.all_eq_true]at h;obtain⟨⟨⟨⟨⟨a,b⟩,c⟩,d⟩,e⟩,f⟩:=h;exact⟨a,b,c,d,e,f⟩
theorem zEx{r:Rw}(h:z3N r=true)(ht:∀x∈r.vs,x.t<U64)(s:List UInt8):zIU (rwB r++s,0)=(r,(s,0)):=by
 obtain⟨h1,h2,h3,h4,h5,h6⟩:=z3l h;obtain⟨k,vs⟩:=r;simp only at*;unfold zIU rwB;simp only [List.append_assoc];rw [z9C (by omega)];simp only;have hc:=z34 (x:=vs.length) (by unfold U64;omega) (m:=100) h4 (vs.flatMap z3J++s);rw [show((100:Nat):Int)=100 from rfl]at hc;rw [hc];simp only;rw [z6s vs (fun x hx=>⟨h6 x hx,ht x hx⟩)];simp
theorem z7W:∀ (l:List Rw),(∀r∈l,z3N r=true∧∀x∈r.vs,x.t<U64)→∀ (s:List UInt8) (acc:List Rw),z3B l.length (l.flatMap rwB++s,0) acc=(acc++l,(s,0))
 | [],_,s,acc=>by simp [z3B]
 |x::r,h,s,acc=>by
  rw [List.length_cons,z3B,List.flatMap_cons,List.append_assoc,zEx (h x (by simp)).1 (h x (by simp)).2];simp only;rw [z7W r (fun y hy=>h y (by simp [hy]))];simp
theorem zCj{l:List Rw}(h:z1R l=true)(ht:∀r∈l,∀x∈r.vs,x.t<U64):zHe (z47 l)=(l,true):=by
 have h':=h;unfold z1R at h';simp only [Bool.and_eq_true,decide_eq_true_eq,List.all_eq_true]at h';obtain⟨⟨h1,h2⟩,h3⟩:=h';unfold zHe z47;have hc:=z34 (x:=l.length) (by unfold U64;omega) (m:=100) h3 (l.flatMap rwB);rw [show((100:Nat):Int)=100 from rfl]at hc;rw [hc];simp only;have hb:=z7W l (fun r hr=>⟨h1 r hr,ht r hr⟩) [] [];rw [List.append_nil,List.nil_append]at hb;rw [hb,h];rfl
theorem zH5{x:Vsn}(hv:x.v.length≤256)(ht:x.t<U64):(z3J x).length≤300:=by
 have h1:=z0v x.v (by omega);have h2:(z0A x.v.length).length≤10:=z06 (by unfold U64;omega);have h3:(z0A x.t).length≤10:=z06 ht;unfold z3J;cases hg:x.gone with
 |true=>
  have:(z1N true).length=1:=rfl;simp only [List.length_append,if_true,List.length_nil];omega
 |false=>
  have:(z1N false).length=1:=rfl;simp only [List.length_append,Bool.false_eq_true,if_false];omega
theorem z4p:∀ {l:List Vsn},(∀x∈l,x.v.length≤256∧x.t<U64)→(l.flatMap z3J).length≤300*l.length
 | [],_=>by simp
 |a::l,h=>by
  have h1:=zH5 (h a (by simp)).1 (h a (by simp)).2;have h2:=z4p fun x hx=>h x (List.mem_cons_of_mem _ hx)
  rw [List.flatMap_cons,List.length_append,List.length_cons];omega
theorem zJA{r:Rw}(h:z3N r=true)(ht:∀x∈r.vs,x.t<U64):(rwB r).length≤31000:=by
 obtain⟨h1,h2,h3,h4,h5,h6⟩:=z3l h;have a1:=z4p (l:=r.vs) fun x hx=>⟨(z2k.1 (h6 x hx)).2.1,ht x hx⟩
 have a2:=z0v r.k (by omega);have a3:(z0A r.k.length).length≤10:=z06 (by unfold U64;omega);have a4:(z0A r.vs.length).length≤10:=z06 (by unfold U64;omega);have a5:=Nat.mul_le_mul_left 300 h4;unfold rwB;simp only [List.length_append];omega
theorem zBd:∀ {l:List Rw},(∀r∈l,z3N r=true∧∀x∈r.vs,x.t<U64)→(l.flatMap rwB).length≤31000*l.length
 | [],_=>by simp
 |a::l,h=>by
  have h1:=zJA (h a (by simp)).1 (h a (by simp)).2;have h2:=zBd fun x hx=>h x (List.mem_cons_of_mem _ hx)
  rw [List.flatMap_cons,List.length_append,List.length_cons];omega
end
section
open Go Go.RowKit
structure Wt(w wr:World)(G:Nat)(l:List UInt8):Prop where
 wt:Wr wr G G l
 b:Below w.heap.size w wr
 g0:w.heap.size≤G
 g1:G<wr.heap.size
def zFZ(w wr:World)(G:Nat)(l:List UInt8)(e:Ending)(w':World):Prop:=e= .returned (.tuple #[])∧Wt w w' G l∧Turn (fun b=>b=G) wr w'
section
variable {w wr w':World} {G:Nat} {l l2:List UInt8}
theorem Wt.step(h:Wt w wr G l){o:Obj}(hw:Wr w' G G l2)(hg:(wr.alloc o).grownBy w' (some G)):Wt w w' G l2∧Turn (fun b=>b=G) wr w':=by
 have t:Turn (fun b=>b=G) wr w':=((Turn.refl _ _).alloc o).trans (Turn.of_grown (F:=fun b=>b=G) hg fun z hz=>(Option.some.inj hz).symm) fun b hb=> .inl hb
 have hs:=t.size;have h1:=h.g1;exact⟨⟨hw,Turn.below h.b t h.b.size fun b hb=>hb▸h.g0,h.g0,by omega⟩,t⟩
theorem Wt.later(h:Wt w wr G l)(hb:Below wr.heap.size wr w'):Wt w w' G l:=⟨h.wt.later hb,h.b.trans (hb.mono h.b.size),h.g0,Nat.lt_of_lt_of_le h.g1 hb.size⟩
theorem zFy(h:Wt w wr G l)(x:Nat)(hx:x<U64)(hl:l.length≤100000000){g:Nat}(hg:g=wr.heap.size):
 Calls Tryz.prog 33 #[.pointer (some ⟨G,0,none⟩),.slice (some ⟨g,0,none⟩) 1 1] (wr.alloc (.cells #[.int .u64 (x:Int)] 39)) (zFZ w wr G (l++z0A x)):=by
 subst hg;have h1:=h.g1;refine(z3r G G l [x] _ _ (h.wt.alloc _) (by simp;omega) (Nat.le_refl _) (by intro y hy;simp at hy;subst hy;exact hx) (by simp;omega) (Sl.new1 wr _ _ rfl ⟨by omega,by simp⟩)).mono ?_;rintro e w' ⟨rfl,hw,hg⟩;obtain⟨a,b⟩:=h.step hw hg;simp only [List.flatMap_cons,List.flatMap_nil,List.append_nil]at a;exact⟨rfl,a,b⟩
theorem zEL(h:Wt w wr G l)(x:List UInt8)(hx:x.length≤65536)(hl:l.length≤100000000){g:Nat}(hg:g=wr.heap.size):
 Calls Tryz.prog 34 #[.pointer (some ⟨G,0,none⟩),.slice (some ⟨g,0,none⟩) 1 1] (wr.alloc (.cells #[.string (st x)] 9)) (zFZ w wr G (l++z0Q x)):=by
 subst hg;have h1:=h.g1;refine(z3T G G l [x] _ _ (h.wt.alloc _) (by simp;omega) (Nat.le_refl _) (by intro y hy;simp at hy;subst hy;exact hx) (by simp;omega) (Sl.new1 wr _ _ rfl ⟨by omega,by simp⟩)).mono ?_;rintro e w' ⟨rfl,hw,hg⟩;obtain⟨a,b⟩:=h.step hw hg;simp only [List.flatMap_cons,List.flatMap_nil,List.append_nil]at a;exact⟨rfl,a,b⟩
theorem zIf(h:Wt w wr G l)(x:Bool)(hl:l.length≤100000000):
 Calls Tryz.prog 35 #[.pointer (some ⟨G,0,none⟩),.bool x] wr (zFZ w wr G (l++z1N x)):=by
 have h1:=h.g1;refine(z6f G G l x wr h.wt (by omega) (Nat.le_refl _) (by omega)).mono ?_;rintro e w' ⟨rfl,hw,hg⟩;have t:Turn (fun b=>b=G) wr w':=Turn.of_grown hg fun z hz=>(Option.some.inj hz).symm
 have hs:=t.size;exact⟨rfl,⟨hw,Turn.below h.b t h.b.size fun b hb=>hb▸h.g0,h.g0,by omega⟩,t⟩
end
def RwsIn(p:RwV):Prop:=z1R (p.map (·.1))=true∧∀x∈p,∀y∈x.1.vs,y.t<U64
theorem RwsIn.row{p:RwV}(h:RwsIn p){x:Rw×Value}(hx:x∈p):z3N x.1=true∧∀y∈x.1.vs,y.t<U64:=by
 have:=h.1;unfold z1R at this;simp only [Bool.and_eq_true,List.all_eq_true]at this;exact⟨this.1.1 _ (List.mem_map.2 ⟨x,hx,rfl⟩),h.2 x hx⟩
theorem RwsIn.len{p:RwV}(h:RwsIn p):p.length≤100:=by
 have:=h.1;unfold z1R at this;simp only [Bool.and_eq_true,decide_eq_true_eq,List.length_map]at this;exact this.2
def z92(p:RwV):List UInt8:=p.flatMap fun x=>rwB x.1
theorem z4r(p:RwV):(p.map (·.1)).flatMap rwB=z92 p:=by unfold z92;rw [List.flatMap_map]
theorem z4l{p:RwV}(h:RwsIn p)(i:Nat):(z92 (p.take i)).length≤3100000:=by
 have h1:=zBd (l:=(p.take i).map (·.1)) fun r hr=>by
  obtain⟨x,hx,rfl⟩:=List.mem_map.1 hr;exact h.row (List.mem_of_mem_take hx)
 rw [z4r,List.length_map,List.length_take]at h1;have h2:=h.len;have h3:=Nat.mul_le_mul_left 31000 (show min i p.length≤100 by omega);omega
theorem zBf(S:Nat→Prop)(v0:Value)(p:RwV)(w:World)(hr:Rws S w v0 p)(hm:Mild p)(ht:∀x∈p,∀y∈x.1.vs,y.t<U64):
 Calls Tryz.prog 10 #[v0] w fun e w'=>Below w.heap.size w w'∧(z1R (p.map (·.1))=false→e= .returned (.tuple #[.slice none 0 0,.int .i64 280]))∧
  (z1R (p.map (·.1))=true→∃A k c,e= .returned (.tuple #[.slice A k c,.int .i64 0])∧Ob 5 w' w.heap.size (.slice A k c) (z47 (p.map (·.1)))):=by
 have HM:=zz (z9S S v0 p w hr hm);have HRR:=zz hr.lt;obtain⟨A,c,rfl,hlc,hcm,-,hA⟩:=hr.lt.at;have HA:=zz hA;cases hok:z1R (p.map (·.1))with
 |false=>
  rw [hok]at HM;clear hA hr hm ht HRR HA hok;go_enter Tryz.func10,Tryz.ntmps10
  go_wp2_with fail
  refine HM.out.mono ?_;rintro e w1 ⟨rfl,hb1⟩;go_wp2_with fail
  go_ret2
  exact⟨hb1,fun _=>rfl,fun h=>by cases h⟩
 |true=>
  rw [hok]at HM;have hin:RwsIn p:=⟨hok,ht⟩;have HIN:=zz hin;have hlen:=hin.len;clear hA hr hm ht hok hin;go_enter Tryz.func10,Tryz.ntmps10
  go_wp2_with fail
  refine HM.out.mono ?_;rintro e w1 ⟨rfl,hb1⟩;have HB1:=zz hb1;clear HM hb1;go_wp2_with fail
  refine(z3b w1).mono ?_;rintro e w2 ⟨rfl,hw2,hb2,hs2⟩;obtain⟨G,hG⟩:∃G,w1.heap.size=G:=⟨_,rfl⟩;have hz1:=HB1.out.size;have HT2:Hid (Wt w w2 G []):=⟨by rw [←hG];exact hw2,HB1.out.trans (hb2.mono hz1),by omega,by omega⟩;rw [hG];clear hw2 hb2 HB1 hz1 hs2;have hwu:IntKind.u64.wrap (p.length:Int)=(p.length:Int):=z0l (by omega) (by unfold U64;omega);go_wp2_with fail
  refine(zFy HT2.out p.length (by unfold U64;omega) (by simp) rfl).mono ?_;rintro e w3 ⟨rfl,hw3,-⟩;have R0:Hid (Wt w w3 G (z0A p.length++z92 (p.take 0))):=by
   rw [Hid,List.take_zero];simpa [z92]using hw3
  have hv10:(z0A p.length).length≤10:=z06 (by unfold U64;omega);clear hw3 HT2 hG hwu;go_wp2_with fail
  go_loopw [21] (fun iv wr=>∃i:Nat,iv= .int .i64 (i:Int)∧i≤p.length∧Hid (Wt w wr G (z0A p.length++z92 (p.take i)))) (fun iv _=>p.length-(intOf iv).toNat)
  case atStart=>exact⟨0,rfl,by omega,R0⟩
  case round=>
   clear R0;obtain⟨i,rfl,hi,RR⟩:=hrel;have hbl:=RR.out.b;by_cases hil:i<p.length
   ·obtain⟨b,o,rfl,hbs,hc⟩:=HA.out (by omega);have c0:wr.cell? ⟨b,o+i*2,none⟩=some (.string (st p[i].1.k)):=(hbl.cell (p:=⟨b,o+i*2,none⟩) hbs.2).trans (hc i hil).1;have c1:wr.cell? ⟨b,o+i*2+1,none⟩=some p[i].2:=(hbl.cell (p:=⟨b,o+i*2+1,none⟩) hbs.2).trans (hc i hil).2;obtain⟨hok,hts⟩:=HIN.out.row (List.getElem_mem hil);obtain⟨k1,k2,k3,k4,k5,k6⟩:=z3l hok;have hvi:=HRR.out.vs _ (List.getElem_mem hil);have HS:Hid (z92 (p.take (i+1))=z92 (p.take i)++rwB p[i].1):=by
     rw [Hid,List.take_succ_eq_append_getElem hil];unfold z92;rw [List.flatMap_append,List.flatMap_cons,List.flatMap_nil,List.append_nil]
    have HLP:Hid ((z0A p.length++z92 (p.take i)).length≤3100010):=by
     have:=z4l HIN.out i;rw [Hid,List.length_append];omega
    obtain⟨u,hu⟩:∃u,p[i].2=u:=⟨_,rfl⟩;obtain⟨r,hr0⟩:∃r,p[i].1=r:=⟨_,rfl⟩;rw [hu]at c1 hvi;rw [hr0]at c0 hvi HS hok hts k1 k2 k3 k4 k5 k6;clear hu hr0 hc hok;obtain⟨k,vs⟩:=r;simp only at c0 hvi hts k1 k2 k3 k4 k5 k6;obtain⟨pre,hpre⟩:∃pre,z0A p.length++z92 (p.take i)=pre:=⟨_,rfl⟩;have HPRE:=zz hpre;rw [hpre]at RR HLP;have HK6:=zz k6;have HTS:=zz hts;obtain⟨A1,c1',rfl,hvc,hvm,-,hV⟩:=Vs.at hvi;have HV:=zz hV;have q3:Below wr.heap.size wr (wr.alloc (.cells #[.string (st k),.slice A1 vs.length c1'] 46)):=(Below.refl _ _).alloc (Nat.le_refl _) _;have hbx:=Blk.new wr 46 #[.string (st k),.slice A1 vs.length c1'];have HT:=zz (RR.out.later q3);have hgw:=RR.out.g1;have hlp:=HLP.out;clear hpre k6 hts hV hvi hbl RR q3 k1 k3 k5;have HWS:Hid ((wr.alloc (.cells #[.string (st k),.slice A1 vs.length c1'] 46)).heap.size=wr.heap.size+1):=by rw [Hid];simp
    go_wp2_with fail
    generalize hW:wr.alloc (.cells #[.string (st k),.slice A1 vs.length c1'] 46)=W at*;clear hW;refine(zEL HT.out k (by omega) (by omega) HWS.out.symm).mono ?_;rintro e w4 ⟨rfl,hw4,ht4⟩;have hb4:=hbx.turn ht4 (by omega);have x1:w4.cell? ⟨wr.heap.size,1,none⟩=some (.slice A1 vs.length c1'):=hb4.cell 1;have HT4:=zz hw4;have hlt:=z0v k (by omega);have hvk:(z0A k.length).length≤10:=z06 (by unfold U64;omega);have hl4:(pre++z0Q k).length≤3200000:=by rw [List.length_append];omega
    have hwv:IntKind.u64.wrap (vs.length:Int)=(vs.length:Int):=z0l (by omega) (by unfold U64;omega);clear hw4 ht4 HT hbx;go_wp2_with fail
    refine(zFy HT4.out vs.length (by unfold U64;omega) (by omega) rfl).mono ?_;rintro e w5 ⟨rfl,hw5,ht5⟩;have hb5:=hb4.turn ht5 (by omega);have y1:w5.cell? ⟨wr.heap.size,1,none⟩=some (.slice A1 vs.length c1'):=hb5.cell 1;have hvv:(z0A vs.length).length≤10:=z06 (by unfold U64;omega);obtain⟨mid,hmid⟩:∃mid,pre++z0Q k++z0A vs.length=mid:=⟨_,rfl⟩;have hlm:mid.length≤3200100:=by rw [←hmid,List.length_append];omega
    have HMID:=zz hmid;have R1:Hid (Wt w w5 G (mid++(vs.take 0).flatMap z3J)):=by
     rw [Hid,List.take_zero,←hmid];simpa using hw5
    have HBV:Hid (∀j,((vs.take j).flatMap z3J).length≤30000):=fun j=>by
     have h1:=z4p (l:=vs.take j) fun x hx=>⟨(z2k.1 (HK6.out x (List.mem_of_mem_take hx))).2.1,HTS.out x (List.mem_of_mem_take hx)⟩
     rw [List.length_take]at h1;have h3:=Nat.mul_le_mul_left 300 (show min j vs.length≤100 by omega);omega
    clear hw5 ht5 HT4 hb4 hb5 x1 hmid hwv hl4 hlp HLP;go_wp2_with fail
    go_loopw [40] (fun jv wr=>∃j:Nat,jv= .int .i64 (j:Int)∧j≤vs.length∧Hid (Wt w wr G (mid++(vs.take j).flatMap z3J))) (fun jv _=>vs.length-(intOf jv).toNat)
    case atStart=>exact⟨0,rfl,by omega,R1⟩
    case round=>
     clear R1 y1 c0 c1;obtain⟨j,rfl,hj,RJ⟩:=hrel;have hbj:=RJ.out.b;by_cases hjl:j<vs.length
     ·obtain⟨b2,o2,rfl,hb2,hc2⟩:=HV.out (by omega);have d0:wr.cell? ⟨b2,o2+j*3,none⟩=some (.int .u64 (vs[j].t:Int)):=(hbj.cell (p:=⟨b2,o2+j*3,none⟩) hb2.2).trans (hc2 j hjl).1;have d1:wr.cell? ⟨b2,o2+j*3+1,none⟩=some (.string (st vs[j].v)):=(hbj.cell (p:=⟨b2,o2+j*3+1,none⟩) hb2.2).trans (hc2 j hjl).2.1;have d2:wr.cell? ⟨b2,o2+j*3+2,none⟩=some (.bool vs[j].gone):=(hbj.cell (p:=⟨b2,o2+j*3+2,none⟩) hb2.2).trans (hc2 j hjl).2.2;have hxo:=(z2k.1 (HK6.out _ (List.getElem_mem hjl))).2.1;have hxt:=HTS.out _ (List.getElem_mem hjl);have HSV:Hid ((vs.take (j+1)).flatMap z3J=(vs.take j).flatMap z3J++z3J vs[j]):=by
       rw [Hid,List.take_succ_eq_append_getElem hjl,List.flatMap_append];simp
      have hlj:=HBV.out j;obtain⟨x,hx0⟩:∃x,vs[j]=x:=⟨_,rfl⟩;rw [hx0]at d0 d1 d2 hxo hxt HSV;clear hx0 hc2;obtain⟨t,v,gn⟩:=x;simp only at d0 d1 d2 hxo hxt;obtain⟨pr,hpr⟩:∃pr,mid++(vs.take j).flatMap z3J=pr:=⟨_,rfl⟩;have hlq:pr.length≤3300000:=by rw [←hpr,List.length_append];omega
      have HPR:=zz hpr;rw [hpr]at RJ;have q6:Below wr.heap.size wr (wr.alloc (.cells #[.int .u64 (t:Int),.string (st v),.bool gn] 73)):=(Below.refl _ _).alloc (Nat.le_refl _) _;have hbz:=Blk.new wr 73 #[.int .u64 (t:Int),.string (st v),.bool gn];have HT6:=zz (RJ.out.later q6);have hgz:=RJ.out.g1;clear hpr hbj RJ q6 hlj;have HWS6:Hid ((wr.alloc (.cells #[.int .u64 (t:Int),.string (st v),.bool gn] 73)).heap.size=wr.heap.size+1):=by rw [Hid];simp
      go_wp2_with fail
      generalize hW6:wr.alloc (.cells #[.int .u64 (t:Int),.string (st v),.bool gn] 73)=W6 at*;clear hW6;refine(zFy HT6.out t hxt (by omega) HWS6.out.symm).mono ?_;rintro e w7 ⟨rfl,hw7,ht7⟩;have hb7:=hbz.turn ht7 (by omega);have z2:w7.cell? ⟨wr.heap.size,2,none⟩=some (.bool gn):=hb7.cell 2;have HT7:=zz hw7;have hvt:(z0A t).length≤10:=z06 hxt;have hl7:(pr++z0A t).length≤3300010:=by rw [List.length_append];omega
      clear hw7 ht7 HT6 hbz d0 d1 d2;go_wp2_with fail
      refine(zIf HT7.out gn (by omega)).mono ?_;rintro e w8 ⟨rfl,hw8,ht8⟩;have hb8:=hb7.turn ht8 (by omega);have z2':w8.cell? ⟨wr.heap.size,2,none⟩=some (.bool gn):=hb8.cell 2;have z1':w8.cell? ⟨wr.heap.size,1,none⟩=some (.string (st v)):=hb8.cell 1;have HT8:=zz hw8;have hfl:(z1N gn).length=1:=by cases gn<;>rfl
      have hl8:(pr++z0A t++z1N gn).length≤3300020:=by rw [List.length_append];omega
      clear hw8 ht8 HT7 hb7 hb8 z2;cases gn with
      |true=>
       have RF:Hid (Wt w w8 G (mid++(vs.take (j+1)).flatMap z3J)):=by
        rw [Hid,HSV.out,←List.append_assoc,HPR.out];have e:z3J ⟨t,v,true⟩=z0A t++z1N true:=by unfold z3J;simp
        rw [e,←List.append_assoc];exact HT8.out
       clear HT8 HSV HPR hl7 hl8 hlq;go_wp2_with fail
       go_roundw
       case rel=>exact⟨j+1,by go_num,by omega,RF⟩
       case measure=>simp [intOf];omega
      |false=>
       go_wp2_with fail
       refine(zEL HT8.out v (by omega) (by omega) rfl).mono ?_;rintro e w9 ⟨rfl,hw9,ht9⟩;have RF:Hid (Wt w w9 G (mid++(vs.take (j+1)).flatMap z3J)):=by
        rw [Hid,HSV.out,←List.append_assoc,HPR.out];have e:z3J ⟨t,v,false⟩=z0A t++(z1N false++z0Q v):=by unfold z3J;simp
        rw [e,←List.append_assoc,←List.append_assoc];exact hw9
       clear HT8 HSV HPR hl7 hl8 hlq hw9 ht9 z1' z2';go_wp2_with fail
       go_roundw
       case rel=>exact⟨j+1,by go_num,by omega,RF⟩
       case measure=>simp [intOf];omega
     ·obtain rfl:j=vs.length:=by omega
      have RF:Hid (Wt w wr G (z0A p.length++z92 (p.take (i+1)))):=by
       have h:=RJ.out;rw [List.take_length,←HMID.out,←HPRE.out]at h;rw [Hid,HS.out];unfold rwB;simp only [List.append_assoc]at h ⊢;exact h
      clear RJ hbj HV HS HMID HPRE HBV HK6 HTS;go_wp2_with fail
      go_roundw
      case rel=>exact⟨i+1,by go_num,by omega,RF⟩
      case measure=>simp [intOf];omega
   ·obtain rfl:i=p.length:=by omega
    have h:=RR.out;rw [List.take_length]at h;have HW:Hid (Wt w wr G (z47 (p.map (·.1)))):=by
     rw [Hid];unfold z47;rw [z4r,List.length_map];exact h
    have hlen2:(z47 (p.map (·.1))).length≤4000000:=by
     unfold z47;rw [z4r,List.length_map,List.length_append];have:=z4l HIN.out p.length;rw [List.take_length]at this;omega
    clear h RR;go_wp2_with fail
    refine(z2h G G _ wr HW.out.wt (by omega)).mono ?_;rintro e w5 ⟨A5,k5,c5,rfl,hown5,hbl5⟩;have hz:=hbl.size;have HB5:=zz (hbl.trans (hbl5.mono hz));have HO5:=zz (Ob.lower hown5 hz);clear hown5 hbl5 hbl HW;go_wp2_with fail
    go_ret2
    exact⟨HB5.out,fun h=>(by cases h),fun _=>⟨A5,k5,c5,rfl,HO5.out⟩⟩
end
end Go.Proofs.YtdkobefpnjbgnaaGreatDoor
