/- Part 43. -/
import Derived.Test.YthbhkdhljlganaaGreatDoorStoreWholeJ40
namespace Go.Proofs.YthbhkdhljlganaaGreatDoor
set_option linter.unusedVariables false
set_option maxHeartbeats 16000000
set_option maxRecDepth 100000
section
open Go Go.RowKit
theorem zE2(S:Nat→Prop)(v0:Value)(cs:List Cel)(k v:List UInt8)(w:World)(hl:cs.length≤100000)(hr:Cs S w v0 cs)(has:Asc cs)(hk2:k.length≤240)(hkv:k.length+v.length≤480):
 Calls Tryz.prog 65 #[v0,.agg #[.string (st k),.string (st v)]] w fun e w'=>∃A c,e= .returned (.tuple #[.slice A (putC cs (k,v)).length c,.int .i64 0])∧Co w' (w.heap.size+1) (.slice A (putC cs (k,v)).length c) (putC cs (k,v))∧Below w.heap.size w w':=by
 have hlt:=hr.lt;obtain⟨A,c,rfl,hlc,hcm,hA0,hA⟩:=hlt.at;have HA:=zz hA;have HAS:=zz has;clear hr hlt has hA;have hb1:Blk ((w.alloc (.cells #[.string (st k),.string (st v)] 81)).alloc (.cells #[] 81)) w.heap.size 81 #[.string (st k),.string (st v)]:=(Blk.new w _ _).later ((Below.refl _ _).alloc (Nat.le_refl _) _);have hma:Co ((w.alloc (.cells #[.string (st k),.string (st v)] 81)).alloc (.cells #[] 81)) (w.heap.size+1) (.slice (some ⟨w.heap.size+1,0,none⟩) 0 0) []:=by
  have:=World.ownsRow_made (base:=w.heap.size+1) (e:=81) (size:=2) (w.alloc (.cells #[.string (st k),.string (st v)] 81)) #[] 0 (by simp) (by simp [maxLen]) (by simp);simp only [World.size_alloc]at this;exact this
 have hq:Below w.heap.size w ((w.alloc (.cells #[.string (st k),.string (st v)] 81)).alloc (.cells #[] 81)):=((Below.refl _ _).alloc (Nat.le_refl _) _).alloc (by simp) _;have hsW:((w.alloc (.cells #[.string (st k),.string (st v)] 81)).alloc (.cells #[] 81)).heap.size=w.heap.size+1+1:=by simp
 go_enter Tryz.func65,Tryz.ntmps65
 go_wp2_with fail
 generalize hW:((w.alloc (.cells #[.string (st k),.string (st v)] 81)).alloc (.cells #[] 81))=W at*;clear hW;have hsz:w.heap.size+2≤W.heap.size:=by omega
 clear hsW;have HB1:=zz hb1;have HQ:=zz hq;have HMA:=zz hma;clear hb1 hq hma;have HK:Hid (z03 cs k≤cs.length):=z1W cs k;go_loopw [6,7,8] (fun ov dv iv wr=>∃i:Nat,iv= .int .i64 (i:Int)∧i≤cs.length∧dv= .bool (decide (z03 cs k<i))∧Hid (Co wr (w.heap.size+1) ov (z2u cs (k,v) i))∧Hid (Below (w.heap.size+1) W wr)) (fun _ _ iv _=>cs.length-(intOf iv).toNat)
 case atStart=>exact⟨0,rfl,by omega,by simp,HMA.out,Below.refl _ _⟩
 case round=>
  obtain⟨i,rfl,hi,rfl,HC,HB⟩:=hrel;clear HMA;have b1:=HB1.out.below HB.out (by omega);have hqr:=HQ.out.trans (HB.out.mono (by omega));have hsr:=HB.out.size;have q0:(wr).cell? ⟨w.heap.size,0,none⟩=some (.string (st k)):=b1.cell 0;have q1:(wr).cell? ⟨w.heap.size,1,none⟩=some (.string (st v)):=b1.cell 1;have hol:=zHb (cs:=cs) (c:=(k,v)) hi;obtain⟨Ao,co,hov,-⟩:=HC.out.cs.at;subst hov;by_cases hil:i<cs.length
  ·obtain⟨b,o,rfl,hbs,hc⟩:=HA.out (by omega);have c0:wr.cell? ⟨b,o+i*2,none⟩=some (.string (st cs[i].1)):=(hqr.cell (p:=⟨b,o+i*2,none⟩) hbs).trans (hc i hil).1;have c1:wr.cell? ⟨b,o+i*2+1,none⟩=some (.string (st cs[i].2)):=(hqr.cell (p:=⟨b,o+i*2+1,none⟩) hbs).trans (hc i hil).2;have hi0:(0:Int)≤(i:Int):=by omega
   have hi1:(i:Int)<(cs.length:Int):=by omega
   have HM1:Hid ((z2u cs (k,v) i).length+1≤maxLen):=by rw [Hid];unfold maxLen;omega
   have HM2:Hid (((z2u cs (k,v) i).length+1)*32≤140737488355328):=by rw [Hid];omega
   have HM3:Hid ((z2u cs (k,v) i++ [(k,v)]).length+1≤maxLen):=by rw [Hid,List.length_append];unfold maxLen;simp;omega
   have HM4:Hid (((z2u cs (k,v) i++ [(k,v)]).length+1)*32≤140737488355328):=by rw [Hid,List.length_append];simp;omega
   have HCm:Hid (∀m (y:Cel),Co ((wr.drewN m).alloc (.cells #[.string (st y.1),.string (st y.2)] 81)) (w.heap.size+1) (.slice Ao (z2u cs (k,v) i).length co) (z2u cs (k,v) i)):=fun m y=>HC.out.later ((below_drewN (Below.refl _ _) m).alloc (Nat.le_refl _) _)
   have HBm:Hid (∀m,Below (w.heap.size+1) W (wr.drewN m)):=fun m=>below_drewN HB.out m
   have HXm:Hid (∀ (w:World) (y:Cel),Sl (fun b=>b=w.heap.size) (w.alloc (.cells #[.string (st y.1),.string (st y.2)] 81)) 2 (.slice (some ⟨w.heap.size,0,none⟩) 1 1) 1 (ccs [y])):=fun w y=>Sl.celBlk (Blk.new _ _ _)
   rcases Nat.lt_trichotomy i (z03 cs k)with h|h|h
   ·have hless:=at_lo h hil;have hne:=lo_ne h hil;have d1:decide (z03 cs k<i)=false:=decide_eq_false (by omega);have HD2:=zz (decide_eq_false (p:=z03 cs k<i+1) (by omega));have HOX:=zz (zIT (c:=(k,v)) h hil);rw [d1];clear d1 h hc HK;generalize hx:cs[i]=x at*;obtain⟨xk,xv⟩:=x;simp only at c0 c1 hless hne;have hne2:(xk==k)=false:=by rw [beq_eq_false_iff_ne];exact hne
    have hne3:decide (xk=k)=false:=decide_eq_false hne;clear hx;go_wp2_with fail
    go_quiet (fail)
    go_wp2_with fail
    go_quiet (fail)
    go_wp2_with (at_builtin;refine z02 _ rfl (.tmp 55) (.tmp 60) elemCel rfl (HCm.out _ (xk,xv)) (HXm.out _ (xk,xv)) rfl rfl (z39 (xk,xv)) HM1.out HM2.out (by simp;omega) ?_;intro A5 k5 c5 w5 hown5 hg5 hat5)
    obtain rfl:=z0Q hown5;have HC5:Hid (Co w5 (w.heap.size+1) (.slice A5 ((z2u cs (k,v) i).length+1) c5) (z2u cs (k,v) (i+1))):=by rw [Hid,HOX.out];unfold Co;rw [List.length_append,List.length_singleton,z0f];exact hown5
    have HB5:=zz (z01 ((HBm.out _).alloc (by simp;omega) _) (HCm.out _ (xk,xv)) hg5 (by simp;omega));clear hown5 hg5 hat5;go_wp2_with fail
    go_roundw
    case rel=>exact⟨i+1,by go_num,by omega,by rw [HD2.out],HC5,HB5⟩
    case measure=>simp [intOf];omega
   ·subst h;have hless:=at_hi (k:=k) HAS.out (Nat.le_refl _) hil;have his:=at_is hil;have d1:decide (z03 cs k<z03 cs k)=false:=decide_eq_false (by omega);have HD2:=zz (decide_eq_true (p:=z03 cs k<z03 cs k+1) (by omega));have HOX:=zz (zJ0 (c:=(k,v)) hil);have hcc:=hc _ hil;rw [d1];clear d1 hc HK;simp only at HOX;rw [his]at HOX;clear his;generalize cs[z03 cs k]=x at*;obtain⟨xk,xv⟩:=x;simp only at c0 c1 hless HOX hcc;cases hxk:(xk==k)with
    |true=>
     rw [hxk,if_pos rfl]at HOX;obtain rfl:=(eq_of_beq hxk).symm;clear hxk;go_wp2_with fail
     go_quiet (fail)
     go_wp2_with (at_builtin;refine z02 _ rfl (.tmp 43) (.tmp 45) elemCel rfl (HCm.out _ (k,v)) (HXm.out _ (k,v)) rfl rfl (z39 (k,v)) HM1.out HM2.out (by simp;omega) ?_;intro A5 k5 c5 w5 hown5 hg5 hat5)
     obtain rfl:=z0Q hown5;have HC5:Hid (Co w5 (w.heap.size+1) (.slice A5 ((z2u cs (k,v) (z03 cs k)).length+1) c5) (z2u cs (k,v) (z03 cs k)++ [(k,v)])):=by rw [Hid];unfold Co;rw [List.length_append,List.length_singleton,z0f];exact hown5
     have HB5:=zz (z01 ((HBm.out _).alloc (by simp;omega) _) (HCm.out _ (k,v)) hg5 (by simp;omega));have hs5:=HB5.out.size;clear hown5 hg5 hat5 q0 q1 b1;have b1:=HB1.out.below HB5.out (by omega);have hq5:=HQ.out.trans (HB5.out.mono (by omega));have q0:(w5).cell? ⟨w.heap.size,0,none⟩=some (.string (st k)):=b1.cell 0;have q1:(w5).cell? ⟨w.heap.size,1,none⟩=some (.string (st v)):=b1.cell 1;have c0:=(hq5.cell (p:=⟨b,o+z03 cs k*2,none⟩) hbs).trans hcc.1;have c1:=(hq5.cell (p:=⟨b,o+z03 cs k*2+1,none⟩) hbs).trans hcc.2;go_wp2_with fail
     go_quiet (fail)
     go_wp2_with fail
     go_roundw
     case rel=>exact⟨z03 cs k+1,by go_num,by omega,by rw [HD2.out],by rw [Hid,HOX.out];exact(HC5.out.later (below_drewN (Below.refl _ _) _)),below_drewN HB5.out _⟩
     case measure=>simp [intOf];omega
    |false=>
     rw [hxk,if_neg (by simp)]at HOX;have hne:¬xk=k:=by rw [beq_eq_false_iff_ne]at hxk;exact hxk
     have hne3:decide (xk=k)=false:=decide_eq_false hne;go_wp2_with fail
     go_quiet (fail)
     go_wp2_with (at_builtin;refine z02 _ rfl (.tmp 43) (.tmp 45) elemCel rfl (HCm.out _ (k,v)) (HXm.out _ (k,v)) rfl rfl (z39 (k,v)) HM1.out HM2.out (by simp;omega) ?_;intro A5 k5 c5 w5 hown5 hg5 hat5)
     obtain rfl:=z0Q hown5;have HC5:Hid (Co w5 (w.heap.size+1) (.slice A5 ((z2u cs (k,v) (z03 cs k)).length+1) c5) (z2u cs (k,v) (z03 cs k)++ [(k,v)])):=by rw [Hid];unfold Co;rw [List.length_append,List.length_singleton,z0f];exact hown5
     have HB5:=zz (z01 ((HBm.out _).alloc (by simp;omega) _) (HCm.out _ (k,v)) hg5 (by simp;omega));have hs5:=HB5.out.size;clear hown5 hg5 hat5 q0 q1 b1;have b1:=HB1.out.below HB5.out (by omega);have hq5:=HQ.out.trans (HB5.out.mono (by omega));have q0:(w5).cell? ⟨w.heap.size,0,none⟩=some (.string (st k)):=b1.cell 0;have q1:(w5).cell? ⟨w.heap.size,1,none⟩=some (.string (st v)):=b1.cell 1;have c0:=(hq5.cell (p:=⟨b,o+z03 cs k*2,none⟩) hbs).trans hcc.1;have c1:=(hq5.cell (p:=⟨b,o+z03 cs k*2+1,none⟩) hbs).trans hcc.2;have HL:Hid ((z2u cs (k,v) (z03 cs k)++ [(k,v)]).length=(z2u cs (k,v) (z03 cs k)).length+1):=by rw [Hid,List.length_append];rfl
     have HCn:Hid (∀m (y:Cel),((w5.drewN m).alloc (.cells #[.string (st y.1),.string (st y.2)] 81)).ownsRow (w.heap.size+1) 81 2 (.slice A5 ((z2u cs (k,v) (z03 cs k)).length+1) c5) ((z2u cs (k,v) (z03 cs k)).length+1) (ccs (z2u cs (k,v) (z03 cs k)++ [(k,v)]))):=fun m y=>by
      have:=HC5.out.later ((below_drewN (Below.refl _ _) m).alloc (Nat.le_refl _) (.cells #[.string (st y.1),.string (st y.2)] 81));unfold Co at this
      rwa [HL.out]at this
     have HBn:Hid (∀m,Below (w.heap.size+1) W (w5.drewN m)):=fun m=>below_drewN HB5.out m
     rw [HL.out]at HM3 HM4;go_wp2_with fail
     go_quiet (fail)
     go_wp2_with (at_builtin;refine z02 _ rfl (.tmp 55) (.tmp 60) elemCel rfl (HCn.out _ (xk,xv)) (HXm.out _ (xk,xv)) rfl rfl (z39 (xk,xv)) HM3.out HM4.out (by simp;omega) ?_;intro A6 k6 c6 w6 hown6 hg6 hat6)
     obtain rfl:=z0Q hown6;have HC6:Hid (Co w6 (w.heap.size+1) (.slice A6 ((z2u cs (k,v) (z03 cs k)).length+1+1) c6) (z2u cs (k,v) (z03 cs k+1))):=by rw [Hid,HOX.out];unfold Co;rw [List.length_append,HL.out,List.length_singleton,z0f];exact hown6
     have HB6:=zz (z01 ((HBn.out _).alloc (by simp;omega) _) (HCn.out _ (xk,xv)) hg6 (by simp;omega));clear hown6 hg6 hat6;go_wp2_with fail
     go_roundw
     case rel=>exact⟨z03 cs k+1,by go_num,by omega,by rw [HD2.out],HC6,HB6⟩
     case measure=>simp [intOf];omega
   ·have hne:=at_ne HAS.out h hil;have d1:decide (z03 cs k<i)=true:=decide_eq_true h;have HD2:=zz (decide_eq_true (p:=z03 cs k<i+1) (by omega));have HOX:=zz (zIR (c:=(k,v)) h hil);rw [d1];clear d1 h hc HK;generalize hx:cs[i]=x at*;obtain⟨xk,xv⟩:=x;simp only at c0 c1 hne;have hne2:(xk==k)=false:=by rw [beq_eq_false_iff_ne];exact hne
    have hne3:decide (xk=k)=false:=decide_eq_false hne;clear hx;go_wp2_with fail
    go_quiet (fail)
    go_wp2_with fail
    go_quiet (fail)
    go_wp2_with (at_builtin;refine z02 _ rfl (.tmp 55) (.tmp 60) elemCel rfl (HCm.out _ (xk,xv)) (HXm.out _ (xk,xv)) rfl rfl (z39 (xk,xv)) HM1.out HM2.out (by simp;omega) ?_;intro A5 k5 c5 w5 hown5 hg5 hat5)
    obtain rfl:=z0Q hown5;have HC5:Hid (Co w5 (w.heap.size+1) (.slice A5 ((z2u cs (k,v) i).length+1) c5) (z2u cs (k,v) (i+1))):=by rw [Hid,HOX.out];unfold Co;rw [List.length_append,List.length_singleton,z0f];exact hown5
    have HB5:=zz (z01 ((HBm.out _).alloc (by simp;omega) _) (HCm.out _ (xk,xv)) hg5 (by simp;omega));clear hown5 hg5 hat5;go_wp2_with fail
    go_roundw
    case rel=>exact⟨i+1,by go_num,by omega,by rw [HD2.out],HC5,HB5⟩
    case measure=>simp [intOf];omega
  ·obtain rfl:i=cs.length:=by omega
   have HE:Hid ((if z03 cs k<cs.length then z2u cs (k,v) cs.length else z2u cs (k,v) cs.length++ [(k,v)])=putC cs (k,v)):=zGr (c:=(k,v));have HM1:Hid ((z2u cs (k,v) cs.length).length+1≤maxLen):=by rw [Hid];unfold maxLen;omega
   have HM2:Hid (((z2u cs (k,v) cs.length).length+1)*32≤140737488355328):=by rw [Hid];omega
   go_upto_if 63 with(fail)
   go_cut [6,7] (fun ov _ wx=>Hid (Co wx (w.heap.size+1) ov (putC cs (k,v)))∧Hid (Below (w.heap.size+1) W wx))
   case first=>
    by_cases hK:z03 cs k<cs.length
    ·have HF:Hid (Co wr (w.heap.size+1) (.slice Ao (z2u cs (k,v) cs.length).length co) (putC cs (k,v))):=by
      have:=HE.out;rw [if_pos hK]at this;rw [Hid,←this];exact HC.out
     rw [decide_eq_true hK];clear hK;go_wp2_with fail
     go_meet
     exact⟨HF,HB⟩
    ·have HCm:Hid (Co (wr.alloc (.cells #[.string (st k),.string (st v)] 81)) (w.heap.size+1) (.slice Ao (z2u cs (k,v) cs.length).length co) (z2u cs (k,v) cs.length)):=HC.out.later ((Below.refl _ _).alloc (Nat.le_refl _) _);have HXm:Hid (Sl (fun b=>b=wr.heap.size) (wr.alloc (.cells #[.string (st k),.string (st v)] 81)) 2 (.slice (some ⟨wr.heap.size,0,none⟩) 1 1) 1 (ccs [(k,v)])):=Sl.celBlk (Blk.new _ _ _);have HEE:Hid (putC cs (k,v)=z2u cs (k,v) cs.length++ [(k,v)]):=by
      have:=HE.out;rw [if_neg hK]at this;exact this.symm
     rw [decide_eq_false hK];clear hK;go_wp2_with (at_builtin;refine z02 _ rfl (.tmp 64) (.tmp 66) elemCel rfl HCm.out HXm.out rfl rfl (z39 (k,v)) HM1.out HM2.out (by simp;omega) ?_;intro A5 k5 c5 w5 hown5 hg5 hat5)
     obtain rfl:=z0Q hown5;have HC5:Hid (Co w5 (w.heap.size+1) (.slice A5 ((z2u cs (k,v) cs.length).length+1) c5) (putC cs (k,v))):=by rw [Hid,HEE.out];unfold Co;rw [List.length_append,List.length_singleton,z0f];exact hown5
     have HB5:=zz (z01 (HB.out.alloc (by omega) _) HCm.out hg5 (by simp;omega));clear hown5 hg5 hat5;go_wp2_with fail
     go_meet
     exact⟨HC5,HB5⟩
   case rest=>
    obtain⟨HC,HB⟩:=hcut;generalize wc=w5 at*;have hcs:=HC.out.cs;obtain⟨A5,c5,hv5,-⟩:=hcs.at;subst hv5;have HQ5:=zz (HQ.out.trans (HB.out.mono (by omega)));have HC9:=HC;clear hcs HC HB q0 q1 b1;go_wp2_with fail
    go_ret2
    exact⟨A5,c5,rfl,HC9.out,HQ5.out⟩
theorem zDo{cs:List Cel}(ha:Asc cs)(k:List UInt8):(cs.filter fun x=>decide (x.1≠k))=delC cs k:=by
 have h1:∀x∈cs.take (z03 cs k),x.1≠k:=fun x hx=>by
  obtain⟨i,hi,rfl⟩:=List.mem_iff_getElem.1 hx;rw [List.length_take]at hi;rw [List.getElem_take];exact lo_ne (by omega) (by omega)
 have h2:∀x∈cs.drop (z03 cs k+z2O cs k),x.1≠k:=fun x hx=>by
  obtain⟨i,hi,rfl⟩:=List.mem_iff_getElem.1 hx;rw [List.length_drop]at hi;rw [List.getElem_drop];by_cases h:z03 cs k<z03 cs k+z2O cs k+i
  ·exact at_ne ha h (by omega)
  ·have h0:z2O cs k=0:=by omega
   have hi0:i=0:=by omega
   have hk:isK cs k=false:=by
    cases hk:isK cs k with
    |false=>rfl
    |true=>
     unfold z2O at h0;rw [hk]at h0;cases h0
   refine zCo hk ?_;rw [List.getElem?_eq_getElem (by omega)]
   congr 2
   omega
 have h3:((cs.drop (z03 cs k)).take (z2O cs k)).filter (fun x=>decide (x.1≠k))= []:=by
  rw [List.filter_eq_nil_iff];intro x hx;cases hk:isK cs k with
  |false=>
   have:z2O cs k=0:=by unfold z2O;rw [hk];rfl
   rw [this]at hx;cases hx
  |true=>
   obtain⟨v,hv⟩:=zG2 hk;have:z2O cs k=1:=by unfold z2O;rw [hk];rfl
   rw [this,hv]at hx;simp only [List.take_succ_cons,List.take_zero,List.mem_singleton]at hx;subst hx;simp
 have e:cs=cs.take (z03 cs k)++((cs.drop (z03 cs k)).take (z2O cs k)++cs.drop (z03 cs k+z2O cs k)):=by
  rw [←List.drop_drop,List.take_append_drop,List.take_append_drop]
 conv=>lhs;rw [e]
 rw [List.filter_append,List.filter_append,h3,List.nil_append,List.filter_eq_self.2 fun x hx=>decide_eq_true (h1 x hx),List.filter_eq_self.2 fun x hx=>decide_eq_true (h2 x hx)];rfl
def z9J(cs:List Cel)(k:List UInt8)(i:Nat):List Cel:=(cs.take i).filter fun x=>decide (x.1≠k)
theorem zGK{cs:List Cel}{k:List UInt8}{i:Nat}(hi:i<cs.length):z9J cs k (i+1)=if cs[i].1=k then z9J cs k i else z9J cs k i++ [cs[i]]:=by
 unfold z9J;rw [List.take_succ_eq_append_getElem hi,List.filter_append];by_cases h:cs[i].1=k
 ·rw [if_pos h];simp [h]
 ·rw [if_neg h];simp [h]
theorem zHX(cs:List Cel)(k:List UInt8)(i:Nat):(z9J cs k i).length≤cs.length:=by
 unfold z9J;exact Nat.le_trans (List.length_filter_le _ _) (by rw [List.length_take];omega)
theorem zDB(S:Nat→Prop)(v0:Value)(cs:List Cel)(k:List UInt8)(w:World)(hl:cs.length≤100000)(hr:Cs S w v0 cs)(has:Asc cs):
 Calls Tryz.prog 64 #[v0,.string (st k)] w fun e w'=>∃v E,e= .returned (.tuple #[v,.int .i64 E])∧Cs (fun b=>b<w'.heap.size) w' v (delC cs k)∧Below w.heap.size w w':=by
 have hlt:=hr.lt;obtain⟨A,c,rfl,hlc,hcm,hA0,hA⟩:=hlt.at;have HCS:=zz hlt;have HA:=zz hA;have HAS:=zz has;clear hr hlt has hA;have hma:Co (w.alloc (.cells #[] 81)) w.heap.size (.slice (some ⟨w.heap.size,0,none⟩) 0 0) []:=by
  have:=World.ownsRow_made (base:=w.heap.size) (e:=81) (size:=2) w #[] 0 (by simp) (by simp [maxLen]) (by simp);exact this
 have HQ:=zz ((Below.refl w.heap.size w).alloc (Nat.le_refl _) (.cells #[] 81));have HMA:=zz hma;clear hma;go_enter Tryz.func64,Tryz.ntmps64
 go_wp2_with fail
 generalize hW:w.alloc (.cells #[] 81)=W at*;clear hW;go_loopw [6,7] (fun ov iv wr=>∃i:Nat,iv= .int .i64 (i:Int)∧i≤cs.length∧Hid (Co wr w.heap.size ov (z9J cs k i))∧Hid (Below w.heap.size w wr)) (fun _ iv _=>cs.length-(intOf iv).toNat)
 case atStart=>exact⟨0,rfl,by omega,by exact HMA.out,HQ.out⟩
 case round=>
  obtain⟨i,rfl,hi,HC,HB⟩:=hrel;clear HMA HQ;have hol:=zHX cs k i;obtain⟨Ao,co,hov,-⟩:=HC.out.cs.at;subst hov;by_cases hil:i<cs.length
  ·obtain⟨b,o,rfl,hbs,hc⟩:=HA.out (by omega);have c0:wr.cell? ⟨b,o+i*2,none⟩=some (.string (st cs[i].1)):=(HB.out.cell (p:=⟨b,o+i*2,none⟩) hbs).trans (hc i hil).1;have c1:wr.cell? ⟨b,o+i*2+1,none⟩=some (.string (st cs[i].2)):=(HB.out.cell (p:=⟨b,o+i*2+1,none⟩) hbs).trans (hc i hil).2;have hi0:(0:Int)≤(i:Int):=by omega
   have hi1:(i:Int)<(cs.length:Int):=by omega
   have HOX:=zz (zGK (k:=k) hil);clear hc;generalize cs[i]=x at*;obtain⟨xk,xv⟩:=x;simp only at c0 c1 HOX;by_cases hxk:xk=k
   ·subst hxk;have HF:Hid (z9J cs xk (i+1)=z9J cs xk i):=by
     have:=HOX.out;rw [if_pos rfl]at this;exact this
    clear HOX;go_wp2_with fail
    go_roundw
    case rel=>exact⟨i+1,by go_num,by omega,by rw [HF.out];exact HC,HB⟩
    case measure=>simp [intOf];omega
   ·have HF:Hid (z9J cs k (i+1)=z9J cs k i++ [(xk,xv)]):=by
     have:=HOX.out;rw [if_neg hxk]at this;exact this
    have hne2:(xk==k)=false:=by rw [beq_eq_false_iff_ne];exact hxk
    have hne3:decide (xk=k)=false:=decide_eq_false hxk;have HM1:Hid ((z9J cs k i).length+1≤maxLen):=by rw [Hid];unfold maxLen;omega
    have HM2:Hid (((z9J cs k i).length+1)*32≤140737488355328):=by rw [Hid];omega
    have HCm:Hid (Co (wr.alloc (.cells #[.string (st xk),.string (st xv)] 81)) w.heap.size (.slice Ao (z9J cs k i).length co) (z9J cs k i)):=HC.out.later ((Below.refl _ _).alloc (Nat.le_refl _) _);have HXm:Hid (Sl (fun b=>b=wr.heap.size) (wr.alloc (.cells #[.string (st xk),.string (st xv)] 81)) 2 (.slice (some ⟨wr.heap.size,0,none⟩) 1 1) 1 (ccs [(xk,xv)])):=Sl.celBlk (Blk.new _ _ _);have hwz:=HB.out.size;clear HOX hxk;go_wp2_with (at_builtin;refine z02 _ rfl (.tmp 22) (.tmp 27) elemCel rfl HCm.out HXm.out rfl rfl (z39 (xk,xv)) HM1.out HM2.out (by simp;omega) ?_;intro A5 k5 c5 w5 hown5 hg5 hat5)
    obtain rfl:=z0Q hown5;have HC5:Hid (Co w5 w.heap.size (.slice A5 ((z9J cs k i).length+1) c5) (z9J cs k (i+1))):=by rw [Hid,HF.out];unfold Co;rw [List.length_append,List.length_singleton,z0f];exact hown5
    have HB5:=zz (z01 (HB.out.alloc hwz _) HCm.out hg5 (by simp;omega));clear hown5 hg5 hat5;go_wp2_with fail
    go_roundw
    case rel=>exact⟨i+1,by go_num,by omega,HC5,HB5⟩
    case measure=>simp [intOf];omega
  ·obtain rfl:i=cs.length:=by omega
   have hE:z9J cs k cs.length=delC cs k:=by
    unfold z9J;rw [List.take_length];exact zDo HAS.out k
   rw [hE]at HC hol ⊢;have hdl:=z6F cs k;have HE:=zz hE;clear hE;by_cases hk:isK cs k=true
   ·have h1:z2O cs k=1:=by unfold z2O;rw [hk];rfl
    have hne:(((delC cs k).length:Int)==(cs.length:Int))=false:=beq_eq_false_iff_ne.2 (by omega);have HC9:Hid (Cs (fun b=>b<wr.heap.size) wr (.slice Ao (delC cs k).length co) (delC cs k)):=HC.out.cs.lt;clear HC hdl h1 hk;go_wp2_with fail
    go_ret2
    exact⟨_,_,rfl,HC9.out,HB.out⟩
   ·have hk:isK cs k=false:=by simpa using hk
    have hd:=zGG hk;have HC9:Hid (Cs (fun b=>b<wr.heap.size) wr (.slice A cs.length c) (delC cs k)):=by
     rw [hd];exact HCS.out.up HB.out
    have he:(((delC cs k).length:Int)==(cs.length:Int))=true:=by rw [hd];simp
    clear HC hdl hk hd HCS;go_wp2_with fail
    go_ret2
    exact⟨_,_,rfl,HC9.out,HB.out⟩
theorem zAA{L:List Cel}{x:Chg}(h:x.gone=true):chgC L x=delC L x.k:=by
 unfold chgC;rw [if_pos h]
 split
 ·rfl
 ·rename_i hk;rw [zGG (by simpa using hk)]
theorem zCx{L:List Cel}{x:Chg}(h:x.gone=false):chgC L x=putC L (x.k,x.v):=by
 unfold chgC;rw [h];rfl
theorem Asc.chgC{L:List Cel}(ha:Asc L)(x:Chg):Asc (chgC L x):=by
 cases h:x.gone with
 |true=>rw [zAA h];exact ha.delC _
 |false=>rw [zCx h];exact ha.putC _
theorem zDM(L:List Cel)(l:List Chg)(x:Chg):chgsC L (l++ [x])=chgC (chgsC L l) x:=by
 unfold chgsC;rw [List.foldl_append];rfl
theorem Asc.chgsC{L:List Cel}(ha:Asc L):∀ (l:List Chg),Asc (chgsC L l):=by
 intro l
 induction l generalizing L with
 |nil=>exact ha
 |cons x r ih=>exact ih (ha.chgC x)
theorem zFi(l:List Chg):∀ (L:List Cel),(chgsC L l).length≤L.length+l.length:=by
 induction l with
 |nil=>intro L;exact Nat.le_refl _
 |cons x r ih=>
  intro L;have h1:=ih (chgC L x);have h2:=z9U L x;show(Go.Proofs.YthbhkdhljlganaaGreatDoor.chgsC (chgC L x) r).length≤_;simp only [List.length_cons]
  split at h2<;>omega
theorem z17{w w':World}(h:Turn (trE []) w w'):Below w.heap.size w w':=Turn.below (Below.refl _ _) h (Nat.le_refl _) (fun b h=>by obtain⟨p,hp,_⟩:=h;cases hp)
def tupV(v:Value)(i:Nat):Value:=match v with| .tuple vs=>vs.getD i undef|_=>undef
def zCD(cs:List Cel):VP:=fun v w=>∃A c,v= .tuple #[.slice A cs.length c,.int .i64 0]∧Cs (fun b=>b<w.heap.size) w (.slice A cs.length c) cs
theorem Stays.put14(cs:List Cel):Stays (zCD cs):=fun _ _ _ hb ⟨A,c,he,h⟩=>⟨A,c,he,h.up hb⟩
theorem zAz(S S':Nat→Prop)(v0 v1:Value)(L:List Cel)(l:List Chg)(w:World)(hr:Cs S w v0 L)(hc:Ch S' w v1 l)(ha:Asc L)(hok:∀x∈l,x.gone=false→x.k.length≤240∧x.k.length+x.v.length≤480)(hl:L.length≤50000)(hl2:l.length≤40000):
 Calls Tryz.prog 27 #[v0,v1] w fun e w'=>∃v,e= .returned v∧Cs (fun b=>b<w'.heap.size) w' v (chgsC L l)∧Below w.heap.size w w':=by
 have hlt:=hc.lt;obtain⟨A,c,rfl,hlc,hcm,hA0,hA⟩:=hlt.at;have HCS:=zz hr.lt;have HA:=zz hA;have HAS:=zz ha;have HOK:=zz hok;clear hr hlt ha hA hok;go_enter Tryz.func27,Tryz.ntmps27
 go_wp2_with fail
 go_loopw [0,5] (fun ov iv wr=>∃i:Nat,iv= .int .i64 (i:Int)∧i≤l.length∧Hid (Cs (fun b=>b<wr.heap.size) wr ov (chgsC L (l.take i)))∧Hid (Below w.heap.size w wr)) (fun _ iv _=>l.length-(intOf iv).toNat)
 case atStart=>exact⟨0,rfl,by omega,HCS.out,Below.refl _ _⟩
 case round=>
  obtain⟨i,rfl,hi,HC,HB⟩:=hrel;clear HCS;by_cases hil:i<l.length
  ·obtain⟨b,o,rfl,hbs,hc⟩:=HA.out (by omega);have c0:wr.cell? ⟨b,o+i*3,none⟩=some (.string (st l[i].k)):=(HB.out.cell (p:=⟨b,o+i*3,none⟩) hbs).trans (hc i hil).1;have c1:wr.cell? ⟨b,o+i*3+1,none⟩=some (.string (st l[i].v)):=(HB.out.cell (p:=⟨b,o+i*3+1,none⟩) hbs).trans (hc i hil).2.1;have c2:wr.cell? ⟨b,o+i*3+2,none⟩=some (.bool l[i].gone):=(HB.out.cell (p:=⟨b,o+i*3+2,none⟩) hbs).trans (hc i hil).2.2;have HX:=zz (HOK.out l[i] (List.getElem_mem hil));have HE:Hid (chgsC L (l.take (i+1))=chgC (chgsC L (l.take i)) l[i]):=by rw [Hid,List.take_succ_eq_append_getElem hil,zDM]
   have HL:Hid ((chgsC L (l.take i)).length≤100000):=by
    have:=zFi (l.take i) L;rw [List.length_take]at this;rw [Hid];omega
   have HA2:=zz (HAS.out.chgsC (l.take i));clear hc;generalize l[i]=x at*;obtain⟨xk,xv,gn⟩:=x;simp only at c0 c1 c2 HX;generalize chgsC L (l.take i)=L' at*;obtain⟨Ao,co,hov,-⟩:=HC.out.at;subst hov;cases gn with
   |true=>
    have HF:Hid (chgsC L (l.take (i+1))=delC L' xk):=HE.out.trans (zAA rfl);clear HE HX;go_wp2_with fail
    refine(zDB _ _ L' xk wr HL.out HC.out HA2.out).mono ?_;rintro e w5 ⟨v5,E5,rfl,hc5,hb5⟩;have HC5:Hid (Cs (fun b=>b<w5.heap.size) w5 v5 (chgsC L (l.take (i+1)))):=by rw [HF.out];exact hc5
    have HB5:=zz (HB.out.trans (hb5.mono HB.out.size));clear hc5 hb5 c0 c1 c2;go_wp2_with fail
    go_roundw
    case rel=>exact⟨i+1,by go_num,by omega,HC5,HB5⟩
    case measure=>simp [intOf];omega
   |false=>
    have HF:Hid (chgsC L (l.take (i+1))=putC L' (xk,xv)):=HE.out.trans (zCx rfl);obtain⟨hx1,hx2⟩:=HX.out rfl;clear HE HX;go_wp2_with fail
    have hi0:(0:Int)≤(i:Int):=by omega
    have hi1:(i:Int)<(l.length:Int):=by omega
    have k1:Hid (∀wg,Below wr.heap.size wr wg→Calls Tryz.prog 65 #[.slice Ao L'.length co,.agg #[.string (st xk),.string (st xv)]] wg fun e w'=>∃v,e= .returned v∧Below wg.heap.size wg w'∧zCD (putC L' (xk,xv)) v w'):=fun wg hwg=>
     (zE2 _ _ L' xk xv wg HL.out (HC.out.up hwg) HA2.out hx1 hx2).mono fun e w' ⟨A5,c5,he,hc5,hb5⟩=>⟨_,he,hb5,A5,c5,rfl,hc5.cs.lt⟩
    refine z1H [] (by kernel_rfl) (by kernel_rfl) ?_;apply Exists.intro;apply And.intro
    ·repeat(first
      |(apply z1D rfl
        intro K hK;go_simp;refine hK _ ?_;clear hK K)
      |(apply z1t rfl (by kernel_rfl)
        ·intro wg hwg _;replace hwg:=z17 hwg;have c0:=cell_later hwg c0;have c1:=cell_later hwg c1;unfold z06;go_simp
         first
          |exact z00 _ _
          |(fail)
        intro K hK;go_simp;refine hK _ ?_;clear hK K))
     apply z9s (V:=zCD (putC L' (xk,xv))) rfl (by kernel_rfl)
     ·intro wg hwg hf;unfold z06;go_simp;refine⟨Below.refl _ _,?_⟩;go_at_call 65
      exact k1.out wg (z17 hwg)
     intro xv hxv K hK;obtain⟨wx,hwx,hbx⟩:=hxv;have hbo:=hbx;obtain⟨A5,c5,rfl,hc5⟩:=hbo;go_simp;refine hK _ ?_;clear hK K hbx hwx;apply z7S (fun f=>f 12) (c:= .tuple #[.slice A5 (putC L' (xk,xv)).length c5,.int .i64 0]) (by kernel_rfl) rfl (by kernel_rfl)
     ·intro wg hwg hf;unfold z06;go_simp;exact z00 _ _
     intro K hK;go_simp;refine hK _ ?_;clear hK K;apply z7S (fun f=>tupV (f 13) 0) (c:= .slice A5 (putC L' (xk,xv)).length c5) (by kernel_rfl) rfl (by kernel_rfl)
     ·intro wg hwg hf;unfold z06;go_simp;exact z00 _ _
     intro K hK;go_simp;refine hK _ ?_;clear hK K;apply z7S (fun f=>tupV (f 13) 1) (c:= .int .i64 0) (by kernel_rfl) rfl (by kernel_rfl)
     ·intro wg hwg hf;unfold z06;go_simp;exact z00 _ _
     intro K hK;go_simp;refine hK _ ?_;clear hK K;apply z7S (fun f=>f 14) (c:= .slice A5 (putC L' (xk,xv)).length c5) (by kernel_rfl) rfl (by kernel_rfl)
     ·intro wg hwg hf;unfold z06;go_simp;exact z00 _ _
     intro K hK;go_simp;refine hK _ ?_;clear hK K;refine z32 (fun wg hwg hf=> ?_);have hwg2:=z17 hwg;have HC5:Hid (Cs (fun b=>b<wg.heap.size) wg (.slice A5 (putC L' (xk,xv)).length c5) (chgsC L (l.take (i+1)))):=by
      obtain⟨A6,c6,he,h6⟩:=hf 12 _ (zCD (putC L' (xk,xv))) (by kernel_rfl);have he:(.tuple #[.slice A5 (putC L' (xk,xv)).length c5,.int .i64 0]:Value)= .tuple #[.slice A6 (putC L' (xk,xv)).length c6,.int .i64 0]:=he;injection he with he
      have he2:=congrArg (fun a:Array Value=>a[0]?) he;simp only [List.getElem?_toArray,List.getElem?_cons_zero,Option.some.injEq]at he2;injection he2 with h7 _ h8
      subst h7 h8;rw [HF.out];exact h6
     have HB5:=zz (HB.out.trans (hwg2.mono HB.out.size));clear hwg hwg2 hf hc5 k1;go_wp2_with fail
     go_roundw
     case rel=>exact⟨i+1,by go_num,by omega,HC5,HB5⟩
     case measure=>simp [intOf];omega
    ·apply And.intro
     ·repeat(first
       |exact trivial
       |(refine⟨z61 _ _,?_⟩)
       |(refine⟨z9B (Stays.put14 _) (fun p hp hn hw=>by cases hp),?_⟩)
       |(refine⟨zAM _ 13 (fun y y' h=>by simp only [h 12 (by kernel_rfl)]),?_⟩)
       |(refine⟨zAM _ 14 (fun y y' h=>by simp only [h 13 (by kernel_rfl)]),?_⟩)
       |(refine⟨zAM _ 15 (fun y y' h=>by simp only [h 13 (by kernel_rfl)]),?_⟩)
       |(refine⟨zAM _ 16 (fun y y' h=>by simp only [h 14 (by kernel_rfl)]),?_⟩)
       )
     ·rfl
  ·obtain rfl:i=l.length:=by omega
   rw [List.take_length]at HC;go_wp2_with fail
   go_ret
   exact⟨_,rfl,HC.out,HB.out⟩
end
end Go.Proofs.YthbhkdhljlganaaGreatDoor
