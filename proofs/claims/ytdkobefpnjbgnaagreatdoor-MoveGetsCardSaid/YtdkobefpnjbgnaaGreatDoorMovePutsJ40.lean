/- Part 40. -/
import Derived.Test.YtdkobefpnjbgnaaGreatDoorMovePutsJ39
namespace Go.Proofs.YtdkobefpnjbgnaaGreatDoor
set_option linter.unusedVariables false
set_option maxHeartbeats 16000000
set_option maxRecDepth 100000
section
open Go Go.RowKit
def zDq(r:Rw):Bool:=decide (r.vs.length≤110)&&decide (r.k.length≤300)&&r.vs.all fun x=>decide (x.v.length≤300)
def zEJ(l:List Rw):Bool:=decide (l.length≤110)&&l.all zDq
theorem zE2(S:Nat→Prop)(v0:Value)(p:RwV)(w:World)(hr:Rws S w v0 p)(hs:∀x∈p,x.1.k.length≤9223372036854775807∧∀y∈x.1.vs,y.v.length≤9223372036854775807):
 Calls Tryz.prog 8 #[v0] w fun e w'=>e= .returned (.bool (zEJ (p.map (·.1))))∧Below w.heap.size w w':=by
 have HV:=zz hr.lt.vs;have HS:=zz hs;obtain⟨A,c,rfl,hlc,hcm,hA0,hA⟩:=hr.lt.at;have HA:=zz hA;have hm:p.length≤9223372036854775807:=by unfold maxLen at hcm;omega
 clear hA hr hA0 hs;by_cases h110:110<p.length
 ·have HE:Hid (zEJ (p.map (·.1))=false):=by rw [Hid];unfold zEJ;rw [List.length_map,decide_eq_false (show ¬p.length≤110 by omega)];rfl
  have e1:decide ((110:Int)<(p.length:Int))=true:=by rw [decide_eq_true_eq];omega
  go_enter Tryz.func8,Tryz.ntmps8
  go_wp2_with fail
  go_ret
  exact⟨by rw [HE.out];rfl,Below.refl _ _⟩
 have hl:p.length≤110:=by omega
 have HC:Hid (zEJ (p.map (·.1))=(p.map (·.1)).all zDq):=by rw [Hid];unfold zEJ;rw [List.length_map,decide_eq_true hl];rfl
 have e1:decide ((110:Int)<(p.length:Int))=false:=by rw [decide_eq_false_iff_not];omega
 clear h110;go_enter Tryz.func8,Tryz.ntmps8
 go_wp2_with fail
 go_loopw [3] (fun iv wr=>∃i:Nat,iv= .int .i64 (i:Int)∧i≤p.length∧Hid ((∀x∈p.take i,zDq x.1=true)∧Below w.heap.size w wr)) (fun iv _=>p.length-(intOf iv).toNat)
 case atStart=>exact⟨0,rfl,by omega,by simp,Below.refl _ _⟩
 case round=>
  obtain⟨i,rfl,hi,RR⟩:=hrel;have hbl:=RR.out.2;by_cases hil:i<p.length
  ·obtain⟨b,o,rfl,hbs,hc⟩:=HA.out (by omega);have c0:wr.cell? ⟨b,o+i*2,none⟩=some (.string (st p[i].1.k)):=(hbl.cell (p:=⟨b,o+i*2,none⟩) hbs.2).trans (hc i hil).1;have c1:wr.cell? ⟨b,o+i*2+1,none⟩=some p[i].2:=(hbl.cell (p:=⟨b,o+i*2+1,none⟩) hbs.2).trans (hc i hil).2;have hvi:=HV.out _ (List.getElem_mem hil);have hsi:=HS.out _ (List.getElem_mem hil);have hib:(0:Int)≤(i:Int):=by omega
   have HT:Hid (zDq p[i].1=true→∀x∈p.take (i+1),zDq x.1=true):=fun h x hx=>by
    rw [List.take_succ_eq_append_getElem hil]at hx;rcases List.mem_append.1 hx with hx|hx
    ·exact RR.out.1 x hx
    ·obtain rfl:=List.mem_singleton.1 hx;exact h
   have HF:Hid (zDq p[i].1=false→zEJ (p.map (·.1))=false):=fun h=>by
    rw [HC.out,List.all_eq_false];exact⟨p[i].1,List.mem_map.2 ⟨_,List.getElem_mem hil,rfl⟩,by rw [h];simp⟩
   obtain⟨u,hu⟩:∃u,p[i].2=u:=⟨_,rfl⟩;obtain⟨r,hr0⟩:∃r,p[i].1=r:=⟨_,rfl⟩;rw [hu]at c1 hvi;rw [hr0]at c0 hvi hsi HT HF;clear hu hr0 hc RR;obtain⟨k,vs⟩:=r;simp only at c0 hvi hsi HT HF;obtain⟨A1,c1',rfl,hvc,hvm,-,hV⟩:=Vs.at hvi;have HV1:=zz hV;have HSV:=zz hsi.2;have hkl:=hsi.1;have hvl:vs.length≤9223372036854775807:=by unfold maxLen at hvm;omega
   clear hvi hV hsi;by_cases h1:110<vs.length
   ·have HE:=zz (HF.out (by unfold zDq;simp only;rw [decide_eq_false (show ¬vs.length≤110 by omega)];rfl));have e2:decide ((110:Int)<(vs.length:Int))=true:=by rw [decide_eq_true_eq];omega
    clear HT HF;go_wp2_with fail
    go_ret
    exact⟨by rw [HE.out];rfl,hbl⟩
   have e2:decide ((110:Int)<(vs.length:Int))=false:=by rw [decide_eq_false_iff_not];omega
   by_cases h2:300<k.length
   ·have HE:=zz (HF.out (by unfold zDq;simp only;rw [decide_eq_false (show ¬k.length≤300 by omega),Bool.and_false];rfl));have e3:decide ((300:Int)<(k.length:Int))=true:=by rw [decide_eq_true_eq];omega
    clear HT HF;go_wp2_with fail
    go_ret
    exact⟨by rw [HE.out];rfl,hbl⟩
   have e3:decide ((300:Int)<(k.length:Int))=false:=by rw [decide_eq_false_iff_not];omega
   have HR:Hid (zDq ⟨k,vs⟩=vs.all fun x=>decide (x.v.length≤300)):=by
    rw [Hid];unfold zDq;simp only;rw [decide_eq_true (show vs.length≤110 by omega),decide_eq_true (show k.length≤300 by omega)];rfl
   have HBL:=zz hbl;have R1:Hid ((∀x∈vs.take 0,x.v.length≤300)∧Hid (Below wr.heap.size wr wr)):=⟨by simp,Below.refl _ _⟩;have HC1:=zz c1;clear h1 h2 hbl;go_wp2_with fail
   clear c0 c1;generalize wr=wo at*;go_loopw [4] (fun jv wq=>∃j:Nat,jv= .int .i64 (j:Int)∧j≤vs.length∧Hid ((∀x∈vs.take j,x.v.length≤300)∧Hid (Below wo.heap.size wo wq))) (fun jv _=>vs.length-(intOf jv).toNat)
   case atStart=>exact⟨0,rfl,by omega,R1⟩
   case round=>
    clear R1;obtain⟨j,rfl,hj,RJ⟩:=hrel;have hbj:=RJ.out.2.out;have hbo:Below w.heap.size w wr:=HBL.out.trans (hbj.mono HBL.out.size);have d9:=cell_later hbj HC1.out;by_cases hjl:j<vs.length
    ·obtain⟨b2,o2,rfl,hb2,hc2⟩:=HV1.out (by omega);have d1:wr.cell? ⟨b2,o2+j*3+1,none⟩=some (.string (st vs[j].v)):=(hbo.cell (p:=⟨b2,o2+j*3+1,none⟩) hb2.2).trans (hc2 j hjl).2.1;have hxv:=HSV.out _ (List.getElem_mem hjl);have HT2:Hid (vs[j].v.length≤300→∀x∈vs.take (j+1),x.v.length≤300):=fun h x hx=>by
      rw [List.take_succ_eq_append_getElem hjl]at hx;rcases List.mem_append.1 hx with hx|hx
      ·exact RJ.out.1 x hx
      ·obtain rfl:=List.mem_singleton.1 hx;exact h
     have HF2:Hid (¬vs[j].v.length≤300→zEJ (p.map (·.1))=false):=fun h=>HF.out (by
      rw [HR.out,List.all_eq_false];exact⟨vs[j],List.getElem_mem hjl,by simpa using h⟩)
     have hjb:(0:Int)≤(j:Int):=by omega
     obtain⟨v,hv0⟩:∃v,vs[j].v=v:=⟨_,rfl⟩;rw [hv0]at d1 hxv HT2 HF2;clear hv0 hc2 RJ;by_cases h3:v.length≤300
     ·have RF:Hid ((∀x∈vs.take (j+1),x.v.length≤300)∧Hid (Below wo.heap.size wo wr)):=⟨HT2.out h3,hbj⟩;have e4:decide ((300:Int)<(v.length:Int))=false:=by rw [decide_eq_false_iff_not];omega
      clear HT2 HF2 h3;go_wp2_with fail
      go_roundw
      case rel=>exact⟨j+1,by go_num,by omega,RF⟩
      case measure=>simp [intOf];omega
     ·have HE:=zz (HF2.out h3);have e4:decide ((300:Int)<(v.length:Int))=true:=by rw [decide_eq_true_eq];omega
      clear HT2 HF2 h3;go_wp2_with fail
      go_ret
      exact⟨by rw [HE.out];rfl,hbo⟩
    ·obtain rfl:j=vs.length:=by omega
     have RF:Hid ((∀x∈p.take (i+1),zDq x.1=true)∧Below w.heap.size w wr):=⟨HT.out (by
      rw [HR.out,List.all_eq_true];have:=RJ.out.1;rw [List.take_length]at this;exact fun x hx=>by simpa using this x hx),hbo⟩
     clear RJ HT HF HR HV1 HSV;go_wp2_with fail
     go_roundw
     case rel=>exact⟨i+1,by go_num,by omega,RF⟩
     case measure=>simp [intOf];omega
  ·obtain rfl:i=p.length:=by omega
   have HE:Hid (zEJ (p.map (·.1))=true):=by
    rw [Hid,HC.out,List.all_eq_true];have:=RR.out.1;rw [List.take_length]at this;intro r hr;obtain⟨x,hx,rfl⟩:=List.mem_map.1 hr;exact this x hx
   go_wp2_with fail
   go_ret
   exact⟨by rw [HE.out];rfl,hbl⟩
theorem zAj(S:Nat→Prop)(v0:Value)(p:RwV)(w:World)(hr:Rws S w v0 p)(hin:RwsIn p):
 Calls Tryz.prog 13 #[v0] w fun e w'=>e= .returned (.string (st (z47 (p.map (·.1)))))∧Below w.heap.size w w':=by
 have HV:=zz hr.lt.vs;have HIN:=zz hin;have hlen:=hin.len;obtain⟨A,c,rfl,hlc,hcm,hA0,hA⟩:=hr.lt.at;have HA:=zz hA;have HE:Hid (z0A p.length++z92 p=z47 (p.map (·.1))):=by rw [Hid];unfold z47;rw [z4r,List.length_map]
 have hwu:IntKind.u64.wrap (p.length:Int)=(p.length:Int):=z0l (by omega) (by unfold U64;omega);have hv10:(z0A p.length).length≤10:=z06 (by unfold U64;omega);clear hA hr hA0 hin;go_enter Tryz.func13,Tryz.ntmps13
 go_wp2_with fail
 refine(z3q p.length _ (by unfold U64;omega)).mono ?_;rintro e w1 ⟨rfl,hb1⟩;have R0:Hid (Below w.heap.size w w1):=hb1;clear hb1;go_wp2_with fail
 go_loopw [3,4] (fun sv iv wr=>∃ (i:Nat) (s:List UInt8),sv= .string (st s)∧iv= .int .i64 (i:Int)∧i≤p.length∧s.length≤3100010∧Hid (s=z0A p.length++z92 (p.take i)∧Below w.heap.size w wr)) (fun _ iv _=>p.length-(intOf iv).toNat)
 case atStart=>exact⟨0,z0A p.length,rfl,rfl,by omega,by omega,by simp [z92],R0⟩
 case round=>
  clear R0;obtain⟨i,s,rfl,rfl,hi,hsl,RR⟩:=hrel;have hbl:=RR.out.2;by_cases hil:i<p.length
  ·obtain⟨b,o,rfl,hbs,hc⟩:=HA.out (by omega);have c0:wr.cell? ⟨b,o+i*2,none⟩=some (.string (st p[i].1.k)):=(hbl.cell (p:=⟨b,o+i*2,none⟩) hbs.2).trans (hc i hil).1;have c1:wr.cell? ⟨b,o+i*2+1,none⟩=some p[i].2:=(hbl.cell (p:=⟨b,o+i*2+1,none⟩) hbs.2).trans (hc i hil).2;have hvi:=HV.out _ (List.getElem_mem hil);obtain⟨hok,hts⟩:=HIN.out.row (List.getElem_mem hil);obtain⟨k1,k2,k3,k4,k5,k6⟩:=z3l hok;have hib:(0:Int)≤(i:Int):=by omega
   have HS:Hid (s++rwB p[i].1=z0A p.length++z92 (p.take (i+1))∧(s++rwB p[i].1).length≤3100010):=by
    have e:s++rwB p[i].1=z0A p.length++z92 (p.take (i+1)):=by
     rw [RR.out.1,List.take_succ_eq_append_getElem hil];unfold z92;rw [List.flatMap_append,List.flatMap_cons,List.flatMap_nil,List.append_nil,List.append_assoc]
    refine⟨e,?_⟩;rw [e,List.length_append];have:=z4l HIN.out (i+1);omega
   obtain⟨u,hu⟩:∃u,p[i].2=u:=⟨_,rfl⟩;obtain⟨r,hr0⟩:∃r,p[i].1=r:=⟨_,rfl⟩;rw [hu]at c1 hvi;rw [hr0]at c0 hvi HS hok hts k1 k2 k3 k4 k5 k6;clear hu hr0 hc RR hok;obtain⟨k,vs⟩:=r;simp only at c0 hvi HS hts k1 k2 k3 k4 k5 k6;obtain⟨A1,c1',rfl,hvc,hvm,-,hV⟩:=Vs.at hvi;have HV1:=zz hV;have HK6:=zz k6;have HTS:=zz hts;have HBL:=zz hbl;have HC1:=zz c1;have hwv:IntKind.u64.wrap (vs.length:Int)=(vs.length:Int):=z0l (by omega) (by unfold U64;omega);have htx:=z0v k (by omega);have hvk:(z0A k.length).length≤10:=z06 (by unfold U64;omega);have hvv:(z0A vs.length).length≤10:=z06 (by unfold U64;omega);have HX1:Hid (∀wg,Below wr.heap.size wr wg→Calls Tryz.prog 45 #[.string (st k)] wg fun e w'=>e= .returned (.string (st (z0Q k)))∧Below wg.heap.size wg w'):=fun wg _=>z6z k wg (by omega)
   have HX2:Hid (∀wg,Below wr.heap.size wr wg→Calls Tryz.prog 44 #[.int .u64 (vs.length:Int)] wg fun e w'=>e= .returned (.string (st (z0A vs.length)))∧Below wg.heap.size wg w'):=fun wg _=>z3q vs.length wg (by unfold U64;omega)
   obtain⟨tk,htk⟩:∃tk,z0Q k=tk:=⟨_,rfl⟩;obtain⟨vv,hvv0⟩:∃vv,z0A vs.length=vv:=⟨_,rfl⟩;rw [htk]at HX1 htx;rw [hvv0]at HX2 hvv;have HTK:=zz htk;have HVV:=zz hvv0;have hl3:tk.length≤1000:=by omega
   have a1:¬9223372036854775807<tk.length+vv.length:=by omega
   have a2:¬9223372036854775807<s.length+(tk.length+vv.length):=by omega
   clear hvi hV hts k6 k1 k3 k5 hbl htk hvv0 htx;go_wp2_with fail
   refine z01 (by kernel_rfl) (by kernel_rfl) ?_;apply Exists.intro;apply And.intro
   ·repeat(first
     |(apply z04 rfl
       intro K hK;go_simp;refine hK _ ?_;clear hK K)
     |(apply z09 rfl
       ·intro wg hwg _;have c0':=cell_later hwg c0;have c1':=cell_later hwg c1;unfold z07;go_simp
        first
         |exact z00 _ _
         |(exact z0C (HX1.out wg hwg))
         |(exact z0C (HX2.out wg hwg))
       intro K hK;go_simp;refine hK _ ?_;clear hK K))
    refine z08 (fun wg hwg _=> ?_);have hbg:Below w.heap.size w wg:=HBL.out.trans (hwg.mono HBL.out.size);have HCG:=zz (cell_later hwg HC1.out);have R1:Hid (s++(tk++vv)=s++(tk++vv)++(vs.take 0).flatMap z3J∧Below wg.heap.size wg wg):=⟨by simp,Below.refl _ _⟩;have HBG:=zz hbg;have HBV:Hid (∀j,((vs.take j).flatMap z3J).length≤30000):=fun j=>by
     have h1:=z4p (l:=vs.take j) fun x hx=>⟨(z2k.1 (HK6.out x (List.mem_of_mem_take hx))).2.1,HTS.out x (List.mem_of_mem_take hx)⟩
     rw [List.length_take]at h1;have h3:=Nat.mul_le_mul_left 300 (show min j vs.length≤100 by omega);omega
    have hl4:(s++(tk++vv)).length≤3101100:=by simp only [List.length_append];omega
    clear hwg hbg c0 c1 HX1 HX2 HBL HC1;go_wp2_with fail
    generalize wg=wo at*;go_loopw [3,5] (fun sv jv wq=>∃ (j:Nat) (s2:List UInt8),sv= .string (st s2)∧jv= .int .i64 (j:Int)∧j≤vs.length∧s2.length≤3200000∧Hid (s2=s++(tk++vv)++(vs.take j).flatMap z3J∧Below wo.heap.size wo wq)) (fun _ jv _=>vs.length-(intOf jv).toNat)
    case atStart=>exact⟨0,s++(tk++vv),rfl,rfl,by omega,by omega,R1⟩
    case round=>
     clear R1;obtain⟨j,s2,rfl,rfl,hj,hsl2,RJ⟩:=hrel;have hbj:=RJ.out.2;have hbo:Below w.heap.size w wr:=HBG.out.trans (hbj.mono HBG.out.size);have d9:=cell_later hbj HCG.out;by_cases hjl:j<vs.length
     ·obtain⟨b2,o2,rfl,hb2,hc2⟩:=HV1.out (by omega);have d0:wr.cell? ⟨b2,o2+j*3,none⟩=some (.int .u64 (vs[j].t:Int)):=(hbo.cell (p:=⟨b2,o2+j*3,none⟩) hb2.2).trans (hc2 j hjl).1;have d1:wr.cell? ⟨b2,o2+j*3+1,none⟩=some (.string (st vs[j].v)):=(hbo.cell (p:=⟨b2,o2+j*3+1,none⟩) hb2.2).trans (hc2 j hjl).2.1;have d2:wr.cell? ⟨b2,o2+j*3+2,none⟩=some (.bool vs[j].gone):=(hbo.cell (p:=⟨b2,o2+j*3+2,none⟩) hb2.2).trans (hc2 j hjl).2.2;have hxo:=(z2k.1 (HK6.out _ (List.getElem_mem hjl))).2.1;have hxt:=HTS.out _ (List.getElem_mem hjl);have hjb:(0:Int)≤(j:Int):=by omega
      have HS2:Hid (s2++z3J vs[j]=s++(tk++vv)++(vs.take (j+1)).flatMap z3J∧(s2++z3J vs[j]).length≤3200000):=by
       have e:s2++z3J vs[j]=s++(tk++vv)++(vs.take (j+1)).flatMap z3J:=by
        rw [RJ.out.1,List.take_succ_eq_append_getElem hjl,List.flatMap_append,List.flatMap_cons,List.flatMap_nil,List.append_nil];simp only [List.append_assoc]
       refine⟨e,?_⟩;have h1:=HBV.out (j+1);rw [e,List.length_append];omega
      obtain⟨x,hx0⟩:∃x,vs[j]=x:=⟨_,rfl⟩;rw [hx0]at d0 d1 d2 hxo hxt HS2;obtain⟨t,v,gn⟩:=x;simp only at d0 d1 d2 hxo hxt;have hb7:=Blk.new wr 73 #[.int .u64 (t:Int),.string (st v),.bool gn];have q7:Below wr.heap.size wr (wr.alloc (.cells #[.int .u64 (t:Int),.string (st v),.bool gn] 73)):=(Below.refl _ _).alloc (Nat.le_refl _) _;have HQ7:=zz (hbj.trans (q7.mono hbj.size));clear hx0 hc2 RJ hbj hbo q7;go_wp2_with fail
      generalize hW:wr.alloc (.cells #[.int .u64 (t:Int),.string (st v),.bool gn] 73)=W at*;clear hW;have hvt:(z0A t).length≤10:=z06 hxt;refine(z3q t W hxt).mono ?_;rintro e w7 ⟨rfl,hb8⟩;have HB7:=zz (hb7.later hb8);have z2:w7.cell? ⟨wr.heap.size,2,none⟩=some (.bool gn):=HB7.out.cell 2;have z1:w7.cell? ⟨wr.heap.size,1,none⟩=some (.string (st v)):=HB7.out.cell 1;have HQ8:=zz (HQ7.out.trans (hb8.mono HQ7.out.size));obtain⟨vt,hvt0⟩:∃vt,z0A t=vt:=⟨_,rfl⟩;rw [hvt0]at hvt ⊢;have HVT:=zz hvt0;have a3:¬9223372036854775807<s2.length+vt.length:=by omega
      clear hb7 hb8 HQ7 hvt0 d0 d1 d2 d9 HB7;cases gn with
      |true=>
       have HX:Hid (s2++vt++ [1]=s2++z3J ⟨t,v,true⟩):=by
        have e:z3J ⟨t,v,true⟩=z0A t++ [1]:=by unfold z3J z1N;simp
        rw [Hid,e,HVT.out,List.append_assoc]
       have RF:Hid (s2++vt++ [1]=s++(tk++vv)++(vs.take (j+1)).flatMap z3J∧Below wo.heap.size wo w7):=⟨HX.out.trans HS2.out.1,HQ8.out⟩;have hl9:(s2++vt++ [1]).length≤3200000:=by rw [HX.out];exact HS2.out.2
       clear HS2 HX HQ8;go_wp2_with fail
       go_roundw
       case rel=>exact⟨j+1,s2++vt++ [1],rfl,by go_num,by omega,hl9,RF⟩
       case measure=>simp [intOf];omega
      |false=>
       have htv:=z0v v (by omega);have hvv2:(z0A v.length).length≤10:=z06 (by unfold U64;omega);go_wp2_with fail
       refine(z6z v w7 (by omega)).mono ?_;rintro e w8 ⟨rfl,hb9⟩;have HX:Hid (s2++vt++([0]++z0Q v)=s2++z3J ⟨t,v,false⟩):=by
        have e:z3J ⟨t,v,false⟩=z0A t++([0]++z0Q v):=by unfold z3J z1N;simp
        rw [Hid,e,HVT.out,List.append_assoc]
       have RF:Hid (s2++vt++([0]++z0Q v)=s++(tk++vv)++(vs.take (j+1)).flatMap z3J∧Below wo.heap.size wo w8):=⟨HX.out.trans HS2.out.1,HQ8.out.trans (hb9.mono HQ8.out.size)⟩;have hl9:(s2++vt++([0]++z0Q v)).length≤3200000:=by rw [HX.out];exact HS2.out.2
       obtain⟨tv,htv0⟩:∃tv,z0Q v=tv:=⟨_,rfl⟩;rw [htv0]at RF hl9 htv ⊢;clear HS2 HX HQ8 hb9 htv0 z1 z2;go_wp2_with fail
       go_roundw
       case rel=>exact⟨j+1,s2++vt++([0]++tv),by first|rfl|simp,by go_num,by omega,hl9,RF⟩
       case measure=>simp [intOf];omega
     ·obtain rfl:j=vs.length:=by omega
      have RF:Hid (s2=z0A p.length++z92 (p.take (i+1))∧Below w.heap.size w wr):=by
       refine⟨?_,hbo⟩;rw [RJ.out.1,List.take_length,←HS.out.1];unfold rwB;rw [HTK.out,HVV.out];simp only [List.append_assoc]
      have hl5:s2.length≤3100010:=by
       have:=HS.out;rw [RF.out.1,←this.1];exact this.2
      clear RJ hbj hbo HV1 HK6 HTS HBV HS HTK HVV;go_wp2_with fail
      go_roundw
      case rel=>exact⟨i+1,s2,rfl,by go_num,by omega,hl5,RF⟩
      case measure=>simp [intOf];omega
   ·apply And.intro
    ·repeat(first|exact trivial|(refine⟨Stays.is _,?_⟩)|(refine⟨Stays.bs _,?_⟩)|(refine⟨Stays.pg _ _ _,?_⟩))
    ·rfl
  ·obtain rfl:i=p.length:=by omega
   have h:=RR.out.1;rw [List.take_length,HE.out]at h;have HS:=zz h;clear h RR;go_wp2_with fail
   go_ret
   rw [←HS.out];exact⟨rfl,hbl⟩
theorem zBB{w:World}{gs g:Nat}{v1 v2:Value}(hs:Blk w gs 118 #[.pointer (some ⟨g,0,none⟩),v1,v2])(hrg:RgAt g [] w){ps:Nat}(hps:gs=ps):
 Calls Tryz.prog 20 #[.pointer (some ⟨ps,0,none⟩)] w fun e w'=>∃gv,e= .returned (.tuple #[.pointer (some ⟨gv,0,none⟩),.int .i64 0])∧w.heap.size≤gv∧Blk w' gv 112 #[.pointer (some ⟨gs,0,none⟩),.int .u64 0,.int .u64 0]∧Below w.heap.size w w':=by
 subst hps;have q1:Below w.heap.size w (w.alloc (.cells #[.pointer (some ⟨gs,0,none⟩),.int .u64 0,.int .u64 0] 112)):=(Below.refl _ _).alloc (Nat.le_refl _) _;have HB:=zz (Blk.new w 112 #[.pointer (some ⟨gs,0,none⟩),.int .u64 0,.int .u64 0]);have HS:=zz (hs.later q1);have HQ:=zz q1;have HR:Hid (Calls Tryz.prog 55 #[.pointer (some ⟨g,0,none⟩),.agg #[.string (st []),.string (st []),.bool true,.bool false,.int .i64 (-1)]] (w.alloc (.cells #[.pointer (some ⟨gs,0,none⟩),.int .u64 0,.int .u64 0] 112)) (RangePost [] (w.alloc (.cells #[.pointer (some ⟨gs,0,none⟩),.int .u64 0,.int .u64 0] 112)))):=hrg _ [] [] true (-1) q1;clear hs hrg q1;go_enter Tryz.func20,Tryz.ntmps20
 go_upto_region 2 with(fail)
 generalize hW:w.alloc (.cells #[.pointer (some ⟨gs,0,none⟩),.int .u64 0,.int .u64 0] 112)=W at*;clear hW;have x0:W.cell? ⟨gs,0,none⟩=some (.pointer (some ⟨g,0,none⟩)):=HS.out.cell 0;have HG:Hid (w.heap.size≤w.heap.size):=Nat.le_refl _;go_wp2_with fail
 refine HR.out.mono ?_;rintro e w2 ⟨A,c,rfl,-,hb2⟩;have HB2:=zz (HB.out.later hb2);have HQ2:=zz (HQ.out.trans (hb2.mono HQ.out.size));clear HR hb2 HB HS HQ x0;go_wp2_with fail
 go_ret2
 exact⟨w.heap.size,rfl,Nat.le_refl _,HB2.out,HQ2.out⟩
theorem zAl(c:Int→List UInt8)(w:World)(hb:BitsOk w):
 Calls Tryz.prog 19 #[] w fun e w'=>∃pd gs g gl Z P l,e= .returned (.tuple #[.pointer (some ⟨pd,0,none⟩),.pointer (some ⟨gs,0,none⟩)])∧Sy w w' gs g gl Z P c l 0 []∧(l=logNew∧P.pages.length=1):=by
 have HB:=zz hb;have hpos:=hb.pos;clear hb;go_enter Tryz.func19,Tryz.ntmps19
 go_wp2_with fail
 refine(zHd 1000 w (by omega) (by omega)).mono ?_;rintro e w1 ⟨h,rfl,hd,hnew,hb1⟩;have HD:Hid (Dp w w1 h (Dsk.new 1000)):=⟨hd,hnew,hb1⟩;have HB1:=zz (HB.out.later hb1);clear hd hnew hb1;go_wp2_with fail
 refine(zFD HD.out c HB1.out hpos rfl).mono ?_;rintro e w2 ⟨gs,g,gl,Z,P,l,rfl,hx,hlp,-⟩;have HX:=zz hx;have HLP:=zz hlp;clear hx hlp HD HB1 HB;go_wp2_with fail
 go_ret2
 exact⟨_,_,_,_,_,_,_,rfl,HX.out,HLP.out⟩
theorem zAs(c:Int→List UInt8)(w:World)(hb:BitsOk w):
 Calls Tryz.prog 16 #[] w fun e w'=>∃gv gs g gl Z P l,e= .returned (.pointer (some ⟨gv,0,none⟩))∧Vx w w' gv gs g gl Z P c l 0 [] [] 0 0∧(l=logNew∧P.pages.length=1):=by
 have hpos:=hb.pos;have HE:=zz (zAl c w hb);clear hb;go_enter Tryz.func16,Tryz.ntmps16
 go_wp2_with fail
 refine HE.out.mono ?_;rintro e w1 ⟨pd,gs,g,gl,Z,P,l,rfl,hx,hlp⟩;have HX:=zz hx;have HLP:=zz hlp;have HPO:Hid (0<w.heap.size):=hpos;clear hx hlp HE hpos;go_wp2_with fail
 refine(zBB HX.out.s.blk (HX.out.range (by omega)) rfl).mono ?_;rintro e w2 ⟨gv,rfl,hgv,hbv,hb2⟩;have HX2:Hid (Vx w w2 gv gs g gl Z P c l 0 [] [] 0 0):=by
  have hs:=HX.out.later hb2;exact⟨hs,hbv,Nat.le_trans HX.out.below.size hgv,HPO.out,hs.s.T.bits,⟨fun r hr=>(by cases hr),List.Pairwise.nil⟩,.inl rfl,fun r hr=>(by cases hr),Nat.le_refl _,Nat.le_refl _⟩
 clear hbv hb2 hgv HX;go_wp2_with fail
 go_ret
 exact⟨_,_,_,_,_,_,_,rfl,HX2.out,HLP.out⟩
theorem Sl.ofBlkN{S:Nat→Prop}{w:World}{g size:Nat}{t:TypeId}{xs:List Value}{n:Nat}(hb:Blk w g t xs.toArray)(hS:S g)(hn:xs.length=n*size)(hm:n≤maxLen):Sl S w size (.slice (some ⟨g,0,none⟩) n n) n xs:=by
 refine⟨hn,_,n,rfl,Nat.le_refl _,hm,(fun h=>by cases h),fun _=>⟨g,0,rfl,hS,fun j u hu=> ?_⟩⟩;rw [Nat.zero_add,hb.cell j,List.getElem?_toArray];exact hu
def exR:List Rw:= [⟨[97],[⟨2,[120],false⟩,⟨5,[],true⟩]⟩]
def exW:List Wri:= [⟨[97],[],false⟩,⟨[98],[],false⟩,⟨[99],[],false⟩]
def exV:List Rw:= [⟨[97],[⟨1,[],false⟩]⟩,⟨[98],[⟨1,[],false⟩]⟩,⟨[99],[⟨1,[],false⟩]⟩]
theorem exR_B:z47 exR= [1,1,97,2,2,0,1,120,5,1]:=by
 have h1:z0A 1= [1]:=z1e (by omega);have h2:z0A 2= [2]:=z1e (by omega);have h5:z0A 5= [5]:=z1e (by omega);simp [z47,exR,rwB,z3J,z0Q,z1N,h1,h2,h5]
theorem exR_ok:z1R exR=true:=by decide
theorem exW_ok:z7I exW=0:=by decide
theorem exV_eq:z31 (0+1) [] exW=exV:=by decide
theorem exV_0:z12 exV []=exV:=by decide
theorem exV_b:z12 exV [98]= [⟨[99],[⟨1,[],false⟩]⟩]:=by decide
theorem z4I(w:World)(hb:BitsOk w):Calls Tryz.prog 9 #[] w fun e w'=>e= .returned (.bool true)∧Below w.heap.size w w':=by
 have HB:=zz hb;have q1:Below w.heap.size w (w.alloc (.cells #[.int .u64 2,.string ⟨#[120]⟩,.bool false,.int .u64 5,.string ⟨#[]⟩,.bool true] 73)):=(Below.refl _ _).alloc (Nat.le_refl _) _;have q2:=q1.alloc q1.size (.cells #[.string ⟨#[97]⟩,.slice (some ⟨w.heap.size,0,none⟩) 2 2] 46);have b1:=(Blk.new w 73 #[.int .u64 2,.string ⟨#[120]⟩,.bool false,.int .u64 5,.string ⟨#[]⟩,.bool true]).alloc (.cells #[.string ⟨#[97]⟩,.slice (some ⟨w.heap.size,0,none⟩) 2 2] 46);have b2:=Blk.new1 w (.cells #[.int .u64 2,.string ⟨#[120]⟩,.bool false,.int .u64 5,.string ⟨#[]⟩,.bool true] 73) 46 #[.string ⟨#[97]⟩,.slice (some ⟨w.heap.size,0,none⟩) 2 2];have HQ2:=zz q2;have HRW:Hid (Rws (fun _=>True) ((w.alloc (.cells #[.int .u64 2,.string ⟨#[120]⟩,.bool false,.int .u64 5,.string ⟨#[]⟩,.bool true] 73)).alloc (.cells #[.string ⟨#[97]⟩,.slice (some ⟨w.heap.size,0,none⟩) 2 2] 46)) (.slice (some ⟨w.heap.size+1,0,none⟩) 1 1) [(⟨[97],[⟨2,[120],false⟩,⟨5,[],true⟩]⟩,.slice (some ⟨w.heap.size,0,none⟩) 2 2)]):=by
  refine⟨Sl.ofBlkN (xs:= [.string (st [97]),.slice (some ⟨w.heap.size,0,none⟩) 2 2]) b2 trivial rfl (by simp [maxLen]),fun x hx=> ?_⟩;obtain rfl:=List.mem_singleton.1 hx;exact Sl.ofBlkN (xs:=vsC [⟨2,[120],false⟩,⟨5,[],true⟩]) b1 trivial rfl (by simp [maxLen])
 clear q1 q2 b1 b2 hb;go_enter Tryz.func9,Tryz.ntmps9
 go_wp2_with fail
 refine(zBf _ _ _ _ HRW.out ⟨by simp,fun x hx=>by
  obtain rfl:=List.mem_singleton.1 hx;exact⟨by simp,by simp,fun y hy=>by simp at hy;rcases hy with rfl|rfl<;>simp⟩⟩ fun x hx y hy=>by
  obtain rfl:=List.mem_singleton.1 hx;simp at hy;rcases hy with rfl|rfl<;>(unfold U64;simp)).mono ?_
 rintro e w1 ⟨hb1,-,hyes⟩;obtain⟨A,k,c,rfl,hown⟩:=hyes exR_ok;have hbs:=hown.bs;have hz1:=HQ2.out.size;have HQ3:=zz (HQ2.out.trans (hb1.mono hz1));have HB1:=zz (HB.out.later HQ3.out);have hbs1:Bs (fun b=>b<w1.heap.size) w1 (.slice A k c) [1,1,97,2,2,0,1,120,5,1]:=by
  have e:z47 (([(⟨[97],[⟨2,[120],false⟩,⟨5,[],true⟩]⟩,.slice (some ⟨w.heap.size,0,none⟩) 2 2)]:RwV).map (·.1))= [1,1,97,2,2,0,1,120,5,1]:=exR_B;rw [←e];exact(Sl.lt hbs (by omega)).more fun b hb=>hb.2
 have HBS:=zz hbs1;clear hown hbs hbs1 hb1 hyes HRW HQ2 HB hz1;go_wp2_with fail
 refine(zAs (fun _=> []) w1 HB1.out).mono ?_;rintro e w2 ⟨gv,gs,g,gl,Z,P,l,rfl,hx,hlp⟩;have hbs2:=Sl.below HBS.out hx.s.below fun _ h=>h
 have HX:=zz hx;have HLP:=zz hlp;have HWN:Hid (∀W,W=w2.alloc (.cells #[.string ⟨#[97]⟩,.string ⟨#[]⟩,.bool false,.string ⟨#[98]⟩,.string ⟨#[]⟩,.bool false,.string ⟨#[99]⟩,.string ⟨#[]⟩,.bool false] 49)→Wrs (fun _=>True) W (.slice (some ⟨w2.heap.size,0,none⟩) 3 3) exW):=fun W hW=>by
  subst hW;exact Sl.ofBlkN (xs:=zHv exW) (Blk.new w2 49 _) trivial rfl (by simp [maxLen])
 clear hx hlp HBS HB1;go_wp2_with (refine z0o _ rfl (.tmp 18) rfl tB tU tS hbs2 rfl ?_)
 clear hbs2;go_wp2_with fail
 have hx3:=HX.out.later ((Below.refl w2.heap.size w2).alloc (Nat.le_refl _) (.cells #[.string ⟨#[97]⟩,.string ⟨#[]⟩,.bool false,.string ⟨#[98]⟩,.string ⟨#[]⟩,.bool false,.string ⟨#[99]⟩,.string ⟨#[]⟩,.bool false] 49));refine(zEo hx3 (by omega) (fun _=>True) _ exW (HWN.out _ rfl) exW_ok rfl).mono ?_;rintro e w4 ⟨er,rfl,hfirst,Z4,P4,l4,hx4,-,-⟩;obtain rfl:=hfirst HLP.out.1 (by rw [HLP.out.2];decide) (by decide);rw [if_pos rfl,if_pos rfl,if_pos rfl,exV_eq]at hx4;have HX4:=zz hx4;clear hx3 hx4 hfirst HWN HX HLP;go_wp2_with fail
 refine(z7T (HX4.out.vv (by omega)) (HX4.out.few (by omega)) [] (by simp) 2 (by omega) rfl).mono ?_;rintro e w5 ⟨A5,c5,p5,rfl,hp5,hr5,hb5⟩;rw [exV_0,show z4D 2=2 from rfl]at hp5;rw [exV_0,show z4D 2=2 from rfl];have HX5:=zz (HX4.out.later hb5);have HR5:=zz (hr5.more (S':=fun b=>b<w5.heap.size) fun b hb=>hb.2);have HP5:=zz hp5;clear hr5 hp5 hb5 HX4;go_wp2_with fail
 refine(z7T (HX5.out.vv (by omega)) (HX5.out.few (by omega)) [98] (by simp) 2 (by omega) rfl).mono ?_;rintro e w6 ⟨A6,c6,p6,rfl,hp6,hr6,hb6⟩;rw [exV_b,show z4D 2=2 from rfl]at hp6;rw [exV_b,show z4D 2=2 from rfl];have hl5:p5.length=2:=by have:=congrArg List.length HP5.out;simpa [exV]using this
 have hl6:p6.length=1:=by have:=congrArg List.length hp6;simpa using this
 obtain⟨_,_,hv5,-,-,-,hc5⟩:=(HR5.out.later hb6).at;injection hv5 with h51 _ h53
 subst h51 h53;obtain⟨b5,o5,rfl,-,hcell5⟩:=hc5 (by omega);obtain⟨_,_,hv6,-,-,-,hc6⟩:=hr6.at;injection hv6 with h61 _ h63
 subst h61 h63;obtain⟨b6,o6,rfl,-,hcell6⟩:=hc6 (by omega);have k5:w6.cell? ⟨b5,o5+2,none⟩=some (.string (st [98])):=by
  have h1:=(hcell5 1 (by omega)).1;have h2:p5[1].1=⟨[98],[⟨1,[],false⟩]⟩:=by
   have h3:(p5.map (·.1))[1]'(by simp;omega)=(exV.take 2)[1]'(by decide):=by simp only [HP5.out]
   simpa [exV]using h3
  rw [h2]at h1;exact h1
 have k6:w6.cell? ⟨b6,o6,none⟩=some (.string (st [99])):=by
  have h1:=(hcell6 0 (by omega)).1;have h2:p6[0].1=⟨[99],[⟨1,[],false⟩]⟩:=by
   have h3:(p6.map (·.1))[0]'(by simp;omega)=([⟨[99],[⟨1,[],false⟩]⟩]:List Rw)[0]'(by decide):=by simp only [hp6,List.take]
   simpa using h3
  rw [h2]at h1;exact h1
 have HQ6:Hid (Below w.heap.size w w6):=HQ3.out.trans ((HX5.out.later hb6).s.below.mono HQ3.out.size);rw [hl5,hl6];clear hcell5 hcell6 hc5 hc6 hr6 hb6 hp6 HR5 HP5 HX5 HQ3;go_wp2_with fail
 go_ret
 exact⟨rfl,HQ6.out⟩
theorem zHk(l:List UInt8){er:Nat}(h:er≤1000):(z0k l er).1<U64∧(z0k l er).2.1.length≤l.length∧(z0k l er).2.2≤1000:=by
 unfold z0k
 split
 ·exact⟨by unfold U64;omega,Nat.le_refl _,h⟩
 ·cases hg:z0S l with
  |error e=>
   refine⟨by simp [U64],Nat.le_refl _,?_⟩;show zBi e≤1000;rw [zFH];exact(z3v hg).1
  |ok x=>
   obtain⟨x,n⟩:=x;have:=zJG l;unfold numV at this;rw [hg]at this;exact⟨this.1,this.2.1,by simp⟩
def VsIn(vs:List Vsn):Prop:=vs.length≤100∧∀x∈vs,x.t<U64∧x.v.length≤65536
def RwIn(p:RwV):Prop:=p.length≤100∧∀x∈p,x.1.k.length≤65536∧VsIn x.1.vs
theorem RwIn.mild{p:RwV}(h:RwIn p):Mild p:=⟨by have:=h.1;omega,fun x hx=>⟨by have:=(h.2 x hx).1;omega,by have:=(h.2 x hx).2.1;omega,fun y hy=>by have:=((h.2 x hx).2.2 y hy).2;omega⟩⟩
theorem Rd.keptE{w w':World}{g B B':Nat}{l:List UInt8}{err:Nat}(h:Rd w g B l err){e:TypeId}{size n:Nat}{v:Value}{xs:List Value}(ho:w.ownsRow B' e size v n xs)(hg:w.grownBy w' v.ownBlock)(h1:e≠146)(h2:e≠5):Rd w' g B l err:=by
 obtain⟨A,k,c,h3,h4⟩:=h;refine⟨A,k,c,h3.kept ho hg (fun q=>h1 (by first|exact q|exact q.symm)),h4.keep fun b hb=> ?_⟩;obtain⟨_,cs,fz,hh⟩:=hb;refine hg.block b (lt_of_block hh) fun q=> ?_
 rcases ho.2 with⟨rfl,_⟩|⟨g',cap,cur,rfl,_,hh',_⟩
 ·cases q
 ·simp only [Value.ownBlock,Option.some.injEq]at q;subst q;rw [hh]at hh';injection hh' with hh'
  injection hh' with _ he
  exact absurd he.symm h2
theorem zB1{w w':World}{g:Nat}(h:w.grownBy w' (some g)):Turn (fun b=>b=g) w w':=Turn.of_grown h fun z hz=>(Option.some.inj hz).symm
theorem zCZ{w:World}{B B':Nat}{e:TypeId}{size n:Nat}{v:Value}{xs:List Value}(h:w.ownsRow B e size v n xs)(hB:B'≤B):w.ownsRow B' e size v n xs:=by
 obtain⟨h1,h2⟩:=h;refine⟨h1,?_⟩;rcases h2 with h2|⟨g,cap,cur,hv,hg,r⟩
 ·exact .inl h2
 ·exact .inr ⟨g,cap,cur,hv,Nat.le_trans hB hg,r⟩
structure MgIn(w0 wq:World)(g gx B:Nat)(k:List UInt8)(sl:Value)(vs:List Vsn)(l:List UInt8)(er:Nat):Prop where
 own:wq.ownsRow w0.heap.size 73 3 sl vs.length (vsC vs)
 x:Blk wq gx 46 #[.string (st k),sl]
 rd:Rd wq g B l er
 turn:Turn (fun b=>b=g) w0 wq
 gx0:w0.heap.size≤gx
 g0:g<w0.heap.size
 room:B≤w0.heap.size
 vin:VsIn vs
 lens:l.length≤1099511627776∧er≤1000
structure MgSt(w wr:World)(g B B2:Nat)(sv:Value)(p:RwV)(l:List UInt8)(er:Nat):Prop where
 own:Rwo wr B2 sv p
 rd:Rd wr g B l er
 below:Below w.heap.size w wr
 g0:w.heap.size≤g
 g2:g<B2
 B2w:B2≤wr.heap.size
 room:B≤wr.heap.size
 rin:RwIn p
 lens:l.length≤1099511627776∧er≤1000
section
variable {w w0 wq w':World} {g gx B:Nat} {k:List UInt8} {sl:Value} {vs:List Vsn} {l l2:List UInt8} {er er2:Nat}
theorem MgIn.read(h:MgIn w0 wq g gx B k sl vs l er)(hr:Rd w' g B l2 er2)(hg:wq.grownBy w' (some g))(hl:l2.length≤1099511627776∧er2≤1000):MgIn w0 w' g gx B k sl vs l2 er2:=by
 have t:=zB1 hg;have h1:=h.gx0;have h2:=h.g0;exact⟨z9s h.own t fun q hq=>by have:=(h.own.lt q hq).1;omega,h.x.turn t (by omega),hr,h.turn.trans t fun b hb=> .inl hb,h1,h2,h.room,h.vin,hl⟩
theorem MgIn.alloc(h:MgIn w0 wq g gx B k sl vs l er)(o:Obj):MgIn w0 (wq.alloc o) g gx B k sl vs l er:=by
 have q:=(Below.refl wq.heap.size wq).alloc (Nat.le_refl _) o;exact⟨z0y h.own q,h.x.later q,h.rd.later q,h.turn.alloc o,h.gx0,h.g0,h.room,h.vin,h.lens⟩
theorem MgIn.put(h:MgIn w0 wq g gx B k sl vs l er){gv:Nat}{cs:Array Value}(hv:Blk wq gv 73 cs)(h0:w0.heap.size≤gv)(hne:sl.ownBlock≠some gv)(i:Nat)(u:Value):MgIn w0 (wq.setCell ⟨gv,i,none⟩ u) g gx B k sl vs l er:=
 ⟨zBx h.own hne i u,h.x.far (p:=⟨gv,i,none⟩) (Blk.ne h.x hv (by decide)) u,h.rd.far hv (by decide) (by decide) i u,h.turn.setCell (.inr h0) u,h.gx0,h.g0,h.room,h.vin,h.lens⟩
theorem MgIn.push(h:MgIn w0 wq g gx B k sl vs l er){o:Obj}{A:Option Addr}{n c:Nat}{x:Vsn}(hown:w'.ownsRow w0.heap.size 73 3 (.slice A n c) (vs.length+1) (vsC vs++zAo x))(hg:(wq.alloc o).grownBy w' sl.ownBlock)(hv:VsIn (vs++ [x])):
 Blk w' gx 46 #[.string (st k),sl]∧MgIn w0 (w'.setCell ⟨gx,1,none⟩ (.slice A n c)) g gx B k (.slice A n c) (vs++ [x]) l er∧n=vs.length+1:=by
 have ha:=h.alloc o;have hn:=z0V hown;have t1:Turn (fun b=>some b=sl.ownBlock) (wq.alloc o) w':=Turn.of_grown hg fun z hz=>hz.symm
 have t2:Turn (fun b=>b=g) w0 w':=ha.turn.trans t1 fun b hb=> .inr (ha.own.lt b hb.symm).1
 have hx:=ha.x.kept ha.own hg (by decide);have hne:∀q,(Value.slice A n c).ownBlock=some q→q≠gx:=fun q hq e=>by
  subst e;rcases hown.2 with⟨hv,hz⟩|⟨g',cap,cur,hv,_,hh,_⟩
  ·omega
  ·rw [hv]at hq;injection hq with hq
   subst hq;have:=hx.symm.trans hh;injection this with this
   injection this with _ this
   exact absurd this (by decide)
 refine⟨hx,⟨?_,hx.put 1 _,(ha.rd.keptE ha.own hg (by decide) (by decide)).far hx (by decide) (by decide) 1 _,t2.setCell (.inr h.gx0) _,h.gx0,h.g0,h.room,hv,h.lens⟩,hn⟩;rw [List.length_append,zJS,zD1];exact zBx hown (fun e=>hne gx e rfl) 1 _
end
def zHn(R:List Rw×Bool)(w:World)(e:Ending)(w':World):Prop:=Below w.heap.size w w'∧(R.2=false→e= .returned (.tuple #[.slice none 0 0,.int .i64 280]))∧
     (R.2=true→∃v p,e= .returned (.tuple #[v,.int .i64 0])∧p.map (·.1)=R.1∧RwIn p∧Rws (fun b=>w.heap.size≤b∧b<w'.heap.size) w' v p)
theorem zGh(S:Nat→Prop)(v0:Value)(l:List UInt8)(w:World)(hl:l.length≤1099511627776)(hb:Bs S w v0 l):
 Calls Tryz.prog 12 #[v0] w (zHn (zHe l) w):=by
 obtain⟨R,hR⟩:∃R,zHe l=R:=⟨_,rfl⟩;have HP:Hid (((z3B (z0I l 0 100).1 (z0I l 0 100).2 []).1,z1P (z3B (z0I l 0 100).1 (z0I l 0 100).2 []).2.1 (z3B (z0I l 0 100).1 (z0I l 0 100).2 []).2.2==0&&z1R (z3B (z0I l 0 100).1 (z0I l 0 100).2 []).1)=R):=by rw [Hid,←hR];rfl
 rw [hR];clear hR;have HBS:=zz hb;obtain⟨A0,c0,rfl,-⟩:=hb.at;clear hb;go_enter Tryz.func12,Tryz.ntmps12
 go_wp2_with fail
 refine(z8S _ _ l w hl HBS.out).mono ?_;rintro e w2 ⟨g,rfl,hg2,hr2,hbl2⟩;have HR2:=zz hr2;have HB2:=zz hbl2;have hB2:=hbl2.size;have hgl:g<w2.heap.size:=hr2.lt;clear hr2 hbl2 HBS;go_wp2_with fail
 refine(z4e g w.heap.size l 0 100 w2 HR2.out hB2 hl (by omega) (by omega)).mono ?_;rintro e w3 ⟨rfl,hr3,hg3⟩;have hbd:=z3z l 0 100 (Nat.zero_le _);rw [show(((100:Nat)):Int)=100 from rfl]at hbd;obtain⟨X,hX⟩:∃X,z0I l 0 100=X:=⟨_,rfl⟩;rw [hX]at hr3 hbd HP;rw [hX];obtain⟨c,s0,e0⟩:=X;simp only at hr3 hbd HP ⊢;have hB3:=hg3.size;have hc100:=hbd.1;have R0:Hid (MgSt w w3 g w.heap.size w2.heap.size (.slice none 0 0) [] s0 e0∧z3B (c-0) (s0,e0) []=z3B c (s0,e0) []):=⟨⟨Rwo.nil _ _,hr3,HB2.out.trans (z0M hg3 (by omega) HB2.out.size),hg2,hgl,by omega,by omega,⟨by simp,fun x hx=>by cases hx⟩,⟨by omega,by omega⟩⟩,rfl⟩;clear hr3 hg3 hX HR2 HB2 hbd;go_wp2_with fail
 go_loopw [7,18] (fun sv iv wr=>∃ (i:Nat) (A:Option Addr) (k c':Nat) (p:RwV) (lr:List UInt8) (er:Nat),sv= .slice A k c'∧iv= .int .i64 (i:Int)∧i≤c∧p.length=i∧Hid (MgSt w wr g w.heap.size w2.heap.size (.slice A k c') p lr er∧z3B (c-i) (lr,er) (p.map (·.1))=z3B c (s0,e0) [])) (fun _ iv _=>c-(intOf iv).toNat)
 case atStart=>exact⟨0,none,0,0,[],s0,e0,rfl,rfl,by omega,rfl,R0⟩
 case round=>
  clear R0;obtain⟨i,A,kk,c',p,lr,er,rfl,rfl,hi,hlen,RR⟩:=hrel;have HST:=zz RR.out.1;have hlo:=RR.out.1.lens;obtain rfl:kk=p.length:=z0V RR.out.1.own.own;by_cases hic:i<c
  ·subst hlen;have HS:=zz ((zDf hic (lr,er) (p.map (·.1))).symm.trans RR.out.2);clear RR;have HT1:=zz (z3a g w.heap.size lr er wr HST.out.rd HST.out.room hlo.1);have hk1:=z4i lr hlo.2;obtain⟨X1,hX1⟩:∃X,z0H lr er=X:=⟨_,rfl⟩;rw [hX1]at HT1 hk1;obtain⟨k,l1,er1⟩:=X1;simp only at HT1 hk1;have HX1:=zz hX1;clear hX1;go_wp2_with fail
   refine HT1.out.mono ?_;rintro e wa ⟨rfl,hra,hga⟩;have hza:=hga.size;have hwr:=HST.out.below.size;have hg0:=HST.out.g0;have hg2:=HST.out.g2;have hb2w:=HST.out.B2w;have hroom:=HST.out.room;have HTA:=zz (zB1 hga);have qa:Below wa.heap.size wa (wa.alloc (.cells #[.string (st k),.slice none 0 0] 46)):=(Below.refl _ _).alloc (Nat.le_refl _) _;have hin0:MgIn wa (wa.alloc (.cells #[.string (st k),.slice none 0 0] 46)) g wa.heap.size w.heap.size k (.slice none 0 0) [] l1 er1:=
    ⟨World.ownsRow_nil _ _ _ 3,Blk.new _ _ _,hra.later qa,(Turn.refl _ _).alloc _,Nat.le_refl _,by omega,by omega,⟨by simp,fun x hx=>by cases hx⟩,by omega⟩
   have HI0:=zz hin0;have hk65:k.length≤65536:=hk1.1;clear hra hga qa hin0 HT1;go_upto_region 7 with(fail)
   generalize hWa:wa.alloc (.cells #[.string (st k),.slice none 0 0] 46)=Wa at*;clear hWa;have hza2:=HI0.out.turn.size;go_wp2_with fail
   refine(z4e g w.heap.size l1 er1 100 Wa HI0.out.rd (by omega) HI0.out.lens.1 (by omega) (by omega)).mono ?_;rintro e wb ⟨rfl,hrb,hgb⟩;have hbd2:=z3z l1 er1 100 HI0.out.lens.2;rw [show(((100:Nat)):Int)=100 from rfl]at hbd2;obtain⟨X2,hX2⟩:∃X,z0I l1 er1 100=X:=⟨_,rfl⟩;rw [hX2]at hrb hbd2;rw [hX2];obtain⟨c2,s2,e2⟩:=X2;simp only at hrb hbd2 ⊢;have HX2:=zz hX2;have hc2:=hbd2.1;have R1:Hid (MgIn wa wb g wa.heap.size w.heap.size k (.slice none 0 0) [] s2 e2∧z1t (c2-0) (s2,e2) []=z1t c2 (s2,e2) []):=⟨HI0.out.read hrb hgb (by have:=HI0.out.lens;omega),rfl⟩;obtain⟨gx,hgx⟩:∃gx,wa.heap.size=gx:=⟨_,rfl⟩;rw [hgx]at R1 ⊢;clear hrb hgb hX2 HI0 hbd2 hza2;go_wp2_with fail
   generalize wr=wo at*;go_loopw [25] (fun jv wr=>∃ (j:Nat) (A2:Option Addr) (c2':Nat) (vs:List Vsn) (lq:List UInt8) (eq:Nat),jv= .int .i64 (j:Int)∧j≤c2∧vs.length=j∧Hid (MgIn wa wr g gx w.heap.size k (.slice A2 vs.length c2') vs lq eq∧z1t (c2-j) (lq,eq) vs=z1t c2 (s2,e2) [])) (fun jv _=>c2-(intOf jv).toNat)
   case atStart=>exact⟨0,none,0,[],s2,e2,rfl,by omega,rfl,R1⟩
   case round=>
    clear R1;obtain⟨j,A2,c2',vs,lq,eq,rfl,hj,hvlen,RJ⟩:=hrel;have HIN:=zz RJ.out.1;have hlq:=RJ.out.1.lens;have hzq:=RJ.out.1.turn.size;by_cases hjc:j<c2
    ·subst hvlen;have HSJ:=zz ((zAV hjc (lq,eq) vs).symm.trans RJ.out.2);clear RJ;have HN1:=zz (zCS g w.heap.size lq eq wr HIN.out.rd (by omega) hlq.1);have hn1:=zHk lq hlq.2;obtain⟨X3,hX3⟩:∃X,z0k lq eq=X:=⟨_,rfl⟩;rw [hX3]at HN1 hn1;obtain⟨t,l3,er3⟩:=X3;simp only at HN1 hn1;have HX3:=zz hX3;clear hX3;go_wp2_with fail
     refine HN1.out.mono ?_;rintro e wc ⟨rfl,hrc,hgc⟩;have HIC:=zz (HIN.out.read hrc hgc (by omega));have hzc:=hgc.size;have HF1:=zz (z9x g w.heap.size l3 er3 wc hrc (by omega) (by omega));have hf1:=zA9 l3 er3 hn1.2.2;obtain⟨X4,hX4⟩:∃X,z1C l3 er3=X:=⟨_,rfl⟩;rw [hX4]at HF1 hf1;obtain⟨f,l4,er4⟩:=X4;simp only at HF1 hf1;have HX4:=zz hX4;have ht64:=hn1.1;clear hX4 hrc hgc HN1 HIN;go_wp2_with fail
     refine HF1.out.mono ?_;rintro e wd ⟨rfl,hrd,hgd⟩;have hl4:l4.length≤1099511627776∧er4≤1000:=by omega
     have HID:=zz (HIC.out.read hrd hgd hl4);have hzd:=hgd.size;have hvl:=HIC.out.vin;clear hrd hgd HF1 HIC;cases f with
     |true=>
      have HRD:Hid (z7F (lq,eq)=(⟨t,[],true⟩,(l4,er4))):=by
       rw [Hid];unfold z7F;simp only [HX3.out,HX4.out,if_true]
      have hVV:([]:List UInt8).length≤65536:=by simp
      have HBV:=zz (Blk.new wd 73 #[.int .u64 (t:Int),.string ⟨#[]⟩,.bool true]);have HIW:=zz (HID.out.alloc (.cells #[.int .u64 (t:Int),.string ⟨#[]⟩,.bool true] 73));clear HID;go_upto_region 10 with(fail)
      generalize hW:wd.alloc (.cells #[.int .u64 (t:Int),.string ⟨#[]⟩,.bool true] 73)=W at*;clear hW;generalize wd.heap.size=gv at*;have hdum:(987654321:Nat)=987654320+1:=rfl;have x1:W.cell? ⟨gx,1,none⟩=some (.slice A2 vs.length c2'):=HIW.out.x.cell 1;have hbv:=HBV.out;have v0:(W).cell? ⟨gv,0,none⟩=some (.int .u64 (t:Int)):=hbv.cell 0;have v1:(W).cell? ⟨gv,1,none⟩=some (.string (st [])):=hbv.cell 1;have v2:(W).cell? ⟨gv,2,none⟩=some (.bool true):=hbv.cell 2;clear hbv;have hvin:VsIn (vs++ [⟨t,[],true⟩]):=⟨by simp;omega,fun x hx=>by
       rcases List.mem_append.1 hx with hx|hx
       ·exact hvl.2 x hx
       ·obtain rfl:=List.mem_singleton.1 hx;exact⟨ht64,hVV⟩⟩
      have HVIN:=zz hvin;have hwl:vs.length+1≤100:=by omega
      clear hvin;go_wp2_with (first|(rw [hdum])|(at_builtin;go_loud (refine z05 _ rfl (.tmp 39) (.tmp 41) zAp rfl (HIW.out.alloc _).own (Sl.newb (S:=fun _=>True) _ _ (zAo ⟨t,[],true⟩) (by simp) trivial) rfl rfl (by intro y hy;simp [zAo]at hy;rcases hy with rfl|rfl|rfl<;>rfl) (by simp only [maxLen];omega) (by omega) (by have:=HIW.out.turn.size;simp;omega) ?_);intro A5 k5 c5 w5 hown5 hg5 hat5;obtain⟨hx5,hi5,rfl⟩:=HIW.out.push hown5 hg5 HVIN.out;have p1:w5.cell? ⟨gx,1,none⟩=some (.slice A2 vs.length c2'):=hx5.cell 1;have f1:w5.frozen? ⟨gx,1,none⟩=false:=hx5.free 1))
      have hstp:=HSJ.out;rw [HRD.out]at hstp;have RF:Hid (MgIn wa (w5.setCell ⟨gx,1,none⟩ (.slice A5 (vs.length+1) c5)) g gx w.heap.size k (.slice A5 (vs++ [(⟨t,[],true⟩:Vsn)]).length c5) (vs++ [⟨t,[],true⟩]) l4 er4∧z1t (c2-(vs.length+1)) (l4,er4) (vs++ [⟨t,[],true⟩])=z1t c2 (s2,e2) []):=⟨by rw [List.length_append];exact hi5,hstp⟩;clear hi5 hown5 hg5 hat5 hstp HIW HBV HRD HSJ hx5 p1 f1;go_wp2_with fail
      go_roundw
      case rel=>exact⟨vs.length+1,A5,c5,_,_,_,by go_num,by omega,by simp,RF⟩
      case measure=>simp [intOf];omega
     |false=>
      have HT3:∀ (W:World),Rd W g w.heap.size l4 er4→w.heap.size≤W.heap.size→_:=fun W h1 h2=>z3a g w.heap.size l4 er4 W h1 h2 hl4.1
      have hk3:=z4i l4 hl4.2;obtain⟨X5,hX5⟩:∃X,z0H l4 er4=X:=⟨_,rfl⟩;rw [hX5]at HT3 hk3;obtain⟨v,l5,er5⟩:=X5;simp only at HT3 hk3;have HT3:=zz HT3;have HRD:Hid (z7F (lq,eq)=(⟨t,v,false⟩,(l5,er5))):=by
       rw [Hid];unfold z7F;simp only [HX3.out,HX4.out,hX5,Bool.false_eq_true,if_false]
      have hVV:v.length≤65536:=hk3.1;have HBX:=zz (Blk.new wd 73 #[.int .u64 (t:Int),.string ⟨#[]⟩,.bool false]);have HIX:=zz (HID.out.alloc (.cells #[.int .u64 (t:Int),.string ⟨#[]⟩,.bool false] 73));have HNO:Hid ((Value.slice A2 vs.length c2').ownBlock≠some wd.heap.size):=fun e=>by
       have:=(HID.out.own.lt _ e).2;omega
      have hgvw:wa.heap.size≤wd.heap.size:=HID.out.turn.size;have hsw:wd.heap.size≤(wd.alloc (.cells #[.int .u64 (t:Int),.string ⟨#[]⟩,.bool false] 73)).heap.size:=by simp
      clear HID hX5;go_upto_region 10 with(fail)
      generalize hW:wd.alloc (.cells #[.int .u64 (t:Int),.string ⟨#[]⟩,.bool false] 73)=Wx at*;clear hW;generalize wd.heap.size=gv at*;have v2:Wx.cell? ⟨gv,2,none⟩=some (.bool false):=HBX.out.cell 2;go_wp2_with fail
      refine(HT3.out Wx HIX.out.rd (by omega)).mono ?_;rintro e we ⟨rfl,hre,hge⟩;have hie:=HIX.out.read hre hge (by omega);have hbe:=HBX.out.turn (zB1 hge) (by omega);have f1:=hbe.free 1;have f9:we.cell? ⟨gv,1,none⟩=some (.string ⟨#[]⟩):=hbe.cell 1;have HBV:Hid (Blk (we.setCell ⟨gv,1,none⟩ (.string (st v))) gv 73 #[.int .u64 (t:Int),.string (st v),.bool false]):=hbe.put 1 _;have HIW:=zz (hie.put hbe (by omega) HNO.out 1 (.string (st v)));clear HBX HIX HNO hre hge hie hbe HT3 v2;obtain⟨W,hW2⟩:∃W,we.setCell ⟨gv,1,none⟩ (.string (st v))=W:=⟨_,rfl⟩;rw [hW2]at HBV HIW;have x1:W.cell? ⟨gx,1,none⟩=some (.slice A2 vs.length c2'):=HIW.out.x.cell 1;have hbv:=HBV.out;have v0:(W).cell? ⟨gv,0,none⟩=some (.int .u64 (t:Int)):=hbv.cell 0;have v1:(W).cell? ⟨gv,1,none⟩=some (.string (st v)):=hbv.cell 1;have v2:(W).cell? ⟨gv,2,none⟩=some (.bool false):=hbv.cell 2;clear hbv;have hvin:VsIn (vs++ [⟨t,v,false⟩]):=⟨by simp;omega,fun x hx=>by
       rcases List.mem_append.1 hx with hx|hx
       ·exact hvl.2 x hx
       ·obtain rfl:=List.mem_singleton.1 hx;exact⟨ht64,hVV⟩⟩
      have HVIN:=zz hvin;have hwl:vs.length+1≤100:=by omega
      clear hvin;go_wp2_with (first|(rw [hW2])|(at_builtin;go_loud (refine z05 _ rfl (.tmp 39) (.tmp 41) zAp rfl (HIW.out.alloc _).own (Sl.newb (S:=fun _=>True) _ _ (zAo ⟨t,v,false⟩) (by simp) trivial) rfl rfl (by intro y hy;simp [zAo]at hy;rcases hy with rfl|rfl|rfl<;>rfl) (by simp only [maxLen];omega) (by omega) (by have:=HIW.out.turn.size;simp;omega) ?_);intro A5 k5 c5 w5 hown5 hg5 hat5;obtain⟨hx5,hi5,rfl⟩:=HIW.out.push hown5 hg5 HVIN.out;have p1:w5.cell? ⟨gx,1,none⟩=some (.slice A2 vs.length c2'):=hx5.cell 1;have f1:w5.frozen? ⟨gx,1,none⟩=false:=hx5.free 1))
      have hstp:=HSJ.out;rw [HRD.out]at hstp;have RF:Hid (MgIn wa (w5.setCell ⟨gx,1,none⟩ (.slice A5 (vs.length+1) c5)) g gx w.heap.size k (.slice A5 (vs++ [(⟨t,v,false⟩:Vsn)]).length c5) (vs++ [⟨t,v,false⟩]) l5 er5∧z1t (c2-(vs.length+1)) (l5,er5) (vs++ [⟨t,v,false⟩])=z1t c2 (s2,e2) []):=⟨by rw [List.length_append];exact hi5,hstp⟩;clear hi5 hown5 hg5 hat5 hstp HIW HBV HRD HSJ hx5 p1 f1;go_wp2_with fail
      go_roundw
      case rel=>exact⟨vs.length+1,A5,c5,_,_,_,by go_num,by omega,by simp,RF⟩
      case measure=>simp [intOf];omega
    ·subst hvlen;obtain rfl:c2=vs.length:=by omega
     have hE:=RJ.out.2;rw [Nat.sub_self,z1t]at hE;have HE:=zz hE;have HRW:Hid (zIU (lr,er)=(⟨k,vs⟩,(lq,eq))):=by
      rw [Hid];unfold zIU;simp only [HX1.out,HX2.out,←hE]
     have hxq:=HIN.out.x;have g0':wr.cell? ⟨gx,0,none⟩=some (.string (st k)):=hxq.cell 0;have g1':wr.cell? ⟨gx,1,none⟩=some (.slice A2 vs.length c2'):=hxq.cell 1;have tw:Turn (fun b=>b=g) wo wr:=HTA.out.trans HIN.out.turn fun b hb=> .inl hb
     have hro:Rwo wr w2.heap.size (.slice A p.length c') p:=HST.out.own.turn tw fun b h1 h2=>by omega
     have HRO:=zz hro;have HU:Hid (Vs (fun b=>w2.heap.size≤b∧b<wr.heap.size∧(Value.slice A p.length c').ownBlock≠some b) wr (.slice A2 vs.length c2') vs):=by
      refine(Sl.of_own (by omega) HIN.out.own).more fun b hb=>⟨by omega,hb.2,fun e=> ?_⟩
      have:=(HST.out.own.own.lt b e).2;omega
     have hpl:p.length+1≤100:=by omega
     have HSZ:Hid (w2.heap.size≤wr.heap.size):=by rw [Hid];omega
     clear hE RJ tw hro hxq;go_wp2_with (at_builtin;go_loud (refine z05 _ rfl (.tmp 45) (.tmp 47) z74 rfl (HRO.out.later ((Below.refl _ _).alloc (Nat.le_refl _) _)).own (Sl.newb (S:=fun _=>True) _ _ [.string (st k),.slice A2 vs.length c2'] (by simp) trivial) rfl rfl (by intro y hy;simp at hy;rcases hy with rfl|rfl<;>rfl) (by simp only [maxLen];omega) (by omega) (by have:=HSZ.out;simp;omega) ?_);intro A5 k5 c5 w5 hown5 hg5 hat5)
     obtain rfl:k5=p.length+1:=z0V hown5;have hro5:Rwo w5 w2.heap.size (.slice A5 (p.length+1) c5) (p++ [(⟨k,vs⟩,.slice A2 vs.length c2')]):=HRO.out.step HSZ.out hown5 hg5 hat5 HU.out;have hzb:wr.heap.size≤w5.heap.size:=by have:=hg5.size;simp at this;omega
     have hbq:Below w.heap.size w wr:=Turn.below HST.out.below (HTA.out.trans HIN.out.turn fun b hb=> .inl hb) (by omega) fun b hb=>by omega
     have hb5:Below w.heap.size w w5:=z02 (hbq.alloc hbq.size _) (zCZ (HRO.out.later ((Below.refl _ _).alloc (Nat.le_refl _) _)).own hB2) hg5 (by simp;omega);have hr5:Rd w5 g w.heap.size lq eq:=(HIN.out.rd.later ((Below.refl _ _).alloc (Nat.le_refl _) _)).keptE (HRO.out.later ((Below.refl _ _).alloc (Nat.le_refl _) _)).own hg5 (by decide) (by decide);have hstp:=HS.out;rw [HRW.out]at hstp;have RF:Hid (MgSt w w5 g w.heap.size w2.heap.size (.slice A5 (p.length+1) c5) (p++ [(⟨k,vs⟩,.slice A2 vs.length c2')]) lq eq∧z3B (c-(p.length+1)) (lq,eq) ((p++ [((⟨k,vs⟩:Rw),Value.slice A2 vs.length c2')]).map (·.1))=z3B c (s0,e0) []):=
      ⟨⟨hro5,hr5,hb5,hg0,hg2,by omega,by omega,⟨by simp;omega,fun x hx=>by
        rcases List.mem_append.1 hx with hx|hx
        ·exact HST.out.rin.2 x hx
        ·obtain rfl:=List.mem_singleton.1 hx;exact⟨hk65,HIN.out.vin⟩⟩,HIN.out.lens⟩,by rw [List.map_append];exact hstp⟩
     clear hro5 hr5 hb5 hbq hown5 hg5 hat5 hstp HRO HU HST HIN HS HRW HE HX1 HX2 HTA HSZ;go_wp2_with fail
     go_roundw
     case rel=>exact⟨p.length+1,A5,p.length+1,c5,_,_,_,rfl,by go_num,by omega,by simp,RF⟩
     case measure=>simp [intOf];omega
  ·subst hlen;obtain rfl:c=p.length:=by omega
   have hE:=RR.out.2;rw [Nat.sub_self,z3B]at hE;have HE:=zz hE;have hB2':=HST.out.own.rws;have HRW:=zz (HST.out.own.rws);clear hE RR hB2';have hP:=HP.out;rw [←HE.out]at hP;simp only at hP;clear HE HP;have hcase:z1P lr er=0∨z1P lr er≠0:=by omega
   go_wp2_with fail
   refine(zE8 g w.heap.size lr er wr HST.out.rd hlo.1).mono ?_;rintro e w7 ⟨rfl,rfl⟩;by_cases hz:z1P lr er=0
   ·rw [hz]at hP ⊢;have HM:=zz (z9S _ _ p _ HRW.out HST.out.rin.mild);cases hok:z1R (p.map (·.1))with
    |true=>
     rw [hok]at hP HM;subst hP;clear hcase hz;go_wp2_with fail
     refine HM.out.mono ?_;rintro e w8 ⟨rfl,hb8⟩;have HB8:=zz hb8;clear HM hb8;go_wp2_with fail
     go_ret2
     have hz8:=HB8.out.size;have hzw:=HST.out.below.size;refine⟨HST.out.below.trans (HB8.out.mono hzw),fun h=>(by cases h),fun _=>⟨_,p,rfl,rfl,HST.out.rin,(HRW.out.below HB8.out fun b hb=>hb.2).more fun b hb=>⟨by omega,by omega⟩⟩⟩
    |false=>
     rw [hok]at hP HM;subst hP;clear hcase hz;go_wp2_with fail
     refine HM.out.mono ?_;rintro e w8 ⟨rfl,hb8⟩;have HB8:=zz hb8;clear HM hb8;go_wp2_with fail
     go_ret2
     exact⟨HST.out.below.trans (HB8.out.mono HST.out.below.size),fun _=>rfl,fun h=>(by cases h)⟩
   ·have hzb:(z1P lr er==0)=false:=by simpa using hz
    rw [hzb]at hP;subst hP;obtain⟨z,hz0⟩:∃z,z1P lr er=z:=⟨_,rfl⟩;rw [hz0]at hz ⊢;have hz1:(((z:Nat):Int) != 0)=true:=by simp;omega
    clear hcase hz0 hzb;go_wp2_with fail
    go_ret2
    exact⟨HST.out.below,fun _=>rfl,fun h=>(by cases h)⟩
end
section
open Go.ChangeShapes Go.WideShapes Go.ChangeAt Go.RowKit Go.Deep
section
variable {H:Type} {P:Program}
theorem z7M{e:TypeId}{ds:List (DataW H)}{d:DataW H}(hd:d∈ds){n:Nat}(hn:n∈d.weights P e):n∈DataW.weightsAll P e ds:=by
 induction ds with
 |nil=>cases hd
 |cons a r ih=>
  rw [DataW.weightsAll,List.mem_append];rcases List.mem_cons.1 hd with rfl|hd
  ·exact .inl hn
  ·exact .inr (ih hd)
def Szd(P:Program)(t:TypeId)(d:DataW H):Prop:=∀n∈d.weights P t,n≤reachBytes
theorem Szd.elem{t e:TypeId}{es sp:List (DataW H)}(ht:P.underlying t=some (.slice e))(h:Szd P t (.slice es sp)){d:DataW H}(hd:d∈es):Szd P e d:=fun n hn=>h n (by
 simp only [DataW.weights,ht];exact List.mem_cons_of_mem _ (List.mem_append_left _ (z7M hd hn)))
theorem Szd.field{t:TypeId}{fs:Array Field}{ps:List (DataW H)}(ht:P.underlying t=some (.struct fs))(h:Szd P t (.agg ps)){j:Nat}{f:Field}{d:DataW H}(hf:fs[j]? =some f)(hd:ps[j]? =some d):Szd P f.type d:=fun n hn=>h n (by
 simp only [DataW.weights,ht];exact DataW.weights_mem_each (j:=j) (by simp [hf]) hd n hn)
theorem Szd.str{t:TypeId}{bs:List UInt8}(h:Szd P t (.lit (.string bs):DataW H)):bs.length≤reachBytes:=h _ (by simp [DataW.weights])
theorem zC8:reachBytes=140737488351232:=by decide
end
section
variable {H:Type} {enc:TypeId×Value→H} {P:Program} {w:World} {base:Nat} {spare:Nat→Bool} {held:Bool}
theorem z6m{w:World}{a:Addr}{v:Value}(h:w.cell? a=some v):a.spot=none∧a.block<w.heap.size:=by
 refine⟨?_,World.block_lt_of_cell? w _ h⟩;obtain⟨ab,ao,asp⟩:=a;cases asp with
 |none=>rfl
 |some z=>
  unfold World.cell? at h
  split at h
  ·simp at h
  ·cases h
end
def RwArg(w:World)(v:Value)(p:RwV):Prop:=Rws (fun b=>b<w.heap.size) w v p∧∀x∈p,x.1.k.length≤140737488351232∧∀y∈x.1.vs,y.t<U64∧y.v.length≤140737488351232
section
variable {H:Type} {enc:TypeId×Value→H} {P:Program} {w:World} {base:Nat} {spare:Nat→Bool} {held:Bool}
theorem zCq{t e:TypeId}{f0 f1 f2:Field}{v:Value}{fuel:Nat}{x:DataW H×List MemPlace}(ht:P.underlying t=some (.slice e))(he:P.underlying e=some (.struct #[f0,f1,f2]))(hone:oneCellFields P #[f0,f1,f2]=true)(hC:P.cellsOf e=3)
 (h0:P.underlying f0.type=some (.int .u64)) (h1:P.underlying f1.type=some .string) (h2:P.underlying f2.type=some .bool) (hf:DataW.trod enc P w base spare held fuel t [v]=some x) (hz:Szd P t x.1):
 ∃l:List Vsn,(∀y∈l,y.t<U64∧y.v.length≤140737488351232)∧Vs (fun b=>b<w.heap.size) w v l:=by
 rcases z2p ht he hone (by simpa using hC) hf with⟨hc,_⟩|⟨a,len,cap,m,D,Pl,hcs,_,hl,hcm,hm,hxx,hi⟩
 ·have hv:v= .slice none 0 0:=by simpa using hc
  subst hv;exact⟨[],fun y hy=>(by cases hy),Sl.nil⟩
 ·have hlm:len≤m:=by rw [hm];split<;>omega
  have hva:v= .slice (some a) len cap:=by simpa using hcs
  subst hva;have hxd:x.1= .slice ((List.range len).map D) ((List.range (m-len)).map fun j=>D (len+j)):=congrArg Prod.fst hxx;rw [hxd]at hz;have key:∀i,i<len→∃y:Vsn,(y.t<U64∧y.v.length≤140737488351232)∧w.cell? (a.add (i*3))=some (.int .u64 (y.t:Int))∧w.cell? (a.add (i*3+1))=some (.string (st y.v))∧w.cell? (a.add (i*3+2))=some (.bool y.gone):=by
   intro i hil;obtain⟨ys,n,hD,_,_,hfs⟩:=hi i (by omega);have hzi:Szd P e (D i):=Szd.elem ht hz (List.mem_map.2 ⟨i,List.mem_range.2 hil,rfl⟩);rw [hD]at hzi;obtain⟨v0,y0,c0,_,t0⟩:=hfs 0 f0 rfl;obtain⟨v1,y1,c1,hy1,t1⟩:=hfs 1 f1 rfl;obtain⟨v2,y2,c2,_,t2⟩:=hfs 2 f2 rfl;obtain⟨xi,e0,_,b0⟩:=DataW.trod_int h0 t0;obtain⟨xs,e1,z1,_⟩:=DataW.trod_string h1 t1;obtain⟨xb,e2,_⟩:=DataW.trod_bool h2 t2;obtain rfl:v0=_:=by simpa using e0
   obtain rfl:v1=_:=by simpa using e1
   obtain rfl:v2=_:=by simpa using e2
   obtain⟨cn,rfl,hcn⟩:=zIx b0;have s1:Szd P f1.type y1.1:=Szd.field he hzi (j:=1) rfl (by simp [hy1]);rw [z1]at s1;have l1:=s1.str;rw [zC8]at l1;exact⟨⟨cn,xs.data.toList,xb⟩,⟨hcn,l1⟩,by simpa using c0,by rw [st_of];simpa using c1,by simpa using c2⟩
  have hll:((List.range len).map fun i=>if h:i<len then(key i h).choose else(⟨0,[],false⟩:Vsn)).length=len:=by simp
  refine⟨(List.range len).map fun i=>if h:i<len then(key i h).choose else(⟨0,[],false⟩:Vsn),?_,?_⟩
  ·intro y hy;obtain⟨i,hi',rfl⟩:=List.mem_map.1 hy;have hil:=List.mem_range.1 hi';simp only [hil,dite_true];exact(key i hil).choose_spec.1
  ·unfold Vs;rw [hll];refine⟨by rw [zF1,hll],some a,cap,rfl,hl,hcm,(fun h=>by cases h),fun hl0=> ?_⟩;obtain⟨x0,_,hc0,_⟩:=key 0 hl0;obtain⟨ab,ao,asp⟩:=a;obtain⟨hsp,hblt⟩:=z6m hc0;simp [Addr.add]at hsp hblt;subst hsp;refine⟨ab,ao,rfl,hblt,fun j u hu=> ?_⟩;have hjl:j<len*3:=by
    have:=(List.getElem?_eq_some_iff.1 hu).1;rw [zF1,hll]at this;exact this
   have hq:j / 3<len:=by omega
   have hk:=(key (j / 3) hq).choose_spec.2;have hat:=zE5 (l:=(List.range len).map fun i=>if h:i<len then(key i h).choose else(⟨0,[],false⟩:Vsn)) (j:=j / 3) (by rw [hll];exact hq);simp only [List.getElem_map,List.getElem_range,hq,dite_true]at hat;generalize (key (j / 3) hq).choose=y at hk hat;simp only [z0U]at hk;have hmod:j=j / 3*3∨j=j / 3*3+1∨j=j / 3*3+2:=by omega
   rcases hmod with h|h|h
   ·rw [h]at hu ⊢;rw [hat.1]at hu;injection hu with hu
    rw [←hu];exact hk.1
   ·rw [h]at hu ⊢;rw [hat.2.1]at hu;injection hu with hu
    rw [←hu];exact hk.2.1
   ·rw [h]at hu ⊢;rw [hat.2.2]at hu;injection hu with hu
    rw [←hu];exact hk.2.2
theorem zFP{r:Reach}{b0:Nat}{t e ts es:TypeId}{f0 f1 g0 g1 g2:Field}{v:Value}{d:DataW H}{ps:List MemPlace}(ht:P.underlying t=some (.slice e))(he:P.underlying e=some (.struct #[f0,f1]))(hone:oneCellFields P #[f0,f1]=true)(hC:P.cellsOf e=2)
 (h0:P.underlying f0.type=some .string) (h1:f1.type=ts) (hts:P.underlying ts=some (.slice es)) (hes:P.underlying es=some (.struct #[g0,g1,g2])) (hones:oneCellFields P #[g0,g1,g2]=true) (hCs:P.cellsOf es=3)
 (k0:P.underlying g0.type=some (.int .u64)) (k1:P.underlying g1.type=some .string) (k2:P.underlying g2.type=some .bool) (hval:Value.okWide P w r b0 t v) (h:DataW.Trod enc P w base spare held t v d ps) (hz:Szd P t d):∃p:RwV,RwArg w v p:=by
 subst h1;obtain⟨fuel,hf⟩:=h;obtain⟨a',len',cap',rfl⟩:=okWide_slice ht hval;rcases z2p ht he hone (by simpa using hC) hf with⟨hc,_⟩|⟨a,len,cap,m,D,Pl,hcs,_,hl,hcm,hm,hxx,hi⟩
 ·obtain⟨rfl,rfl,rfl⟩:a'=none∧len'=0∧cap'=0:=by simpa [Value.cells]using hc
  exact⟨[],⟨Sl.nil,fun x hx=>(by cases hx)⟩,fun x hx=>(by cases hx)⟩
 ·have hlm:len≤m:=by rw [hm];split<;>omega
  have hxd:d= .slice ((List.range len).map D) ((List.range (m-len)).map fun j=>D (len+j)):=congrArg Prod.fst hxx;rw [hxd]at hz;have key:∀i,i<len→∃y:Rw×Value,(y.1.k.length≤140737488351232∧(∀q∈y.1.vs,q.t<U64∧q.v.length≤140737488351232)∧Vs (fun b=>b<w.heap.size) w y.2 y.1.vs)∧w.cell? (a.add (i*2))=some (.string (st y.1.k))∧w.cell? (a.add (i*2+1))=some y.2:=by
   intro i hil;obtain⟨ys,n,hD,_,_,hfs⟩:=hi i (by omega);have hzi:Szd P e (D i):=Szd.elem ht hz (List.mem_map.2 ⟨i,List.mem_range.2 hil,rfl⟩);rw [hD]at hzi;obtain⟨v0,y0,c0,hy0,t0⟩:=hfs 0 f0 rfl;obtain⟨v1,y1,c1,hy1,t1⟩:=hfs 1 f1 rfl;obtain⟨xs,e0,z0,_⟩:=DataW.trod_string h0 t0;obtain rfl:v0=_:=by simpa using e0
   have s0:Szd P f0.type y0.1:=Szd.field he hzi (j:=0) rfl (by simp [hy0]);rw [z0]at s0;have l0:=s0.str;rw [zC8]at l0;have s1:Szd P f1.type y1.1:=Szd.field he hzi (j:=1) rfl (by simp [hy1]);obtain⟨l,hwd,hvs⟩:=zCq hts hes hones hCs k0 k1 k2 t1 s1;exact⟨(⟨xs.data.toList,l⟩,v1),⟨l0,hwd,hvs⟩,by rw [st_of];simpa using c0,by simpa using c1⟩
  obtain⟨rfl,rfl,rfl⟩:a'=some a∧len'=len∧cap'=cap:=by simpa [Value.cells]using hcs
  have hll:((List.range len').map fun i=>if h:i<len' then(key i h).choose else((⟨[],[]⟩,.slice none 0 0):Rw×Value)).length=len':=by simp
  refine⟨(List.range len').map fun i=>if h:i<len' then(key i h).choose else((⟨[],[]⟩,.slice none 0 0):Rw×Value),⟨?_,?_⟩,?_⟩
  ·rw [hll];refine⟨by rw [zBt,hll],some a,cap',rfl,hl,hcm,(fun h=>by cases h),fun hl0=> ?_⟩;obtain⟨x0,_,hc0,_⟩:=key 0 hl0;obtain⟨ab,ao,asp⟩:=a;obtain⟨hsp,hblt⟩:=z6m hc0;simp [Addr.add]at hsp hblt;subst hsp;refine⟨ab,ao,rfl,hblt,fun j u hu=> ?_⟩;have hjl:j<len'*2:=by
    have:=(List.getElem?_eq_some_iff.1 hu).1;rw [zBt,hll]at this;exact this
   have hq:j / 2<len':=by omega
   have hk:=(key (j / 2) hq).choose_spec.2;have hat:=zBY (l:=(List.range len').map fun i=>if h:i<len' then(key i h).choose else((⟨[],[]⟩,.slice none 0 0):Rw×Value)) (j:=j / 2) (by rw [hll];exact hq);simp only [List.getElem_map,List.getElem_range,hq,dite_true]at hat;generalize (key (j / 2) hq).choose=y at hk hat;simp only [z0U]at hk;have hmod:j=j / 2*2∨j=j / 2*2+1:=by omega
   rcases hmod with h|h
   ·rw [h]at hu ⊢;rw [hat.1]at hu;injection hu with hu
    rw [←hu];exact hk.1
   ·rw [h]at hu ⊢;rw [hat.2]at hu;injection hu with hu
    rw [←hu];exact hk.2
  ·intro y hy;obtain⟨i,hi',rfl⟩:=List.mem_map.1 hy;have hil:=List.mem_range.1 hi';simp only [hil,dite_true];exact(key i hil).choose_spec.1.2.2
  ·intro y hy;obtain⟨i,hi',rfl⟩:=List.mem_map.1 hy;have hil:=List.mem_range.1 hi';simp only [hil,dite_true];exact⟨(key i hil).choose_spec.1.1,(key i hil).choose_spec.1.2.1⟩
end
end
section
open Go Go.RowKit
theorem zHE{p:RwV}(h:zEJ (p.map (·.1))=true):Mild p∧p.length≤110:=by
 unfold zEJ at h;rw [Bool.and_eq_true,decide_eq_true_eq,List.length_map,List.all_eq_true]at h;refine⟨⟨by omega,fun x hx=> ?_⟩,h.1⟩;have h1:=h.2 x.1 (List.mem_map.2 ⟨x,hx,rfl⟩);unfold zDq at h1;simp only [Bool.and_eq_true,decide_eq_true_eq,List.all_eq_true]at h1;exact⟨by omega,by omega,fun y hy=>by have:=h1.2 y hy;omega⟩
theorem zFo{S:Nat→Prop}{w:World}{v:Value}{p:RwV}(h:Rws S w v p):∀y∈z5x p,y.oneCell'=true:=fun y hy=>by
 obtain⟨x,hx,hy⟩:=List.mem_flatMap.1 hy;simp only [List.mem_cons,List.not_mem_nil,or_false]at hy;rcases hy with rfl|rfl
 ·rfl
 ·obtain⟨A,c,hv,-⟩:=Vs.at (h.vs x hx);rw [hv];rfl
theorem law_MovePuts(v0:Value)(p:RwV)(w:World)(hb:BitsOk w)(ha:RwArg w v0 p):
 Calls Tryz.prog 3 #[v0] w fun e w'=>e= .returned (.bool true)∧Below w.heap.size w w':=by
 obtain⟨hr,hs⟩:=ha;have HB:=zz hb;have HF:=zz (zE2 _ v0 p w hr fun x hx=>by have:=hs x hx;exact⟨by omega,fun y hy=>by have:=(this.2 y hy).2;omega⟩);have HR:=zz hr;have ht:∀x∈p,∀y∈x.1.vs,y.t<U64:=fun x hx y hy=>((hs x hx).2 y hy).1
 have HT:=zz ht;obtain⟨A0,c0,rfl,-⟩:=hr.at;clear hb hr hs ht;cases hfw:zEJ (p.map (·.1))with
 |false=>
  rw [hfw]at HF;clear HR HT hfw;go_enter Tryz.func3,Tryz.ntmps3
  go_wp2_with fail
  refine HF.out.mono ?_;rintro e w1 ⟨rfl,hb1⟩;have HB1:=zz (HB.out.later hb1);go_wp2_with fail
  refine(z4I w1 HB1.out).mono ?_;rintro e w2 ⟨rfl,hb2⟩;go_wp2_with fail
  go_ret
  exact⟨rfl,hb1.trans (hb2.mono hb1.size)⟩
 |true=>
  rw [hfw]at HF;obtain⟨hmild,h110⟩:=zHE hfw;have HM:=zz hmild;clear hfw hmild;go_enter Tryz.func3,Tryz.ntmps3
  go_wp2_with fail
  refine HF.out.mono ?_;rintro e w1 ⟨rfl,hb1⟩;have hq1:=hb1;have HR1:=zz (HR.out.later hb1);have hz1:=hb1.size;have HO1:=zz (zFo HR.out);have HSL:Hid (∀o,Sl (fun _=>True) (w1.alloc o) 2 (.slice A0 p.length c0) p.length (z5x p)):=fun o=>(Sl.below HR1.out.sl ((Below.refl _ _).alloc (Nat.le_refl _) o) fun b hb=>hb).more fun _ _=>trivial
  have HQ1:=zz hq1;clear HF hb1 HR hq1;go_wp2_with (at_builtin;go_loud (refine z05 _ rfl (.tmp 12) (.tmp 13) z74 rfl (World.ownsRow_made w1 #[] 0 (base:=w.heap.size) hz1 (by simp [maxLen]) (by simp)) (HSL.out _) rfl rfl HO1.out (by simp only [maxLen];omega) (by omega) (by simp;omega) ?_);intro A5 k5 c5 w5 hown5 hg5 hat5)
  have hk5:=z0V hown5;obtain rfl:k5=p.length:=by omega
  have hbw:Below w1.heap.size w1 w5:=Turn.below ((Below.refl w1.heap.size w1).alloc (Nat.le_refl _) _) (Turn.of_grown (F:=fun b=>b=w1.heap.size) hg5 (fun z hz=>(Option.some.inj hz).symm)) (by simp) (fun b hb=>by omega);have HP5:Hid (Rws (fun b=>b<w5.heap.size) w5 (.slice A5 p.length c5) p):=by
   have h1:w5.ownsRow w.heap.size 46 2 (.slice A5 p.length c5) p.length (z5x p):=by
    have h:=hown5;rw [Nat.zero_add,List.nil_append]at h;exact h
   exact⟨(Sl.of_own (by omega) h1).more fun b h=>h.2,fun x hx=>(Sl.below (HR1.out.vs x hx) hbw fun b h=>h).more fun b h=>Nat.lt_of_lt_of_le h hbw.size⟩
  have HR5:=zz (HR1.out.later hbw);have HQ5:=zz (HQ1.out.trans (hbw.mono HQ1.out.size));clear hown5 hg5 hat5 hk5 hbw HSL HO1 HR1 HQ1 hz1;go_wp2_with fail
  refine(zBf _ _ p w5 HP5.out HM.out HT.out).mono ?_;rintro e w6 ⟨hb6,hno,hyes⟩;have HR6:=zz (HR5.out.later hb6);have HQ6:=zz (HQ5.out.trans (hb6.mono HQ5.out.size));have HRR:=zz (zBT _ _ p w6 HR6.out HM.out);clear hb6 HR5 HP5 HQ5;cases hok:z1R (p.map (·.1))with
  |false=>
   obtain rfl:=hno hok;rw [hok]at HRR;clear hno hyes hok HT HM;go_wp2_with fail
   refine HRR.out.mono ?_;rintro e w7 ⟨rfl,hb7⟩;have HQ7:=zz (HQ6.out.trans (hb7.mono HQ6.out.size));clear hb7 HRR HQ6 HR6;go_wp2_with fail
   refine(z4I w7 (HB.out.later HQ7.out)).mono ?_;rintro e w8 ⟨rfl,hb8⟩;have HQ8:=zz (HQ7.out.trans (hb8.mono HQ7.out.size));clear hb8;go_wp2_with fail
   go_ret
   exact⟨rfl,HQ8.out⟩
  |true=>
   obtain⟨A6,k6,c6,rfl,hown6⟩:=hyes hok;rw [hok]at HRR;have hin:RwsIn p:=⟨hok,HT.out⟩;have HIN:=zz hin;have HBS:=zz ((Sl.lt hown6.bs (by omega)).more (S':=fun b=>b<w6.heap.size) fun b h=>h.2);have hlen:(z47 (p.map (·.1))).length≤4000000:=by
    unfold z47;rw [z4r,List.length_map,List.length_append];have h1:=z4l hin p.length;rw [List.take_length]at h1;have h2:(z0A p.length).length≤10:=z06 (by unfold U64;omega);omega
   have hF:=zCj hok (fun r hr y hy=>by
    obtain⟨x,hx,rfl⟩:=List.mem_map.1 hr;exact HT.out x hx y hy)
   obtain⟨R,hRB⟩:∃R,z47 (p.map (·.1))=R:=⟨_,rfl⟩;rw [hRB]at HBS hlen hF;have HRB:=zz hRB;have HFF:=zz hF;clear hno hyes hok hown6 hin hRB hF;go_wp2_with fail
   refine HRR.out.mono ?_;rintro e w7 ⟨rfl,hb7⟩;have HQ7:=zz (HQ6.out.trans (hb7.mono HQ6.out.size));have HR7:=zz (HR6.out.later hb7);have HB7:=zz ((Sl.below HBS.out hb7 fun b h=>h).more (S':=fun b=>b<w7.heap.size) fun b h=>Nat.lt_of_lt_of_le h hb7.size);clear hb7 HRR HQ6 HR6 HBS;go_wp2_with fail
   refine(zGh _ _ R w7 (by omega) HB7.out).mono ?_;rintro e w8 ⟨hb8,-,hget⟩;obtain⟨v8,q8,rfl,hq8,hin8,hr8⟩:=hget (by rw [HFF.out]);rw [HFF.out]at hq8;simp only at hq8;obtain⟨A8,c8,rfl,-⟩:=hr8.at;have HQ8:=zz (HQ7.out.trans (hb8.mono HQ7.out.size));have HB8:=zz ((Sl.below HB7.out hb8 fun b h=>h).more (S':=fun b=>b<w8.heap.size) fun b h=>Nat.lt_of_lt_of_le h hb8.size);have HAW:Hid (∀wg,Below w8.heap.size w8 wg→Calls Tryz.prog 9 #[] wg fun e w'=>e= .returned (.bool true)∧Below wg.heap.size wg w'):=fun wg hwg=>z4I wg (HB.out.later (HQ8.out.trans (hwg.mono HQ8.out.size)))
   have HR8:=HR7.out.later hb8;have HPT:Hid (∀wg,Below w8.heap.size w8 wg→Calls Tryz.prog 13 #[.slice A0 p.length c0] wg fun e w'=>e= .returned (.string (st R))∧Below wg.heap.size wg w'):=fun wg hwg=>by
    rw [←HRB.out];exact zAj _ _ p wg (HR8.later hwg) HIN.out
   have hdec:decide (p.map (·.1)=q8.map (·.1))=true:=by rw [hq8];simp
   have HSM:Hid (∀wg,Below w8.heap.size w8 wg→Calls Tryz.prog 14 #[.slice A0 p.length c0,.slice A8 q8.length c8] wg fun e w'=>e= .returned (.bool true)∧Below wg.heap.size wg w'):=fun wg hwg=>by
    have h1:=zDa _ _ _ _ p q8 wg (HR8.later hwg) (hr8.below hwg fun b h=>h.2);rw [hdec]at h1;exact h1
   clear hb8 hget hq8 hin8 hr8 hdec HR7 HB7 HQ7 HR8;go_wp2_with fail
   refine z01 (by kernel_rfl) (by kernel_rfl) ?_;apply Exists.intro;apply And.intro
   ·repeat(first
     |(apply z04 rfl
       intro K hK;go_simp;refine hK _ ?_;clear hK K)
     |(apply z09 rfl
       ·intro wg hwg _;have hcv6:=z0i (P:=Tryz.prog) (Sl.below HB8.out hwg fun b h=>h) tB tU tS;unfold z07;go_simp
        first
         |exact z00 _ _
         |(exact z0C (HAW.out wg hwg))
         |(exact z0C (HPT.out wg hwg))
         |(exact z0C (HSM.out wg hwg))
       intro K hK;go_simp;refine hK _ ?_;clear hK K))
    refine z08 (fun wg hwg _=> ?_);have HQ9:=zz (HQ8.out.trans (hwg.mono HQ8.out.size));clear hwg;go_wp2_with fail
    go_ret
    exact⟨rfl,HQ9.out⟩
   ·apply And.intro
    ·repeat(first|exact trivial|(refine⟨Stays.is _,?_⟩)|(refine⟨Stays.bs _,?_⟩)|(refine⟨Stays.pg _ _ _,?_⟩))
    ·rfl
end
end Go.Proofs.YtdkobefpnjbgnaaGreatDoor
