/- Part 39. -/
import Derived.Test.YtdkobefpnjbgnaaGreatDoorMovePutsJ38
namespace Go.Proofs.YtdkobefpnjbgnaaGreatDoor
set_option linter.unusedVariables false
set_option maxHeartbeats 16000000
set_option maxRecDepth 100000
section
open Go Go.RowKit
theorem zIr{k:List UInt8}{vs:List Vsn}(h1:1≤k.length)(h2:k.length≤64)(h3:1≤vs.length)(h4:vs.length≤100)(h5:z1h vs=true):z3N ⟨k,vs⟩=vs.all z0R:=by
 unfold z3N;simp only;rw [decide_eq_true (show k≠ []from fun e=>by rw [e]at h1;simp at h1),decide_eq_true h2,decide_eq_true (show vs≠ []from fun e=>by rw [e]at h3;simp at h3),decide_eq_true h4,h5];simp
theorem zAu{r:Rw}(h:z3N r=true):r.k≠ []∧r.k.length≤64∧r.vs≠ []∧r.vs.length≤100∧z1h r.vs=true∧∀x∈r.vs,z0R x=true:=by
 unfold z3N at h;simp only [Bool.and_eq_true,decide_eq_true_eq,List.all_eq_true]at h;obtain⟨⟨⟨⟨⟨a,b⟩,c⟩,d⟩,e⟩,f⟩:=h;exact⟨a,b,c,d,e,f⟩
theorem z6g{k:List UInt8}{vs:List Vsn}(h:k.length<1∨64<k.length∨vs.length<1∨100<vs.length∨z1h vs=false):z3N ⟨k,vs⟩=false:=by
 cases hr:z3N ⟨k,vs⟩with
 |false=>rfl
 |true=>
  obtain⟨a,b,c,d,e,f⟩:=zAu hr;exfalso;simp only at a b c d e;have h1:=List.length_pos_iff.2 a;have h3:=List.length_pos_iff.2 c;rcases h with h|h|h|h|h
  ·omega
  ·omega
  ·omega
  ·omega
  ·rw [h]at e;cases e
theorem zBT(S:Nat→Prop)(v0:Value)(p:RwV)(w:World)(hr:Rws S w v0 p)(hm:Mild p):
 Calls Tryz.prog 11 #[v0] w fun e w'=>e= .returned (.bool (z1R (p.map (·.1))))∧Below w.heap.size w w':=by
 have hR:=zA1 (p:=p);obtain⟨R,hR0⟩:∃R,z1R (p.map (·.1))=R:=⟨_,rfl⟩;rw [hR0]at hR ⊢;clear hR0;have HR:=zz hR;have HV:=zz hr.lt.vs;have HM:=zz hm.2;have hl:=hm.1;obtain⟨A,c,rfl,hlc,hcm,hA0,hA⟩:=hr.lt.at;have HA:=zz hA;clear hA hr hA0 hm hR;go_enter Tryz.func11,Tryz.ntmps11
 go_wp2_with fail
 go_loopw [3] (fun iv wr=>∃i:Nat,iv= .int .i64 (i:Int)∧i≤p.length∧Hid (zES p i∧Below w.heap.size w wr)) (fun iv _=>p.length-(intOf iv).toNat)
 case atStart=>exact⟨0,rfl,by omega,⟨fun m _ h=>by omega,fun m _ h=>by omega⟩,Below.refl _ _⟩
 case round=>
  obtain⟨i,rfl,hi,RR⟩:=hrel;have hbl:=RR.out.2;by_cases hil:i<p.length
  ·obtain⟨b,o,rfl,hbs,hc⟩:=HA.out (by omega);have c0:wr.cell? ⟨b,o+i*2,none⟩=some (.string (st p[i].1.k)):=(hbl.cell (p:=⟨b,o+i*2,none⟩) hbs.2).trans (hc i hil).1;have c1:wr.cell? ⟨b,o+i*2+1,none⟩=some p[i].2:=(hbl.cell (p:=⟨b,o+i*2+1,none⟩) hbs.2).trans (hc i hil).2;have hmi:=HM.out _ (List.getElem_mem hil);have hvi:=HV.out _ (List.getElem_mem hil);have hib:(0:Int)≤(i:Int):=by omega
   have HCC:Hid (∀j,(hj:j<p.length)→wr.cell? ⟨b,o+j*2,none⟩=some (.string (st p[j].1.k))):=fun j hj=>(hbl.cell (p:=⟨b,o+j*2,none⟩) hbs.2).trans (hc j hj).1
   have HTN:Hid (z3N p[i].1=true→(∀j,(e:i=j+1)→Op.bytesLess (p[j]'(by omega)).1.k p[i].1.k=true)→zES p (i+1)):=fun h1 h2=>by
    refine⟨fun m hm hmi=> ?_,fun m hm hmi=> ?_⟩
    ·by_cases e:m=i
     ·subst e;exact h1
     ·exact RR.out.1.1 m hm (by omega)
    ·by_cases e:i=m+1
     ·subst e;exact h2 m rfl
     ·exact RR.out.1.2 m hm (by omega)
   have HF1:Hid (z3N p[i].1=false→R=false):=fun h=>by
    cases R with
    |false=>rfl
    |true=>have:=(HR.out.1 rfl).1.1 i hil hil;rw [h]at this;cases this
   have HF2:Hid (∀j,(e:i=j+1)→Op.bytesLess (p[j]'(by omega)).1.k p[i].1.k=false→R=false):=fun j e h=>by
    subst e;cases R with
    |false=>rfl
    |true=>have:=(HR.out.1 rfl).1.2 j hil hil;rw [h]at this;cases this
   obtain⟨u,hu⟩:∃u,p[i].2=u:=⟨_,rfl⟩;obtain⟨r,hr0⟩:∃r,p[i].1=r:=⟨_,rfl⟩;rw [hu]at c1 hvi;rw [hr0]at c0 hmi hvi HTN HF1 HF2;clear hu hr0;obtain⟨k,vs⟩:=r;simp only at c0 hmi hvi HTN HF1 HF2;obtain⟨A1,c1',rfl,-,-,-,hV⟩:=Vs.at hvi;have HV1:=zz hV;have HMV:=zz hmi.2.2;have hkl:=hmi.1;have hvl:=hmi.2.1;have q3:Below wr.heap.size wr (wr.alloc (.cells #[.string (st k),.slice A1 vs.length c1'] 46)):=(Below.refl _ _).alloc (Nat.le_refl _) _;have hbx:=Blk.new wr 46 #[.string (st k),.slice A1 vs.length c1'];have HBX:=zz (hbl.trans (q3.mono hbl.size));have HCX:Hid (∀j,(hj:j<p.length)→(wr.alloc (.cells #[.string (st k),.slice A1 vs.length c1'] 46)).cell? ⟨b,o+j*2,none⟩=some (.string (st p[j].1.k))):=fun j hj=>cell_later q3 (HCC.out j hj)
   have HCK:Hid (∀wg,Below (wr.alloc (.cells #[.string (st k),.slice A1 vs.length c1'] 46)).heap.size (wr.alloc (.cells #[.string (st k),.slice A1 vs.length c1'] 46)) wg→Calls Tryz.prog 37 #[.slice A1 vs.length c1'] wg fun e w'=>e= .returned (.bool (z1h vs))∧Below wg.heap.size wg w'):=fun wg hwg=>
    zAW _ _ vs wg (Sl.below (Sl.below hvi HBX.out fun b hb=>hb.2) hwg fun b hb=>Nat.lt_of_lt_of_le hb.2 HBX.out.size) (by omega)
   clear hvi hmi hc RR hbl HCC HM HV HA hV;go_wp2_with fail
   generalize hW:wr.alloc (.cells #[.string (st k),.slice A1 vs.length c1'] 46)=W at*;clear hW;have x0:W.cell? ⟨wr.heap.size,0,none⟩=some (.string (st k)):=hbx.cell 0;have x1:W.cell? ⟨wr.heap.size,1,none⟩=some (.slice A1 vs.length c1'):=hbx.cell 1;have HGX:Hid (wr.heap.size<W.heap.size):=hbx.lt;have HBX0:=zz hbx;clear hbx q3 c0 c1;generalize wr.heap.size=gx at*;by_cases h1:k.length<1
   ·have hno:=z6g (k:=k) (vs:=vs) (.inl h1);have e1:decide ((k.length:Int)<1)=true:=by rw [decide_eq_true_eq];omega
    have e2:decide (k.length<1)=true:=decide_eq_true h1;have HE:=zz (HF1.out hno);clear hno HTN HF1 HF2 HCX;refine z01 (by kernel_rfl) (by kernel_rfl) ?_;apply Exists.intro;apply And.intro
    ·repeat(first
      |(apply z04 rfl
        intro K hK;go_simp;refine hK _ ?_;clear hK K)
      |(apply z09 rfl
        ·intro wg hwg _;have x0':=cell_later hwg x0;have x1':=cell_later hwg x1;unfold z07;go_simp
         first
          |exact z00 _ _
          |(exact z0C (HCK.out wg hwg))
        intro K hK;go_simp;refine hK _ ?_;clear hK K))
     refine z08 (fun wg hwg _=> ?_);go_wp2_with fail
     go_ret
     rw [HE.out];exact⟨rfl,HBX.out.trans (hwg.mono HBX.out.size)⟩
    ·apply And.intro
     ·repeat(first|exact trivial|(refine⟨Stays.is _,?_⟩)|(refine⟨Stays.bs _,?_⟩)|(refine⟨Stays.pg _ _ _,?_⟩))
     ·rfl
   have e1:decide ((k.length:Int)<1)=false:=by rw [decide_eq_false_iff_not];omega
   have e2:decide (k.length<1)=false:=decide_eq_false h1;by_cases h2:64<k.length
   ·have hno:=z6g (k:=k) (vs:=vs) (.inr (.inl h2));have e3:decide ((64:Int)<(k.length:Int))=true:=by rw [decide_eq_true_eq];omega
    have e4:decide (64<k.length)=true:=decide_eq_true h2;have HE:=zz (HF1.out hno);clear hno HTN HF1 HF2 HCX;refine z01 (by kernel_rfl) (by kernel_rfl) ?_;apply Exists.intro;apply And.intro
    ·repeat(first
      |(apply z04 rfl
        intro K hK;go_simp;refine hK _ ?_;clear hK K)
      |(apply z09 rfl
        ·intro wg hwg _;have x0':=cell_later hwg x0;have x1':=cell_later hwg x1;unfold z07;go_simp
         first
          |exact z00 _ _
          |(exact z0C (HCK.out wg hwg))
        intro K hK;go_simp;refine hK _ ?_;clear hK K))
     refine z08 (fun wg hwg _=> ?_);go_wp2_with fail
     go_ret
     rw [HE.out];exact⟨rfl,HBX.out.trans (hwg.mono HBX.out.size)⟩
    ·apply And.intro
     ·repeat(first|exact trivial|(refine⟨Stays.is _,?_⟩)|(refine⟨Stays.bs _,?_⟩)|(refine⟨Stays.pg _ _ _,?_⟩))
     ·rfl
   have e3:decide ((64:Int)<(k.length:Int))=false:=by rw [decide_eq_false_iff_not];omega
   have e4:decide (64<k.length)=false:=decide_eq_false h2;by_cases h3:vs.length<1
   ·have hno:=z6g (k:=k) (vs:=vs) (.inr (.inr (.inl h3)));have e5:decide ((vs.length:Int)<1)=true:=by rw [decide_eq_true_eq];omega
    have e6:decide (vs.length<1)=true:=decide_eq_true h3;have HE:=zz (HF1.out hno);clear hno HTN HF1 HF2 HCX;refine z01 (by kernel_rfl) (by kernel_rfl) ?_;apply Exists.intro;apply And.intro
    ·repeat(first
      |(apply z04 rfl
        intro K hK;go_simp;refine hK _ ?_;clear hK K)
      |(apply z09 rfl
        ·intro wg hwg _;have x0':=cell_later hwg x0;have x1':=cell_later hwg x1;unfold z07;go_simp
         first
          |exact z00 _ _
          |(exact z0C (HCK.out wg hwg))
        intro K hK;go_simp;refine hK _ ?_;clear hK K))
     refine z08 (fun wg hwg _=> ?_);go_wp2_with fail
     go_ret
     rw [HE.out];exact⟨rfl,HBX.out.trans (hwg.mono HBX.out.size)⟩
    ·apply And.intro
     ·repeat(first|exact trivial|(refine⟨Stays.is _,?_⟩)|(refine⟨Stays.bs _,?_⟩)|(refine⟨Stays.pg _ _ _,?_⟩))
     ·rfl
   have e5:decide ((vs.length:Int)<1)=false:=by rw [decide_eq_false_iff_not];omega
   have e6:decide (vs.length<1)=false:=decide_eq_false h3;by_cases h4:100<vs.length
   ·have hno:=z6g (k:=k) (vs:=vs) (.inr (.inr (.inr (.inl h4))));have e7:decide ((100:Int)<(vs.length:Int))=true:=by rw [decide_eq_true_eq];omega
    have e8:decide (100<vs.length)=true:=decide_eq_true h4;have HE:=zz (HF1.out hno);clear hno HTN HF1 HF2 HCX;refine z01 (by kernel_rfl) (by kernel_rfl) ?_;apply Exists.intro;apply And.intro
    ·repeat(first
      |(apply z04 rfl
        intro K hK;go_simp;refine hK _ ?_;clear hK K)
      |(apply z09 rfl
        ·intro wg hwg _;have x0':=cell_later hwg x0;have x1':=cell_later hwg x1;unfold z07;go_simp
         first
          |exact z00 _ _
          |(exact z0C (HCK.out wg hwg))
        intro K hK;go_simp;refine hK _ ?_;clear hK K))
     refine z08 (fun wg hwg _=> ?_);go_wp2_with fail
     go_ret
     rw [HE.out];exact⟨rfl,HBX.out.trans (hwg.mono HBX.out.size)⟩
    ·apply And.intro
     ·repeat(first|exact trivial|(refine⟨Stays.is _,?_⟩)|(refine⟨Stays.bs _,?_⟩)|(refine⟨Stays.pg _ _ _,?_⟩))
     ·rfl
   have e7:decide ((100:Int)<(vs.length:Int))=false:=by rw [decide_eq_false_iff_not];omega
   have e8:decide (100<vs.length)=false:=decide_eq_false h4;obtain⟨rs,hrs⟩:∃rs,z1h vs=rs:=⟨_,rfl⟩;cases rs with
   |false=>
    have hno:=z6g (k:=k) (vs:=vs) (.inr (.inr (.inr (.inr hrs))));rw [hrs]at HCK;clear hrs;have HE:=zz (HF1.out hno);clear hno HTN HF1 HF2 HCX;refine z01 (by kernel_rfl) (by kernel_rfl) ?_;apply Exists.intro;apply And.intro
    ·repeat(first
      |(apply z04 rfl
        intro K hK;go_simp;refine hK _ ?_;clear hK K)
      |(apply z09 rfl
        ·intro wg hwg _;have x0':=cell_later hwg x0;have x1':=cell_later hwg x1;unfold z07;go_simp
         first
          |exact z00 _ _
          |(exact z0C (HCK.out wg hwg))
        intro K hK;go_simp;refine hK _ ?_;clear hK K))
     refine z08 (fun wg hwg _=> ?_);go_wp2_with fail
     go_ret
     rw [HE.out];exact⟨rfl,HBX.out.trans (hwg.mono HBX.out.size)⟩
    ·apply And.intro
     ·repeat(first|exact trivial|(refine⟨Stays.is _,?_⟩)|(refine⟨Stays.bs _,?_⟩)|(refine⟨Stays.pg _ _ _,?_⟩))
     ·rfl
   |true=>
    have hrw:=zIr (k:=k) (vs:=vs) (by omega) (by omega) (by omega) (by omega) hrs;rw [hrs]at HCK;rw [hrw]at HTN HF1;clear hrs hrw h1 h2 h3 h4;rcases i with _|j0
    ·have HORD:Hid (∀j,(e:0=j+1)→Op.bytesLess (p[j]'(by omega)).1.k k=true):=fun j e=>by omega
     clear HF2 HCX;refine z01 (by kernel_rfl) (by kernel_rfl) ?_;apply Exists.intro;apply And.intro
     ·repeat(first
       |(apply z04 rfl
         intro K hK;go_simp;refine hK _ ?_;clear hK K)
       |(apply z09 rfl
         ·intro wg hwg _;have x0':=cell_later hwg x0;have x1':=cell_later hwg x1;unfold z07;go_simp
          first
           |exact z00 _ _
           |(exact z0C (HCK.out wg hwg))
         intro K hK;go_simp;refine hK _ ?_;clear hK K))
      refine z08 (fun wg hwg _=> ?_);have HB1:=zz (HBX0.out.later hwg);have hBW:Below w.heap.size w wg:=HBX.out.trans (hwg.mono HBX.out.size);have R1:Hid ((∀x∈vs.take 0,z0R x=true)∧Below w.heap.size w wg∧Blk wg gx 46 #[.string (st k),.slice A1 vs.length c1']):=⟨by simp,hBW,HB1.out⟩;clear hwg HB1 hBW HBX HBX0 HGX HCK x0 x1 e1 e2 e3 e4 e5 e6 e7 e8;go_wp2_with fail
      go_loopw [5] (fun jv wq=>∃j:Nat,jv= .int .i64 (j:Int)∧j≤vs.length∧Hid ((∀x∈vs.take j,z0R x=true)∧Below w.heap.size w wq∧Blk wq gx 46 #[.string (st k),.slice A1 vs.length c1'])) (fun jv _=>vs.length-(intOf jv).toNat)
      case atStart=>exact⟨0,rfl,by omega,R1⟩
      case round=>
       clear R1;obtain⟨j,rfl,hj,RJ⟩:=hrel;have hbj:=RJ.out.2.1;have HXJ:=zz RJ.out.2.2;have y1:wr.cell? ⟨gx,1,none⟩=some (.slice A1 vs.length c1'):=HXJ.out.cell 1;by_cases hjl:j<vs.length
       ·obtain⟨b2,o2,rfl,hb2,hc2⟩:=HV1.out (by omega);have d0:wr.cell? ⟨b2,o2+j*3,none⟩=some (.int .u64 (vs[j].t:Int)):=(hbj.cell (p:=⟨b2,o2+j*3,none⟩) hb2.2).trans (hc2 j hjl).1;have d1:wr.cell? ⟨b2,o2+j*3+1,none⟩=some (.string (st vs[j].v)):=(hbj.cell (p:=⟨b2,o2+j*3+1,none⟩) hb2.2).trans (hc2 j hjl).2.1;have d2:wr.cell? ⟨b2,o2+j*3+2,none⟩=some (.bool vs[j].gone):=(hbj.cell (p:=⟨b2,o2+j*3+2,none⟩) hb2.2).trans (hc2 j hjl).2.2;have hxv:=HMV.out _ (List.getElem_mem hjl);have HT:Hid (z0R vs[j]=true→∀x∈vs.take (j+1),z0R x=true):=fun h x hx=>by
         rw [List.take_succ_eq_append_getElem hjl]at hx;rcases List.mem_append.1 hx with hx|hx
         ·exact RJ.out.1 x hx
         ·obtain rfl:=List.mem_singleton.1 hx;exact h
        have HF:Hid (z0R vs[j]=false→R=false):=fun h=>HF1.out (by
         rw [List.all_eq_false];exact⟨vs[j],List.getElem_mem hjl,by rw [h];simp⟩)
        have hjb:(0:Int)≤(j:Int):=by omega
        obtain⟨x,hx0⟩:∃x,vs[j]=x:=⟨_,rfl⟩;rw [hx0]at d0 d1 d2 HT HF hxv;obtain⟨t,v,gn⟩:=x;simp only at d0 d1 d2 hxv;have q7:=hbj.alloc hbj.size (.cells #[.int .u64 (t:Int),.string (st v),.bool gn] 73);have HX7:=zz (HXJ.out.alloc (.cells #[.int .u64 (t:Int),.string (st v),.bool gn] 73));clear hx0 hc2 RJ hbj HXJ;by_cases h0:t=0
        ·have hn:z0R ⟨t,v,gn⟩=false:=by unfold z0R;simp [h0]
         subst h0;have HE:=zz (HF.out hn);clear hn HT HF HX7;go_wp2_with fail
         go_ret
         rw [HE.out];exact⟨rfl,q7⟩
        have e9:((t:Int)==0)=false:=by rw [beq_eq_false_iff_ne];omega
        by_cases h5:256<v.length
        ·have hn:z0R ⟨t,v,gn⟩=false:=by unfold z0R;rw [decide_eq_false (show ¬v.length≤256 by omega)];simp
         have HE:=zz (HF.out hn);clear hn HT HF HX7;go_wp2_with fail
         go_ret
         rw [HE.out];exact⟨rfl,q7⟩
        have h5':v.length≤256:=by omega
        have ht0:0<t:=by omega
        cases gn with
        |false=>
         have hy:z0R ⟨t,v,false⟩=true:=by unfold z0R;simp [ht0,h5']
         clear h0 h5 ht0;have RF:Hid ((∀x∈vs.take (j+1),z0R x=true)∧Below w.heap.size w (wr.alloc (.cells #[.int .u64 (t:Int),.string (st v),.bool false] 73))∧Blk (wr.alloc (.cells #[.int .u64 (t:Int),.string (st v),.bool false] 73)) gx 46 #[.string (st k),.slice (some ⟨b2,o2,none⟩) vs.length c1']):=⟨HT.out hy,q7,HX7.out⟩;clear hy HT HF HX7 q7;go_wp2_with fail
         go_roundw
         case rel=>exact⟨j+1,by go_num,by omega,RF⟩
         case measure=>simp [intOf];omega
        |true=>
         by_cases h6:0<v.length
         ·have hn:z0R ⟨t,v,true⟩=false:=by
           have h7:=List.length_pos_iff.1 h6;unfold z0R;simp [h7]
          clear h0 h5 ht0;have HE:=zz (HF.out hn);clear hn HT HF HX7;go_wp2_with fail
          go_ret
          rw [HE.out];exact⟨rfl,q7⟩
         ·have hy:z0R ⟨t,v,true⟩=true:=by
           have h7:v= []:=List.eq_nil_of_length_eq_zero (by omega);unfold z0R;simp [h7,ht0]
          clear h0 h5 ht0;have RF:Hid ((∀x∈vs.take (j+1),z0R x=true)∧Below w.heap.size w (wr.alloc (.cells #[.int .u64 (t:Int),.string (st v),.bool true] 73))∧Blk (wr.alloc (.cells #[.int .u64 (t:Int),.string (st v),.bool true] 73)) gx 46 #[.string (st k),.slice (some ⟨b2,o2,none⟩) vs.length c1']):=⟨HT.out hy,q7,HX7.out⟩;clear hy HT HF HX7 q7;go_wp2_with fail
          go_roundw
          case rel=>exact⟨j+1,by go_num,by omega,RF⟩
          case measure=>simp [intOf];omega
       ·obtain rfl:j=vs.length:=by omega
        have RF:Hid (zES p (0+1)∧Below w.heap.size w wr):=⟨HTN.out (by
         rw [List.all_eq_true];have:=RJ.out.1
         rwa [List.take_length]at this) HORD.out,hbj⟩
        clear RJ hbj HXJ HTN HF1 HV1 HMV;go_wp2_with fail
        go_roundw
        case rel=>exact⟨(0+1),by go_num,by omega,RF⟩
        case measure=>simp [intOf];omega
     ·apply And.intro
      ·repeat(first|exact trivial|(refine⟨Stays.is _,?_⟩)|(refine⟨Stays.bs _,?_⟩)|(refine⟨Stays.pg _ _ _,?_⟩))
      ·rfl
    ·have hjl0:j0<p.length:=by omega
     have c5:=HCX.out j0 hjl0;have hib2:(0:Int)≤(j0:Int):=by omega
     have hwj:IntKind.i64.wrap (j0:Int)=(j0:Int):=IntWalk.i64_in _ (by omega);have HT1:Hid (Op.bytesLess (p[j0]'(by omega)).1.k k=true→∀j,(e:j0+1=j+1)→Op.bytesLess (p[j]'(by omega)).1.k k=true):=fun h j e=>by
      obtain rfl:j0=j:=Nat.add_right_cancel e;exact h
     have HT2:=zz (HF2.out j0 rfl);clear HF2 HCX;obtain⟨y,hy⟩:∃y,p[j0].1.k=y:=⟨_,rfl⟩;rw [hy]at c5 HT1 HT2;clear hy;cases hbs2:Op.bytesLess y k with
     |true=>
      have HORD:=zz (HT1.out hbs2);have hle:=(zG5 hbs2);clear HT1 HT2;refine z01 (by kernel_rfl) (by kernel_rfl) ?_;apply Exists.intro;apply And.intro
      ·repeat(first
        |(apply z04 rfl
          intro K hK;go_simp;refine hK _ ?_;clear hK K)
        |(apply z09 rfl
          ·intro wg hwg _;have c5':=cell_later hwg c5;have x0':=cell_later hwg x0;have x1':=cell_later hwg x1;unfold z07;go_simp
           first
            |exact z00 _ _
            |(exact z0C (HCK.out wg hwg))
          intro K hK;go_simp;refine hK _ ?_;clear hK K))
       refine z08 (fun wg hwg _=> ?_);have HB1:=zz (HBX0.out.later hwg);have hBW:Below w.heap.size w wg:=HBX.out.trans (hwg.mono HBX.out.size);have R1:Hid ((∀x∈vs.take 0,z0R x=true)∧Below w.heap.size w wg∧Blk wg gx 46 #[.string (st k),.slice A1 vs.length c1']):=⟨by simp,hBW,HB1.out⟩;clear hwg HB1 hBW HBX HBX0 HGX HCK x0 x1 e1 e2 e3 e4 e5 e6 e7 e8;go_wp2_with fail
       go_loopw [5] (fun jv wq=>∃j:Nat,jv= .int .i64 (j:Int)∧j≤vs.length∧Hid ((∀x∈vs.take j,z0R x=true)∧Below w.heap.size w wq∧Blk wq gx 46 #[.string (st k),.slice A1 vs.length c1'])) (fun jv _=>vs.length-(intOf jv).toNat)
       case atStart=>exact⟨0,rfl,by omega,R1⟩
       case round=>
        clear R1;obtain⟨j,rfl,hj,RJ⟩:=hrel;have hbj:=RJ.out.2.1;have HXJ:=zz RJ.out.2.2;have y1:wr.cell? ⟨gx,1,none⟩=some (.slice A1 vs.length c1'):=HXJ.out.cell 1;by_cases hjl:j<vs.length
        ·obtain⟨b2,o2,rfl,hb2,hc2⟩:=HV1.out (by omega);have d0:wr.cell? ⟨b2,o2+j*3,none⟩=some (.int .u64 (vs[j].t:Int)):=(hbj.cell (p:=⟨b2,o2+j*3,none⟩) hb2.2).trans (hc2 j hjl).1;have d1:wr.cell? ⟨b2,o2+j*3+1,none⟩=some (.string (st vs[j].v)):=(hbj.cell (p:=⟨b2,o2+j*3+1,none⟩) hb2.2).trans (hc2 j hjl).2.1;have d2:wr.cell? ⟨b2,o2+j*3+2,none⟩=some (.bool vs[j].gone):=(hbj.cell (p:=⟨b2,o2+j*3+2,none⟩) hb2.2).trans (hc2 j hjl).2.2;have hxv:=HMV.out _ (List.getElem_mem hjl);have HT:Hid (z0R vs[j]=true→∀x∈vs.take (j+1),z0R x=true):=fun h x hx=>by
          rw [List.take_succ_eq_append_getElem hjl]at hx;rcases List.mem_append.1 hx with hx|hx
          ·exact RJ.out.1 x hx
          ·obtain rfl:=List.mem_singleton.1 hx;exact h
         have HF:Hid (z0R vs[j]=false→R=false):=fun h=>HF1.out (by
          rw [List.all_eq_false];exact⟨vs[j],List.getElem_mem hjl,by rw [h];simp⟩)
         have hjb:(0:Int)≤(j:Int):=by omega
         obtain⟨x,hx0⟩:∃x,vs[j]=x:=⟨_,rfl⟩;rw [hx0]at d0 d1 d2 HT HF hxv;obtain⟨t,v,gn⟩:=x;simp only at d0 d1 d2 hxv;have q7:=hbj.alloc hbj.size (.cells #[.int .u64 (t:Int),.string (st v),.bool gn] 73);have HX7:=zz (HXJ.out.alloc (.cells #[.int .u64 (t:Int),.string (st v),.bool gn] 73));clear hx0 hc2 RJ hbj HXJ;by_cases h0:t=0
         ·have hn:z0R ⟨t,v,gn⟩=false:=by unfold z0R;simp [h0]
          subst h0;have HE:=zz (HF.out hn);clear hn HT HF HX7;go_wp2_with fail
          go_ret
          rw [HE.out];exact⟨rfl,q7⟩
         have e9:((t:Int)==0)=false:=by rw [beq_eq_false_iff_ne];omega
         by_cases h5:256<v.length
         ·have hn:z0R ⟨t,v,gn⟩=false:=by unfold z0R;rw [decide_eq_false (show ¬v.length≤256 by omega)];simp
          have HE:=zz (HF.out hn);clear hn HT HF HX7;go_wp2_with fail
          go_ret
          rw [HE.out];exact⟨rfl,q7⟩
         have h5':v.length≤256:=by omega
         have ht0:0<t:=by omega
         cases gn with
         |false=>
          have hy:z0R ⟨t,v,false⟩=true:=by unfold z0R;simp [ht0,h5']
          clear h0 h5 ht0;have RF:Hid ((∀x∈vs.take (j+1),z0R x=true)∧Below w.heap.size w (wr.alloc (.cells #[.int .u64 (t:Int),.string (st v),.bool false] 73))∧Blk (wr.alloc (.cells #[.int .u64 (t:Int),.string (st v),.bool false] 73)) gx 46 #[.string (st k),.slice (some ⟨b2,o2,none⟩) vs.length c1']):=⟨HT.out hy,q7,HX7.out⟩;clear hy HT HF HX7 q7;go_wp2_with fail
          go_roundw
          case rel=>exact⟨j+1,by go_num,by omega,RF⟩
          case measure=>simp [intOf];omega
         |true=>
          by_cases h6:0<v.length
          ·have hn:z0R ⟨t,v,true⟩=false:=by
            have h7:=List.length_pos_iff.1 h6;unfold z0R;simp [h7]
           clear h0 h5 ht0;have HE:=zz (HF.out hn);clear hn HT HF HX7;go_wp2_with fail
           go_ret
           rw [HE.out];exact⟨rfl,q7⟩
          ·have hy:z0R ⟨t,v,true⟩=true:=by
            have h7:v= []:=List.eq_nil_of_length_eq_zero (by omega);unfold z0R;simp [h7,ht0]
           clear h0 h5 ht0;have RF:Hid ((∀x∈vs.take (j+1),z0R x=true)∧Below w.heap.size w (wr.alloc (.cells #[.int .u64 (t:Int),.string (st v),.bool true] 73))∧Blk (wr.alloc (.cells #[.int .u64 (t:Int),.string (st v),.bool true] 73)) gx 46 #[.string (st k),.slice (some ⟨b2,o2,none⟩) vs.length c1']):=⟨HT.out hy,q7,HX7.out⟩;clear hy HT HF HX7 q7;go_wp2_with fail
           go_roundw
           case rel=>exact⟨j+1,by go_num,by omega,RF⟩
           case measure=>simp [intOf];omega
        ·obtain rfl:j=vs.length:=by omega
         have RF:Hid (zES p (j0+1+1)∧Below w.heap.size w wr):=⟨HTN.out (by
          rw [List.all_eq_true];have:=RJ.out.1
          rwa [List.take_length]at this) HORD.out,hbj⟩
         clear RJ hbj HXJ HTN HF1 HV1 HMV;go_wp2_with fail
         go_roundw
         case rel=>exact⟨(j0+1+1),by go_num,by omega,RF⟩
         case measure=>simp [intOf];omega
      ·apply And.intro
       ·repeat(first|exact trivial|(refine⟨Stays.is _,?_⟩)|(refine⟨Stays.bs _,?_⟩)|(refine⟨Stays.pg _ _ _,?_⟩))
       ·rfl
     |false=>
      have HE:=zz (HT2.out hbs2);clear HT1 HT2 HTN HF1;rcases z7q k y with⟨hl1,hl2,hl3,hl4,-⟩|hl1|⟨hl1,-⟩
      ·clear hl2 hl3 hl4;refine z01 (by kernel_rfl) (by kernel_rfl) ?_;apply Exists.intro;apply And.intro
       ·repeat(first
         |(apply z04 rfl
           intro K hK;go_simp;refine hK _ ?_;clear hK K)
         |(apply z09 rfl
           ·intro wg hwg _;have c5':=cell_later hwg c5;have x0':=cell_later hwg x0;have x1':=cell_later hwg x1;unfold z07;go_simp
            first
             |exact z00 _ _
             |(exact z0C (HCK.out wg hwg))
           intro K hK;go_simp;refine hK _ ?_;clear hK K))
        refine z08 (fun wg hwg _=> ?_);go_wp2_with fail
        go_ret
        rw [HE.out];exact⟨rfl,HBX.out.trans (hwg.mono HBX.out.size)⟩
       ·apply And.intro
        ·repeat(first|exact trivial|(refine⟨Stays.is _,?_⟩)|(refine⟨Stays.bs _,?_⟩)|(refine⟨Stays.pg _ _ _,?_⟩))
        ·rfl
      ·subst hl1;have hl1:=z5v k;clear hbs2;refine z01 (by kernel_rfl) (by kernel_rfl) ?_;apply Exists.intro;apply And.intro
       ·repeat(first
         |(apply z04 rfl
           intro K hK;go_simp;refine hK _ ?_;clear hK K)
         |(apply z09 rfl
           ·intro wg hwg _;have c5':=cell_later hwg c5;have x0':=cell_later hwg x0;have x1':=cell_later hwg x1;unfold z07;go_simp
            first
             |exact z00 _ _
             |(exact z0C (HCK.out wg hwg))
           intro K hK;go_simp;refine hK _ ?_;clear hK K))
        refine z08 (fun wg hwg _=> ?_);go_wp2_with fail
        go_ret
        rw [HE.out];exact⟨rfl,HBX.out.trans (hwg.mono HBX.out.size)⟩
       ·apply And.intro
        ·repeat(first|exact trivial|(refine⟨Stays.is _,?_⟩)|(refine⟨Stays.bs _,?_⟩)|(refine⟨Stays.pg _ _ _,?_⟩))
        ·rfl
      ·rw [hl1]at hbs2;cases hbs2
  ·obtain rfl:i=p.length:=by omega
   have HE:Hid (R=decide (p.length≤100)):=by
    rw [Hid];by_cases h:p.length≤100
    ·rw [decide_eq_true h];exact HR.out.2 ⟨RR.out.1,h⟩
    ·rw [decide_eq_false h];cases R with
     |false=>rfl
     |true=>exact absurd (HR.out.1 rfl).2 h
   have e1:decide ((p.length:Int)≤100)=decide (p.length≤100):=by
    by_cases h:p.length≤100
    ·rw [decide_eq_true h,decide_eq_true_eq];omega
    ·rw [decide_eq_false h,decide_eq_false_iff_not];omega
   go_wp2_with fail
   go_ret
   rw [HE.out];exact⟨by first|rfl|rw [e1],hbl⟩
end
end Go.Proofs.YtdkobefpnjbgnaaGreatDoor
