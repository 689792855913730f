/- Part 38. -/
import Derived.Test.YtdkobefpnjbgnaaGreatDoorMovePutsJ37
namespace Go.Proofs.YtdkobefpnjbgnaaGreatDoor
set_option linter.unusedVariables false
set_option maxHeartbeats 16000000
set_option maxRecDepth 100000
section
open Go Go.RowKit
def VCv(R:List Cel):VP:=fun v wg=>∃A c,v= .slice A R.length c∧Cs (fun b=>b<wg.heap.size) wg (.slice A R.length c) R
theorem VCv.stays(R:List Cel):Stays (VCv R):=fun v w1 w2 hb ⟨A,c,he,h⟩=>⟨A,c,he,(Sl.below h hb fun _ h=>h).more fun _ h=>Nat.lt_of_lt_of_le h hb.size⟩
theorem RangePost.co{R:List Cel}{w w':World}{e:Ending}(h:RangePost R w e w'):∃v,e= .returned v∧Below w.heap.size w w'∧VCv R v w':=by
 obtain⟨A,c,he,hc,hb⟩:=h;exact⟨_,he,hb,A,c,rfl,(Sl.of_own (by omega) hc).more fun b h=>h.2⟩
theorem Vv.range{w wg:World}{gv gs g:Nat}{l:List Rw}{tl:List Cel}{last hor:Nat}(h:Vv w gv gs g l tl last hor)(hb:Below w.heap.size w wg)(frm to_:Key)(lim:Int){R:List Cel}(hR:z4n (vwC l tl) frm to_ false lim=R):
 Calls Tryz.prog 55 #[.pointer (some ⟨g,0,none⟩),.agg #[.string (st frm),.string (st to_),.bool false,.bool false,.int .i64 lim]] wg fun e w'=>∃v,e= .returned v∧Below wg.heap.size wg w'∧VCv R v w':=by
 have:=h.rg wg frm to_ false lim hb;rw [hR]at this;exact this.mono fun e w' hp=>hp.co
theorem zDG{w:World}{gv gs g:Nat}{l:List Rw}{tl:List Cel}{last hor:Nat}(h:Vv w gv gs g l tl last hor)(key:List UInt8)(hk:key.length≤9223372036854775807){pg:Nat}(hpg:gv=pg):
 Calls Tryz.prog 67 #[.pointer (some ⟨pg,0,none⟩),.string (st key)] w fun e w'=>e= .returned (zBb (z4d l key))∧Below w.heap.size w w':=by
 subst hpg;have hR:=zAa h.ok h.tok key;have HFR:Hid (∀wg,Below w.heap.size w wg→Calls Tryz.prog 109 #[.string (st key)] wg fun e w'=>e= .returned (.string (st (z6D key)))∧Below wg.heap.size wg w'):=fun wg hwg=>zEP key wg (h.bits.later hwg) hk
 have HOK:=zz h.ok;obtain⟨s1,s2,hs⟩:=h.sto;have b0:w.cell? ⟨gv,0,none⟩=some (.pointer (some ⟨gs,0,none⟩)):=h.blk.cell 0;have b1:w.cell? ⟨gs,0,none⟩=some (.pointer (some ⟨g,0,none⟩)):=hs.cell 0;obtain⟨F,hF⟩:∃F,z6D key=F:=⟨_,rfl⟩;rw [hF]at hR HFR;cases ho:z4d l key with
 |none=>
  rw [ho]at hR;have HRG:Hid (∀wg,Below w.heap.size w wg→Calls Tryz.prog 55 #[.pointer (some ⟨g,0,none⟩),.agg #[.string (st F),.string (st ttlK),.bool false,.bool false,.int .i64 1]] wg fun e w'=>∃v,e= .returned v∧Below wg.heap.size wg w'∧VCv [] v w'):=fun wg hwg=>h.range hwg F ttlK 1 hR
  clear h hs hR hF ho HOK;go_enter Tryz.func67,Tryz.ntmps67
  go_wp2_with fail
  refine z01 (by kernel_rfl) (by kernel_rfl) ?_;apply Exists.intro;apply And.intro
  ·repeat(first
    |(apply z04 rfl
      intro K hK;go_simp;refine hK _ ?_;clear hK K)
    |(apply z09 rfl
      ·intro wg hwg _;have b0':=cell_later hwg b0;have b1':=cell_later hwg b1;unfold z07;go_simp
       first
        |exact z00 _ _
        |(exact z0C (HFR.out wg hwg))
      intro K hK;go_simp;refine hK _ ?_;clear hK K))
   apply z2B (V:=VCv []) rfl
   ·intro wg hwg hf;unfold z07;go_simp;refine⟨Below.refl _ _,?_⟩;exact HRG.out wg hwg
   intro xv hxv K hK;obtain⟨wx,_,hbx⟩:=hxv;have hbo:=hbx;obtain⟨A10,c10,rfl,hc10⟩:=hbo;go_simp;refine hK _ ?_;clear hK K hbx;apply z2B (V:=VCv []) rfl
   ·intro wg hwg hf;have hcb:VCv [] (.slice A10 ([]:List Cel).length c10) wg:=hf ⟨10,.data⟩ (by simp) rfl _ _ (by kernel_rfl);unfold z07;go_simp;exact⟨Below.refl _ _,hcb⟩
   intro xv hxv K hK;obtain⟨wx,_,hbx⟩:=hxv;have hbo:=hbx;obtain⟨A11,c11,rfl,hc11⟩:=hbo;go_simp;refine hK _ ?_;clear hK K hbx;refine z08 (fun wg hwg _=> ?_);have HB:=zz hwg;clear hwg hc10 hc11;go_wp2_with fail
   go_ret2
   exact⟨rfl,HB.out⟩
  ·apply And.intro
   ·repeat(first|exact trivial|(refine⟨Stays.is _,?_⟩)|(refine⟨VCv.stays _,?_⟩))
   ·rfl
 |some r=>
  rw [ho]at hR;simp only at hR;have hm:=List.mem_of_find?_eq_some ho;have hro:=h.ok.rw r hm;obtain⟨x,hx,hx1⟩:=zHp hro;rw [hx1]at hR;have HVP:Hid (∀wg,Calls Tryz.prog 57 #[.agg #[.string (st (z1f r.k x.t)),.string (st (zAM x))]] wg fun e w'=>e= .returned (.tuple #[.string (st r.k),zEX x,.bool true])∧Below wg.heap.size wg w'):=fun wg=>z7o r.k x wg hro.k64 hx
  have HRG:Hid (∀wg,Below w.heap.size w wg→Calls Tryz.prog 55 #[.pointer (some ⟨g,0,none⟩),.agg #[.string (st F),.string (st ttlK),.bool false,.bool false,.int .i64 1]] wg fun e w'=>∃v,e= .returned v∧Below wg.heap.size wg w'∧VCv [zAJ r.k x] v w'):=fun wg hwg=>h.range hwg F ttlK 1 hR
  obtain⟨kb,hkb⟩:∃kb,z1f r.k x.t=kb:=⟨_,rfl⟩;obtain⟨vb,hvb⟩:∃vb,zAM x=vb:=⟨_,rfl⟩;have hdc:zAJ r.k x=(kb,vb):=by unfold zAJ;rw [hkb,hvb]
  rw [hdc]at HRG;rw [hkb,hvb]at HVP;unfold zEX at HVP;obtain⟨rk,hrk⟩:∃rk,r.k=rk:=⟨_,rfl⟩;have HRK:=zz hrk;rw [hrk]at HVP;clear h hs hR hF ho HOK hm hro hx hx1 hkb hvb hdc hrk;go_enter Tryz.func67,Tryz.ntmps67
  go_wp2_with fail
  refine z01 (by kernel_rfl) (by kernel_rfl) ?_;apply Exists.intro;apply And.intro
  ·repeat(first
    |(apply z04 rfl
      intro K hK;go_simp;refine hK _ ?_;clear hK K)
    |(apply z09 rfl
      ·intro wg hwg _;have b0':=cell_later hwg b0;have b1':=cell_later hwg b1;unfold z07;go_simp
       first
        |exact z00 _ _
        |(exact z0C (HFR.out wg hwg))
      intro K hK;go_simp;refine hK _ ?_;clear hK K))
   apply z2B (V:=VCv [(kb,vb)]) rfl
   ·intro wg hwg hf;unfold z07;go_simp;refine⟨Below.refl _ _,?_⟩;exact HRG.out wg hwg
   intro xv hxv K hK;obtain⟨wx,_,hbx⟩:=hxv;have hbo:=hbx;obtain⟨A10,c10,rfl,hc10⟩:=hbo;go_simp;refine hK _ ?_;clear hK K hbx;apply z2B (V:=VCv [(kb,vb)]) rfl
   ·intro wg hwg hf;have hcb:VCv [(kb,vb)] (.slice A10 [(kb,vb)].length c10) wg:=hf ⟨10,.data⟩ (by simp) rfl _ _ (by kernel_rfl);unfold z07;go_simp;exact⟨Below.refl _ _,hcb⟩
   intro xv hxv K hK;obtain⟨wx,_,hbx⟩:=hxv;have hbo:=hbx;obtain⟨A11,c11,rfl,hc11⟩:=hbo;go_simp;refine hK _ ?_;clear hK K hbx;refine z08 (fun wg hwg hf=> ?_);have HB:=zz hwg;obtain⟨A13,c13,he13,hc13⟩:VCv [(kb,vb)] (.slice A11 [(kb,vb)].length c11) wg:=hf 11 _ _ rfl;injection he13 with hA13 _ hc13'
   subst hA13 hc13';obtain⟨A12,c12,hv12,-,-,-,hA12⟩:=hc13.at;injection hv12 with hA12' _ _
   subst hA12';obtain⟨b,o,rfl,hbs,hcell⟩:=hA12 (by simp);have k0:wg.cell? ⟨b,o,none⟩=some (.string (st kb)):=(hcell 0 (by simp)).1;have k1:wg.cell? ⟨b,o+1,none⟩=some (.string (st vb)):=(hcell 0 (by simp)).2;clear hwg hf hc10 hc11 hc13 hA12 hcell;go_wp2_with fail
   refine(HVP.out wg).mono ?_;rintro e w2 ⟨rfl,hb2⟩;have HB2:=zz (HB.out.trans (hb2.mono HB.out.size));clear hb2;go_wp2_with fail
   go_ret2
   refine⟨?_,HB2.out.alloc HB2.out.size _⟩;show _=Ending.returned (.tuple #[.string (st r.k),.bool true]);rw [HRK.out];rfl
  ·apply And.intro
   ·repeat(first|exact trivial|(refine⟨Stays.is _,?_⟩)|(refine⟨VCv.stays _,?_⟩))
   ·rfl
theorem z42{w:World}{gv gs g:Nat}{l:List Rw}{tl:List Cel}{last hor:Nat}(h:Vv w gv gs g l tl last hor)(key:List UInt8)(hk:key.length≤1000000000){pg:Nat}(hpg:gv=pg):
 Calls Tryz.prog 52 #[.pointer (some ⟨pg,0,none⟩),.string (st key)] w fun e w'=>e= .returned (zBb (z4d l (key++ [0])))∧Below w.heap.size w w':=by
 subst hpg;have HV:=zz (zDG h (key++ [0]) (by simp;omega) rfl);obtain⟨o,ho⟩:∃o,z4d l (key++ [0])=o:=⟨_,rfl⟩;rw [ho]at HV ⊢;clear h ho;unfold zBb at HV ⊢;cases o with
 |none=>
  simp only at HV ⊢;go_enter Tryz.func52,Tryz.ntmps52
  go_wp2_with fail
  refine(zAD key w (by omega)).mono ?_;rintro e w1 ⟨rfl,rfl⟩;go_wp2_with fail
  refine HV.out.mono ?_;rintro e w2 ⟨rfl,hb2⟩;go_wp2_with fail
  go_ret2
  exact⟨rfl,hb2⟩
 |some r=>
  simp only at HV ⊢;go_enter Tryz.func52,Tryz.ntmps52
  go_wp2_with fail
  refine(zAD key w (by omega)).mono ?_;rintro e w1 ⟨rfl,rfl⟩;go_wp2_with fail
  refine HV.out.mono ?_;rintro e w2 ⟨rfl,hb2⟩;go_wp2_with fail
  go_ret2
  exact⟨rfl,hb2⟩
theorem zHQ(l:List Rw)(key:List UInt8):(z3L l key).length≤(z3M l).length:=by
 unfold z3L
 split
 ·rename_i r hr;have hm:=List.mem_of_find?_eq_some hr;clear hr;unfold z3M
  induction l with
  |nil=>cases hm
  |cons a l ih=>
   rw [List.flatMap_cons,List.length_append];rcases List.mem_cons.1 hm with rfl|hm
   ·have:(rwC r).length=r.vs.length:=by unfold rwC;simp
    omega
   ·have:=ih hm;omega
 ·exact Nat.zero_le _
def zHZ(vs:List Vsn)(w:World)(e:Ending)(w':World):Prop:=∃A c,e= .returned (.slice A vs.length c)∧Vs (fun b=>w.heap.size≤b∧b<w'.heap.size) w' (.slice A vs.length c) vs∧Below w.heap.size w w'
theorem Vs.nilV{S:Nat→Prop}{w:World}:Vs S w (.slice none 0 0) []:=Sl.nil
theorem zG6{l:List Rw}(h:RowsOk l){key:List UInt8}{x:Vsn}(hx:x∈z3L l key):VOk x∧key.length≤64:=by
 obtain⟨r,hr,hk,hv⟩:=z3p hx;exact⟨(h.rw r hr).vs x (hv▸hx),hk▸(h.rw r hr).k64⟩
theorem z38{w:World}{gv gs g:Nat}{l:List Rw}{tl:List Cel}{last hor:Nat}(h:Vv w gv gs g l tl last hor)(hfew:(z3M l).length≤100000)(key:List UInt8)(hk:key.length≤9223372036854775807){pg:Nat}(hpg:gv=pg):
 Calls Tryz.prog 29 #[.pointer (some ⟨pg,0,none⟩),.string (st key)] w (zHZ (z3L l key) w):=by
 subst hpg;by_cases h64:64<key.length
 ·have hn:z3L l key= []:=by
   cases hv:z3L l key with
   |nil=>rfl
   |cons x r=>
    have:=(zG6 h.ok (key:=key) (x:=x) (by rw [hv];simp)).2;omega
  have e1:decide ((64:Int)<(key.length:Int))=true:=by rw [decide_eq_true_eq];omega
  rw [hn];clear h hn;go_enter Tryz.func29,Tryz.ntmps29
  go_wp2_with fail
  go_ret
  exact⟨none,0,rfl,Vs.nilV,Below.refl _ _⟩
 ·have e1:decide ((64:Int)<(key.length:Int))=false:=by rw [decide_eq_false_iff_not];omega
  have hk64:key.length≤64:=by omega
  have hR:=zHK h.ok h.tok key;have HFI:Hid (∀wg,Below w.heap.size w wg→Calls Tryz.prog 71 #[.string (st key)] wg fun e w'=>e= .returned (.string (st (z1f key 18446744073709551615)))∧Below wg.heap.size wg w'):=fun wg hwg=>z7b key wg (h.bits.later hwg) hk64
  have HBY:Hid (∀wg,Below w.heap.size w wg→Calls Tryz.prog 60 #[.string (st key),.int .u64 0] wg fun e w'=>e= .returned (.string (st (z1f key 0)))∧Below wg.heap.size wg w'):=fun wg hwg=>z3h key 0 wg (h.bits.later hwg) hk64 z6y
  have hd0:=z4q 0 hk64;have hvl:=Nat.le_trans (zHQ l key) hfew;have HVP:Hid (∀i,(hi:i<(z3L l key).length)→∀wg,Calls Tryz.prog 57 #[.agg #[.string (st (z1f key ((z3L l key).reverse[i]'(by simpa using hi)).t)),.string (st (zAM ((z3L l key).reverse[i]'(by simpa using hi))))]] wg fun e w'=>e= .returned (.tuple #[.string (st key),zEX ((z3L l key).reverse[i]'(by simpa using hi)),.bool true])∧Below wg.heap.size wg w'):=fun i hi wg=>by
   have hm:(z3L l key).reverse[i]'(by simpa using hi)∈z3L l key:=List.mem_reverse.1 (List.getElem_mem _);exact z7o key _ wg hk64 (zG6 h.ok hm).1
  obtain⟨s1,s2,hs⟩:=h.sto;have b0:w.cell? ⟨gv,0,none⟩=some (.pointer (some ⟨gs,0,none⟩)):=h.blk.cell 0;have b1:w.cell? ⟨gs,0,none⟩=some (.pointer (some ⟨g,0,none⟩)):=hs.cell 0;obtain⟨vs,hvs⟩:∃vs,z3L l key=vs:=⟨_,rfl⟩;rw [hvs]at hR hvl HVP ⊢;obtain⟨R,hRR⟩:∃R,vs.reverse.map (zAJ key)=R:=⟨_,rfl⟩;rw [hRR]at hR;have hRl:R.length=vs.length:=by rw [←hRR];simp
  have HRA:Hid (∀i (hi:i<vs.length) (hiR:i<R.length),R[i]=(z1f key (vs.reverse[i]'(by simpa using hi)).t,zAM (vs.reverse[i]'(by simpa using hi)))):=fun i hi hiR=>by
   subst hRR;rw [List.getElem_map];rfl
  obtain⟨F,hF⟩:∃F,z1f key 18446744073709551615=F:=⟨_,rfl⟩;obtain⟨T0,hT⟩:∃T,z1f key 0=T:=⟨_,rfl⟩;rw [hF]at hR HFI;rw [hT]at hR HBY hd0;have HRG:Hid (∀wg,Below w.heap.size w wg→Calls Tryz.prog 55 #[.pointer (some ⟨g,0,none⟩),.agg #[.string (st F),.string (st (T0++ [0])),.bool false,.bool false,.int .i64 (-1)]] wg fun e w'=>∃v,e= .returned v∧Below wg.heap.size wg w'∧VCv R v w'):=fun wg hwg=>h.range hwg F (T0++ [0]) (-1) hR
  have a1:¬9223372036854775807<T0.length+1:=by omega
  have HRL:=zz hRl;clear h hs hR hF hT hvs hRR hd0 hRl hfew;go_enter Tryz.func29,Tryz.ntmps29
  go_wp2_with fail
  refine z01 (by kernel_rfl) (by kernel_rfl) ?_;apply Exists.intro;apply And.intro
  ·repeat(first
    |(apply z04 rfl
      intro K hK;go_simp;refine hK _ ?_;clear hK K)
    |(apply z09 rfl
      ·intro wg hwg _;have b0':=cell_later hwg b0;have b1':=cell_later hwg b1;unfold z07;go_simp
       first
        |exact z00 _ _
        |(exact z0C (HFI.out wg hwg))
        |(exact z0C (HBY.out wg hwg))
      intro K hK;go_simp;refine hK _ ?_;clear hK K))
   apply z2B (V:=VCv R) rfl
   ·intro wg hwg hf;unfold z07;go_simp;refine⟨Below.refl _ _,?_⟩;exact HRG.out wg hwg
   intro xv hxv K hK;obtain⟨wx,_,hbx⟩:=hxv;have hbo:=hbx;obtain⟨A10,c10,rfl,hc10⟩:=hbo;go_simp;refine hK _ ?_;clear hK K hbx
   repeat(first
    |(apply z04 rfl
      intro K hK;go_simp;refine hK _ ?_;clear hK K)
    |(apply z09 rfl
      ·intro wg hwg _
       skip
       unfold z07;go_simp
       first
        |exact z00 _ _
      intro K hK;go_simp;refine hK _ ?_;clear hK K))
   refine z08 (fun wg hwg hf=> ?_);have HB:=zz hwg;obtain⟨A13,c13,he13,hc13⟩:VCv R (.slice A10 R.length c10) wg:=hf 13 _ _ rfl;injection he13 with hA13 _ hc13'
   subst hA13 hc13';have HCR:=zz hc13;have hzz:=hwg.size;have R0:Hid (Vs (fun b=>w.heap.size≤b∧b<wg.heap.size) wg (.slice none 0 0) ((vs.reverse.take 0).reverse)∧Below wg.heap.size wg wg):=⟨by rw [List.take_zero];exact Vs.nilV,Below.refl _ _⟩;rw [HRL.out];clear hwg hf hc10 hc13 b0 b1 HFI HBY HRG a1;go_wp2_with fail
   generalize wg=wo at*;go_loopw [5,29] (fun sv iv wr=>∃ (i:Nat) (A:Option Addr) (c':Nat),sv= .slice A i c'∧iv= .int .i64 (i:Int)∧i≤vs.length∧Hid (Vs (fun b=>w.heap.size≤b∧b<wr.heap.size) wr (.slice A i c') ((vs.reverse.take i).reverse)∧Below wo.heap.size wo wr)) (fun _ iv _=>vs.length-(intOf iv).toNat)
   case atStart=>exact⟨0,none,0,rfl,rfl,by omega,R0⟩
   case round=>
    clear R0;obtain⟨i,A,c',rfl,rfl,hi,RR⟩:=hrel;have hbl:=RR.out.2;have HPV:=zz RR.out.1;clear RR;by_cases hil:i<vs.length
    ·obtain⟨A12,c12,hv12,-,-,-,hA12⟩:=HCR.out.at;injection hv12 with hA12' _ hc12'
     subst hA12' hc12';have hiR:i<R.length:=by rw [HRL.out];exact hil
     obtain⟨b,o,rfl,hbs,hcell⟩:=hA12 (by omega);have k0:wr.cell? ⟨b,o+i*2,none⟩=some (.string (st R[i].1)):=(hbl.cell (p:=⟨b,o+i*2,none⟩) hbs).trans (hcell i hiR).1;have k1:wr.cell? ⟨b,o+i*2+1,none⟩=some (.string (st R[i].2)):=(hbl.cell (p:=⟨b,o+i*2+1,none⟩) hbs).trans (hcell i hiR).2;have HPC:=zz (HVP.out i hil);have hrl:i<vs.reverse.length:=by simpa using hil
     have HNX:Hid ((vs.reverse.take (i+1)).reverse=vs.reverse[i]::(vs.reverse.take i).reverse):=by
      rw [Hid,List.take_succ_eq_append_getElem hrl,List.reverse_append];rfl
     have HPL:Hid (((vs.reverse.take i).reverse).length=i):=by rw [Hid];simp;omega
     have hra:=HRA.out i hil hiR;rw [hra]at k0 k1;simp only at k0 k1;obtain⟨x,hx0⟩:∃x,vs.reverse[i]=x:=⟨_,rfl⟩;rw [hx0]at k0 k1 HPC HNX;obtain⟨kb,hkb⟩:∃kb,z1f key x.t=kb:=⟨_,rfl⟩;obtain⟨vb,hvb⟩:∃vb,zAM x=vb:=⟨_,rfl⟩;rw [hkb]at k0 HPC;rw [hvb]at k1 HPC;obtain⟨t,v,gn⟩:=x;unfold zEX at HPC;simp only at HPC;obtain⟨prev,hprev⟩:∃prev,(vs.reverse.take i).reverse=prev:=⟨_,rfl⟩;rw [hprev]at HPV HNX HPL;have q6:Below wr.heap.size wr (wr.alloc (.cells #[.string (st kb),.string (st vb)] 121)):=(Below.refl _ _).alloc (Nat.le_refl _) _;have HQ6:=zz q6;have HBL:=zz hbl;have hib:(0:Int)≤(i:Int):=by omega
     clear hra hx0 hkb hvb hprev hcell hA12 hrl q6 hbl;go_wp2_with fail
     generalize hW:wr.alloc (.cells #[.string (st kb),.string (st vb)] 121)=W at*;clear hW;refine(HPC.out W).mono ?_;rintro e w2 ⟨rfl,hb2⟩;have hq7:Below wr.heap.size wr w2:=HQ6.out.trans (hb2.mono HQ6.out.size);have hz2:=hq7.size;have hzw:=HB.out.size;have hzb:=HBL.out.size;have HQ8:Hid (∀o1 o2,Below wr.heap.size wr ((w2.alloc o1).alloc o2)):=fun o1 o2=>(hq7.alloc hz2 o1).alloc (by simp;omega) o2
     have hin:i≤100000:=by omega
     have HSZ:Hid (w.heap.size≤w2.heap.size∧w.heap.size≤wr.heap.size∧wo.heap.size≤wr.heap.size∧wo.heap.size≤w2.heap.size):=⟨by omega,by omega,by omega,by omega⟩;clear HPC HQ6 hb2 hq7 hz2 hzw hzb k0 k1 hzz;go_wp2_with (at_builtin;go_loud (refine z05 _ rfl (.tmp 40) (.tmp 41) zAp rfl (z8T _ w.heap.size _ (zAo ⟨t,v,gn⟩) (by simp) (by have:=HSZ.out.1;simp;omega)) (Sl.below HPV.out (HQ8.out _ _) fun b hb=>hb.2) rfl rfl (zJI prev) (by rw [HPL.out];simp only [maxLen];omega) (by rw [HPL.out];omega) (by have:=HSZ.out.1;simp;omega) ?_);intro A5 k5 c5 w5 hown5 hg5 hat5)
     have hk5:=z0V hown5;rw [HPL.out]at hk5;obtain rfl:k5=i+1:=by omega
     have hq9:=HQ8.out;have hb5:Below wo.heap.size wo w5:=z02 ((HBL.out.trans ((HQ8.out _ _).mono HBL.out.size))) (z8T _ wo.heap.size _ (zAo ⟨t,v,gn⟩) (g:=w2.heap.size+1) (by simp) (by have:=HSZ.out.2.2.2;simp;omega)) hg5 (by have:=HSZ.out.2.2.2;simp;omega);have RF:Hid (Vs (fun b=>w.heap.size≤b∧b<w5.heap.size) w5 (.slice A5 (i+1) c5) ((vs.reverse.take (i+1)).reverse)∧Below wo.heap.size wo w5):=by
      refine⟨?_,hb5⟩;rw [HNX.out];unfold Vs;have h1:=Sl.of_own (by omega) hown5;have e2:(((⟨t,v,gn⟩:Vsn)::prev)).length=1+prev.length:=by rw [List.length_cons];omega
      rw [e2];exact h1
     clear hown5 hg5 hat5 hb5 HPV HNX HPL HQ8 HBL HSZ hk5 hq9;go_wp2_with fail
     go_roundw
     case rel=>exact⟨i+1,A5,c5,rfl,by go_num,by omega,RF⟩
     case measure=>simp [intOf];omega
    ·obtain rfl:i=vs.length:=by omega
     have hfin:=HPV.out;rw [show vs.reverse.take vs.length=vs.reverse from by rw [List.take_of_length_le];simp,List.reverse_reverse]at hfin;have HFN:=zz hfin;have HBL:=zz hbl;clear hfin HPV hbl;go_wp2_with fail
     go_ret
     exact⟨A,c',rfl,HFN.out,HB.out.trans (HBL.out.mono HB.out.size)⟩
  ·apply And.intro
   ·repeat(first|exact trivial|(refine⟨Stays.is _,?_⟩)|(refine⟨VCv.stays _,?_⟩))
   ·rfl
theorem zHc(D:Dsk)(a:Int)(c:List UInt8):(D.write a c).nv≤D.nv+1∧(D.write a c).size=D.size∧(D.write a c).limit=D.limit:=by
 unfold Dsk.write
 split
 ·refine⟨?_,rfl,rfl⟩;show(SF.nPut D.view D.nv a)≤D.nv+1;unfold SF.nPut
  split<;>omega
 ·exact⟨Nat.le_add_right _ _,rfl,rfl⟩
theorem z9H{p:Int}{b:List UInt8}(hp:0≤p)(hp2:p+16≤1000)(hb:b.length≤512*16):∀ (m k:Nat) (D:Dsk),D.size=1000→D.limit=1000→D.nv≤100+k→(z3y D p b m k).2=0
 |0,k,D,_,_,_=>by rw [z3y]
 |m+1,k,D,h1,h2,h3=>by
  rw [z3y]
  split
  ·rename_i hk;have hw:D.why (p+(k:Int)) ((b.drop (512*k)).take 512)=0:=by
    unfold Dsk.why;rw [h1,h2,if_neg (by omega),if_neg (by rw [List.length_take];omega),if_neg (by rintro⟨_,h⟩;omega)]
   rw [if_pos hw];obtain⟨e1,e2,e3⟩:=zHc D (p+(k:Int)) ((b.drop (512*k)).take 512);exact z9H hp hp2 hb m (k+1) _ (e2.trans h1) (e3.trans h2) (by omega)
  ·rfl
theorem z9Y{t:List UInt8}(ht:t.length≤7000):(z0P logNew t).2.2=0:=by
 obtain⟨q,hq⟩:∃q,q=(logNew.last+1)%U64:=⟨_,rfl⟩;obtain⟨head,hh⟩:∃head,head=z6u q titleB:=⟨_,rfl⟩;obtain⟨b,hb⟩:∃b,b=z6u q t:=⟨_,rfl⟩;have hqU:q<U64:=by rw [hq];exact Nat.mod_lt _ (by unfold U64;omega)
 have hf:∀ (u:List UInt8),u.length≤7000→(z6u q u).length≤u.length+30:=fun u hu=>by
  rw [z8L];unfold zAL;have h1:=z06 hqU;have h2:(z0A u.length).length≤10:=z06 (by unfold U64;omega);rw [List.length_append,List.length_append];omega
 have h1:=hf t ht;have h2:=hf titleB (by decide);have h3:titleB.length=7:=rfl;rw [←hb]at h1;rw [←hh]at h2;have hs:logNew.size=16:=rfl;have hlong:¬ (32768<t.length∨512*logNew.size<head.length+b.length):=by rw [hs];omega
 have c:ApC logNew q head b (logNew.live++ [⟨0,q,0⟩]) head 0 true:=⟨fun _=>⟨.inl rfl,rfl,rfl,rfl⟩,fun e=>by cases e⟩;have h0:(z3y logNew.D (logNew.a+((0:Nat):Int)*logNew.size) (head++b) (head++b).length (z1L logNew true / 512)).2=0:=by
  have e1:logNew.a+((0:Nat):Int)*logNew.size=802:=rfl;have e2:z1L logNew true / 512=0:=rfl;rw [e1,e2];exact z9H (by omega) (by omega) (by rw [List.length_append];omega) _ 0 _ rfl rfl (Nat.zero_le _)
 rw [z40 hq hh hb hlong c rfl h0]
theorem zA4{at_ hor:Nat}(ha:at_<U64)(hh:hor<U64){ws:List Wri}(hw:∀x∈ws,x.Ok):∀x∈z0W at_ hor ws,x.gone=false∧x.k.length≤139∧x.k.length+x.v.length≤480:=fun x hx=>by
 unfold z0W at hx;rcases List.mem_cons.1 hx with rfl|hx
 ·have:=zCB ha hh;have h1:ttlK.length=1:=rfl;exact⟨rfl,by simp only;omega,by simp only;omega⟩
 ·obtain⟨y,hy,rfl⟩:=List.mem_map.1 hx;have h1:=z4q at_ (hw y hy).k64;have h2:(zAM (y.vs at_)).length≤257:=zGq (hw y hy).v;exact⟨rfl,h1,by show(z1f y.k at_).length+(zAM (y.vs at_)).length≤480;omega⟩
theorem z2z(at_ hor:Nat)(ws:List Wri):(z0W at_ hor ws).length=ws.length+1:=by unfold z0W;simp
theorem zDd{P:Pgr}{at_ hor:Nat}(ha:at_<U64)(hh:hor<U64){ws:List Wri}(hw:∀x∈ws,x.Ok)(h8:ws.length≤8)(hp:P.pages.length+(8+2*(ws.length+1))≤90):z4X P (z0W at_ hor ws)=0:=by
 have hb:=zA4 ha hh hw;have hl:=z2z at_ hor ws;unfold z4X;rw [if_neg (by omega),if_neg,if_neg]
 ·have:z2N (z0W at_ hor ws)≤ws.length+1:=hl▸z8O _;omega
 ·intro h;obtain⟨x,hx,hbad⟩:=List.any_eq_true.1 h;obtain⟨h1,h2,h3⟩:=hb x hx;unfold z45 chN at hbad;rw [h1]at hbad;simp only [Bool.false_eq_true,if_false,Bool.or_eq_true,decide_eq_true_eq]at hbad;omega
theorem Sto.put{w:World}{gs g gl:Nat}{Z:Pz}{P:Pgr}{c:Int→List UInt8}{l:Wl}(s:Sto w gs g gl Z P c l){gv:Nat}{cs:Array Value}(hb:Blk w gv 112 cs)(h0:gv≠0)(i:Nat)(u:Value):Sto (w.setCell ⟨gv,i,none⟩ u) gs g gl Z P c l:=by
 have hs:SameK stKs w (w.setCell ⟨gv,i,none⟩ u):=SameK.setCell (p:=⟨gv,i,none⟩) hb (by decide) u;have T:=s.T.put (i:=i) (z0F hb) (by decide) (Blk.ne hb s.T.blk (by decide)) h0 u;obtain⟨lv,sv,g'⟩:=s.lg;exact⟨s.blk.sameK hs (by decide),T,⟨lv,sv,by rw [s.D];exact T.pg.dk,g'.lb.sameK hs (by decide),KSl.same g'.live hs (by decide),g'.str.same hs (by decide)⟩,s.D,s.ok⟩
structure Vx(w W:World)(gv gs g gl:Nat)(Z:Pz)(P:Pgr)(c:Int→List UInt8)(l:Wl)(N:Nat)(rows:List Rw)(tl:List Cel)(last hor:Nat):Prop where
 s:Sy w W gs g gl Z P c l N (vwC rows tl)
 blk:Blk W gv 112 #[.pointer (some ⟨gs,0,none⟩),.int .u64 (last:Int),.int .u64 (hor:Int)]
 gvn:w.heap.size≤gv
 pos:0<w.heap.size
 bits:BitsOk W
 ok:RowsOk rows
 tok:zIO tl
 under:zGp rows (last+1)
 hl:hor≤last
 ln:last≤N
section
variable {w W W':World} {gv gs g gl:Nat} {Z Z':Pz} {P P':Pgr} {c:Int→List UInt8} {l l':Wl} {N:Nat} {rows:List Rw} {tl:List Cel} {last hor:Nat}
theorem Vx.later(x:Vx w W gv gs g gl Z P c l N rows tl last hor)(hb:Below W.heap.size W W'):Vx w W' gv gs g gl Z P c l N rows tl last hor:=
 ⟨x.s.later hb,x.blk.later hb,x.gvn,x.pos,x.bits.later hb,x.ok,x.tok,x.under,x.hl,x.ln⟩
theorem Vx.vv(x:Vx w W gv gs g gl Z P c l N rows tl last hor)(hN:N≤90):Vv W gv gs g rows tl last hor:=
 ⟨x.blk,⟨_,_,x.s.s.blk⟩,x.s.range hN,x.ok,x.tok,x.bits⟩
theorem Vx.few(x:Vx w W gv gs g gl Z P c l N rows tl last hor)(hN:N≤90):(z3M rows).length≤100000:=by
 have:=x.s.len;unfold vwC at this;rw [List.length_append]at this;omega
theorem z98{at_:Nat}{ws:List Wri}{rows:List Rw}(h:RowsOk rows)(hu:zGp rows at_)(hw:∀w∈ws,w.Ok)(hd:ws.Pairwise fun a b=>a.k≠b.k)(h0:0<at_)(h64:at_<U64):zGp (z31 at_ rows ws) (at_+1):=fun r hr x hx=>by
 obtain⟨h1,h2⟩:=z4M h (fun w hm=>⟨hw w hm,fun x hx=>by obtain⟨r,hr,_,hv⟩:=z3p hx;exact hu r hr x (hv▸hx)⟩) hd h0 h64;have hc:=(h2 (zAJ r.k x)).1 (z6S.2 ⟨r,hr,x,hx,rfl⟩);have ht:=((h1.rw r hr).vs x hx).t64;rcases hc with hc|⟨w,hw2,hc⟩
 ·obtain⟨r2,hr2,x2,hx2,e⟩:=z6S.1 hc;have h3:=hu r2 hr2 x2 hx2;have h4:=(z5u ht ((h.rw r2 hr2).vs x2 hx2).t64 (congrArg Prod.fst e)).2;omega
 ·have h4:=(z5u ht h64 (congrArg Prod.fst hc)).2;have h5:(w.vs at_).t=at_:=rfl;omega
theorem zEo(x:Vx w W gv gs g gl Z P c l N rows tl last hor)(hN:N≤90)(S:Nat→Prop)(v0:Value)(ws:List Wri)(hr:Wrs S W v0 ws)(hc:z7I ws=0){pg:Nat}(hpg:gv=pg):
 Calls Tryz.prog 21 #[.pointer (some ⟨pg,0,none⟩),.int .u64 ((last+1:Nat):Int),v0] W fun e W'=>∃er:Nat,e= .returned (.int .i64 (er:Int))∧(l=logNew→P.pages.length+(8+2*(ws.length+1))≤90→ws.length≤5→er=0)∧
  ∃Z' P' l',Vx w W' gv gs g gl Z' P' c l' (N+1) (if er=0 then z31 (last+1) rows ws else rows) (if er=0 then [(ttlK,zDs (last+1) hor)]else tl) (if er=0 then last+1 else last) hor∧Turn (fun b=>Z.has b∨b=gl∨b=gv) W W'∧∀b,Z'.has b→Z.has b∨W.heap.size≤b:=by
 obtain⟨ne,h8,hok,hasc⟩:=zEl hc;have hln:=x.ln;have hhl:=x.hl;have haU:last+1<U64:=by unfold U64;omega
 have hhU:hor<U64:=by unfold U64;omega
 have hbd:=zA4 (at_:=last+1) haU hhU hok;have hd:ws.Pairwise fun a b=>a.k≠b.k:=hasc.imp fun h=>h.ne
 obtain⟨hrows,hcells⟩:=z9I x.ok x.tok hor x.under hok hd (by omega) haU;obtain⟨lv,sv,hlv⟩:=x.s.s.lg;have hgl:=hlv.lb.lt;have hgvgl:gv≠gl:=Blk.ne x.blk hlv.lb (by decide);have hzgv:¬Z.has gv:=Pz.not_kind x.s.s.T.pg (z0F x.blk) (by decide) (by decide) (by decide) (by decide);refine(zAb x.blk x.bits S v0 ws hr (by omega) hhU hc
  (fun er w'=>(l=logNew→P.pages.length+(8+2*(ws.length+1))≤90→ws.length≤5→er=0)∧∃Z' P' l',Sy w w' gs g gl Z' P' c l' (N+1) (if er=0 then z3Z (vwC rows tl) (z0W (last+1) hor ws)else vwC rows tl)∧BitsOk w'∧Turn (fun b=>Z.has b∨b=gl) W w'∧∀b,Z'.has b→Z.has b∨W.heap.size≤b)
  (fun wg v1 hwg hch=> ?_) hpg).mono ?_
 ·have hsg:=x.s.later hwg;have hap:=zH3 hsg v1 (cs:=z0W (last+1) hor ws) (by
   exact Sl.more hch fun b hb=>⟨fun e=>by have:=x.s.s.T.pg.lt e;omega,by omega⟩) (by rw [z2z];omega) (fun y hy=>by have:=(hbd y hy).2;omega) (fun hm D'=>zFa x.s.tree hbd hm D') (fun y hy e=>by rw [(hbd y hy).1]at e;cases e) hN rfl
  refine hap.mono ?_;rintro e w' ⟨n,er,he,hfirst,Z',P',l',hsy,hop⟩;have ht:Turn (fun b=>Z.has b∨b=gl) W w':=(Turn.of_below hwg).trans hop.turn fun b hb=> .inl hb
  refine⟨n,er,he,⟨fun h1 h2 h3=>hfirst (zDd haU hhU hok h8 h2) ?_,Z',P',l',hsy,?_,ht,fun b hb=>(hop.has b hb).imp id fun h=>Nat.le_trans hwg.size h⟩,?_⟩
  ·rw [h1];refine z9Y ?_;have h4:=z4b (l:=z0W (last+1) hor ws) fun y hy=>by
    obtain⟨a1,a2,a3⟩:=hbd y hy;exact⟨by omega,fun _=>by omega⟩
   rw [z2z]at h4;have h5:(z0A (z0W (last+1) hor ws).length).length≤10:=z06 (by rw [z2z];unfold U64;omega);unfold z1S;rw [List.length_append];omega
  ·exact hsy.s.T.bits
  ·exact x.blk.turn ht (by rintro(h|h);exact hzgv h;exact hgvgl h)
 ·rintro e W' ⟨er,w1,⟨hfirst,Z',P',l',hsy,hbits,htu,hhas⟩,hblk,hne,hz⟩;by_cases h0:er=0
  ·subst h0;obtain⟨rfl,rfl⟩:=hz rfl;rw [if_pos rfl]at hsy;rw [hcells]at hsy;refine⟨0,rfl,fun _ _ _=>rfl,Z',P',l',?_,?_,hhas⟩
   ·rw [if_pos rfl,if_pos rfl,if_pos rfl];have hgv0:gv≠0:=by have:=x.gvn;have:=x.pos;omega
    have hb2:=hblk.put 1 (.int .u64 ((last+1:Nat):Int));have hS:=hsy.s.put hblk hgv0 1 (.int .u64 ((last+1:Nat):Int));exact⟨⟨hS,hsy.tree,hsy.tb,hsy.new,hsy.gsn,hsy.gn,hsy.gln,hsy.below.setCell x.gvn _,hsy.size,hsy.pend,hsy.len⟩,hb2,x.gvn,x.pos,hS.T.bits,hrows,.inr ⟨_,rfl⟩,z98 x.ok x.under hok hd (by omega) haU,by omega,by omega⟩
   ·exact(htu.mono fun b hb _=>hb.elim .inl fun h=> .inr (.inl h)).setCell (.inl (.inr (.inr rfl))) _
  ·obtain⟨rfl,rfl⟩:=hne h0;rw [if_neg h0]at hsy;refine⟨er,rfl,hfirst,Z',P',l',?_,htu.mono fun b hb _=>hb.elim .inl fun h=> .inr (.inl h),hhas⟩;rw [if_neg h0,if_neg h0,if_neg h0];exact⟨hsy,hblk,x.gvn,x.pos,hbits,x.ok,x.tok,x.under,x.hl,by omega⟩
end
def z12(l:List Rw)(k:List UInt8):List Rw:=l.filter fun r=>Op.bytesLess k r.k
theorem zHX(k r:List UInt8):(!Op.bytesLess r (k++ [0]))=Op.bytesLess k r:=by
 rcases z7G (a:=k) (b:=r)with q|q|q
 ·rw [z0L.2 q,z2T.2 (zAy q)];rfl
 ·subst q;rw [z0L.2 (z5I k),z5v];rfl
 ·rw [z0L.2 (q.trans (z5I k)),z2T.2 q.not];rfl
theorem z7h(l:List Rw)(k:List UInt8):z4d l (k++ [0])=(z12 l k)[0]? :=by
 unfold z4d z12;rw [←List.head?_eq_getElem?,List.head?_filter]
 congr 1
 funext r
 exact zHX k r.k
theorem z7f:∀ {m:List Rw},(m.Pairwise fun a b=>Lt a.k b.k)→∀ {j:Nat} (hj:j<m.length),m.filter (fun r=>Op.bytesLess m[j].k r.k)=m.drop (j+1)
 | [],_,j,hj=>by simp at hj
 |a::m,h,0,hj=>by
  obtain⟨h1,h2⟩:=List.pairwise_cons.1 h;simp only [List.getElem_cons_zero,List.drop_succ_cons,List.drop_zero];rw [List.filter_cons,if_neg (by rw [z5v];simp),List.filter_eq_self];exact fun r hr=>z0L.2 (h1 r hr)
 |a::m,h,j+1,hj=>by
  obtain⟨h1,h2⟩:=List.pairwise_cons.1 h;have hj':j<m.length:=by simpa using hj
  simp only [List.getElem_cons_succ,List.drop_succ_cons];rw [List.filter_cons,if_neg]
  ·exact z7f h2 hj'
  ·rw [z2T.2 (h1 _ (List.getElem_mem hj')).not];simp
theorem zAm{l:List Rw}(h:RowsOk l)(k:List UInt8){j:Nat}(hj:j<(z12 l k).length):z12 l (z12 l k)[j].k=(z12 l k).drop (j+1):=by
 have hs:(z12 l k).Pairwise fun a b=>Lt a.k b.k:=h.asc.filter _
 rw [←z7f hs hj];have hk:Op.bytesLess k (z12 l k)[j].k=true:=(List.mem_filter.1 (List.getElem_mem hj)).2;generalize (z12 l k)[j].k=x at*;unfold z12;rw [List.filter_filter];apply List.filter_congr;intro r _;cases hx:Op.bytesLess x r.k with
 |false=>rfl
 |true=>rw [z0L.2 ((z0L.1 hk).trans (z0L.1 hx))];rfl
theorem zDk{l:List Rw}(h:RowsOk l)(k:List UInt8){j:Nat}(hj:j<(z12 l k).length):z4d l ((z12 l k)[j].k++ [0])=(z12 l k)[j+1]? :=by
 rw [z7h,zAm h k hj,List.getElem?_drop]
def z4D(most:Int):Nat:=if most<1 then 1 else if most<8 then most.toNat else 8
def zFc(m:List Rw)(n:Nat)(w:World)(e:Ending)(w':World):Prop:=
 ∃A c p,e= .returned (.tuple #[.slice A p.length c,.bool (decide (n<m.length))])∧p.map (·.1)=m.take n∧Rws (fun b=>w.heap.size≤b∧b<w'.heap.size) w' (.slice A p.length c) p∧Below w.heap.size w w'
structure ChkS(w wr:World)(sv:Value)(p:RwV)(m:List Rw)(key:List UInt8)(ok:Bool):Prop where
 own:Rwo wr w.heap.size sv p
 below:Below w.heap.size w wr
 rows:p.map (·.1)=m.take p.length
 nx:(ok=true∧∃h:p.length<m.length,key=m[p.length].k)∨(ok=false∧p.length=m.length)
theorem z2D{m:List Rw}{j:Nat}:∃key ok,zBb m[j]? = .tuple #[.string (st key),.bool ok]∧((ok=true∧∃h:j<m.length,key=m[j].k)∨(ok=false∧m.length≤j)):=by
 by_cases h:j<m.length
 ·rw [List.getElem?_eq_getElem h];exact⟨_,_,rfl,.inl ⟨rfl,h,rfl⟩⟩
 ·rw [List.getElem?_eq_none (by omega)];exact⟨_,_,rfl,.inr ⟨rfl,by omega⟩⟩
theorem z7T{w:World}{gv gs g:Nat}{l:List Rw}{tl:List Cel}{last hor:Nat}(h:Vv w gv gs g l tl last hor)(hfew:(z3M l).length≤100000)(after:List UInt8)(hk:after.length≤100000000)(most:Int)(hm: -9223372036854775808≤most∧most≤9223372036854775807){pg:Nat}(hpg:gv=pg):
 Calls Tryz.prog 18 #[.pointer (some ⟨pg,0,none⟩),.string (st after),.int .i64 most] w (zFc (z12 l after) (z4D most) w):=by
 subst hpg;have HV:=zz h;have HFEW:=zz hfew;obtain⟨n,hn⟩:∃n,z4D most=n:=⟨_,rfl⟩;have hn8:1≤n∧n≤8:=by rw [←hn];unfold z4D;split;omega;split<;>omega
 have HAB:=zz (z42 h after (by omega) rfl);have hah:=z7h l after;rw [hah]at HAB;have HST:Hid (∀ (j:Nat) (hj:j<(z12 l after).length),z4d l ((z12 l after)[j].k++ [0])=(z12 l after)[j+1]?):=fun j hj=>zDk h.ok after hj
 have HVS:Hid (∀ (j:Nat) (hj:j<(z12 l after).length),z3L l (z12 l after)[j].k=(z12 l after)[j].vs∧(z12 l after)[j].k.length≤64):=fun j hj=>by
  have hmem:(z12 l after)[j]∈l:=(List.mem_filter.1 (List.getElem_mem hj)).1;exact⟨z88 h.ok hmem,(h.ok.rw _ hmem).k64⟩
 rw [hn];obtain⟨m,hm0⟩:∃m,z12 l after=m:=⟨_,rfl⟩;rw [hm0]at HAB HST HVS ⊢;have hmx:(max most 1:Int)=if most<1 then 1 else most:=by split<;>omega
 clear h hfew hah hm0;by_cases h1:most<1
 ·obtain rfl:n=1:=by rw [←hn];unfold z4D;rw [if_pos h1]
  rw [if_pos h1]at hmx;have hi1:¬ (8:Int)<1:=by omega
  have hmn:min (1:Int) 8=((1:Nat):Int):=by omega
  clear hn;go_enter Tryz.func18,Tryz.ntmps18
  go_wp2_with fail
  refine HAB.out.mono ?_;rintro e w1 ⟨he,hb1⟩;obtain⟨key0,ok0,hav,hkc⟩:=z2D (m:=m) (j:=0);rw [hav]at he;obtain rfl:=he;have R0:Hid (ChkS w w1 (.slice none 0 0) [] m key0 ok0):=⟨Rwo.nil _ _,hb1,by simp,by
   rcases hkc with h|⟨h1,h2⟩
   ·exact .inl h
   ·exact .inr ⟨h1,by simp;omega⟩⟩
  clear hb1 hav hkc HAB;go_wp2_with fail
  go_loopw [8,9,10] (fun sv kv bv wr=>∃ (A:Option Addr) (c':Nat) (p:RwV) (key:List UInt8) (ok:Bool),sv= .slice A p.length c'∧kv= .string (st key)∧bv= .bool ok∧p.length≤1∧Hid (ChkS w wr (.slice A p.length c') p m key ok)) (fun sv _ _ _=>8-sLen sv)
  case atStart=>exact⟨none,0,[],key0,ok0,rfl,rfl,rfl,by simp,R0⟩
  case round=>
   clear R0;obtain⟨A,c',p,key,ok,rfl,rfl,rfl,hp,RR⟩:=hrel;have hbl:=RR.out.below;cases ok with
   |false=>
    have hfin:p.length=m.length:=by
     rcases RR.out.nx with⟨h,_⟩|⟨_,h⟩
     ·cases h
     ·exact h
    have HE:Hid (decide (1<m.length)=false∧p.map (·.1)=m.take 1):=by
     refine⟨decide_eq_false (by omega),?_⟩;rw [RR.out.rows,List.take_of_length_le (by omega),List.take_of_length_le (by omega)]
    have HR:=zz RR.out.own.rws;clear RR hfin;go_wp2_with fail
    go_ret2
    exact⟨A,c',p,by rw [HE.out.1];rfl,HE.out.2,HR.out,hbl⟩
   |true=>
    obtain⟨hlt,hkey⟩:∃h:p.length<m.length,key=m[p.length].k:=by
     rcases RR.out.nx with⟨_,h⟩|⟨h,_⟩
     ·exact h
     ·cases h
    by_cases hpn:p.length<1
    ·have hvs:=HVS.out _ hlt;have hsp:=HST.out _ hlt;rw [←hkey]at hvs hsp;have HRW:Hid (p.map (·.1)++ [⟨key,m[p.length].vs⟩]=m.take (p.length+1)):=by
      rw [Hid,RR.out.rows,List.take_succ_eq_append_getElem hlt,hkey]
     have HVR:=zz (z38 (HV.out.later hbl) HFEW.out key (by omega) rfl);rw [hvs.1]at HVR;have HAN:=zz (fun(wg:World) (hwg:Below w.heap.size w wg)=>z42 (HV.out.later hwg) key (by omega) rfl);rw [hsp]at HAN;obtain⟨vs,hvs0⟩:∃vs,m[p.length].vs=vs:=⟨_,rfl⟩;rw [hvs0]at HVR HRW;have HCS:=zz RR.out;have HBL:=zz hbl;have hp8:p.length+1≤8:=by omega
     have e5:decide ((p.length:Int)<(1:Int))=true:=by rw [decide_eq_true_eq];omega
     have e6:decide (p.length<1)=true:=decide_eq_true hpn;clear RR hvs hsp hkey hvs0 hbl hlt;go_wp2_with fail
     refine HVR.out.mono ?_;rintro e w4 ⟨A4,c4,rfl,hv4,hb4⟩;have HO4:=zz (HCS.out.own.later hb4);have hzb:=HBL.out.size;have hz4:=hb4.size;have HQ4:=zz (HBL.out.trans (hb4.mono hzb));have HU:Hid (Vs (fun b=>w.heap.size≤b∧b<w4.heap.size∧(Value.slice A p.length c').ownBlock≠some b) w4 (.slice A4 vs.length c4) vs):=hv4.more fun b hb=>⟨by omega,hb.2,fun e=>by
      have:=(HCS.out.own.own.lt b e).2;omega⟩
     have hwz:w.heap.size≤w4.heap.size:=by omega
     clear HVR hv4 hb4 HCS HBL hzb hz4;go_wp2_with (at_builtin;go_loud (refine z05 _ rfl (.tmp 33) (.tmp 39) z74 rfl (HO4.out.later ((Below.refl _ _).alloc (Nat.le_refl _) _)).own (Sl.newb (S:=fun _=>True) _ _ [.string (st key),.slice A4 vs.length c4] (by simp) trivial) rfl rfl (by intro y hy;simp at hy;rcases hy with rfl|rfl<;>rfl) (by simp only [maxLen];omega) (by omega) (by simp;omega) ?_);intro A5 k5 c5 w5 hown5 hg5 hat5)
     obtain rfl:k5=p.length+1:=z0V hown5;have hro5:Rwo w5 w.heap.size (.slice A5 (p.length+1) c5) (p++ [(⟨key,vs⟩,.slice A4 vs.length c4)]):=HO4.out.step hwz hown5 hg5 hat5 HU.out;have hb5:Below w.heap.size w w5:=z02 (HQ4.out.alloc hwz _) (HO4.out.later ((Below.refl _ _).alloc (Nat.le_refl _) _)).own hg5 (by simp;omega);have HO5:=zz hro5;have HB5:=zz hb5;clear hro5 hb5 hown5 hg5 hat5 HO4 HU HQ4;go_wp2_with fail
     refine(HAN.out w5 HB5.out).mono ?_;rintro e w6 ⟨he6,hb6⟩;obtain⟨key6,ok6,hav6,hkc6⟩:=z2D (m:=m) (j:=p.length+1);rw [hav6]at he6;obtain rfl:=he6;have hpl:(p++ [((⟨key,vs⟩:Rw),Value.slice A4 vs.length c4)]).length=p.length+1:=by simp
     have RF:Hid (ChkS w w6 (.slice A5 (p.length+1) c5) (p++ [(⟨key,vs⟩,.slice A4 vs.length c4)]) m key6 ok6):=by
      refine⟨HO5.out.later hb6,HB5.out.trans (hb6.mono HB5.out.size),?_,?_⟩
      ·rw [List.map_append,hpl];exact HRW.out
      ·rcases hkc6 with⟨h1,h2,h3⟩|⟨h1,h2⟩
       ·exact .inl ⟨h1,by rw [hpl];exact h2,by simp only [hpl];exact h3⟩
       ·refine .inr ⟨h1,?_⟩;have h4:=congrArg List.length HRW.out;simp at h4 ⊢;omega
     clear HO5 HB5 HRW HAN hb6 hav6 hkc6;go_wp2_with fail
     go_roundw
     case rel=>exact⟨A5,c5,p++ [(⟨key,vs⟩,.slice A4 vs.length c4)],key6,ok6,by rw [hpl],rfl,rfl,by rw [hpl];omega,by rw [hpl];exact RF⟩
     case measure=>simp [sLen];omega
    ·have hpe:p.length=1:=by omega
     have HE:Hid (decide (1<m.length)=true∧p.map (·.1)=m.take 1):=by
      refine⟨decide_eq_true (by omega),?_⟩;rw [RR.out.rows,hpe]
     have HR:=zz RR.out.own.rws;have e5:decide ((p.length:Int)<(1:Int))=false:=by rw [decide_eq_false_iff_not];omega
     have e6:decide (p.length<1)=false:=decide_eq_false hpn;clear RR hkey hlt hpe hpn;go_wp2_with fail
     go_ret2
     exact⟨A,c',p,by rw [HE.out.1];rfl,HE.out.2,HR.out,hbl⟩
 ·rw [if_neg h1]at hmx;by_cases h2:most<8
  ·obtain rfl:most=(n:Int):=by rw [←hn];unfold z4D;rw [if_neg h1,if_pos h2];omega
   have hi1:¬ (8:Int)<(n:Int):=by omega
   have hmn:min (n:Int) 8=(n:Int):=by omega
   clear hn;go_enter Tryz.func18,Tryz.ntmps18
   go_wp2_with fail
   refine HAB.out.mono ?_;rintro e w1 ⟨he,hb1⟩;obtain⟨key0,ok0,hav,hkc⟩:=z2D (m:=m) (j:=0);rw [hav]at he;obtain rfl:=he;have R0:Hid (ChkS w w1 (.slice none 0 0) [] m key0 ok0):=⟨Rwo.nil _ _,hb1,by simp,by
    rcases hkc with h|⟨h1,h2⟩
    ·exact .inl h
    ·exact .inr ⟨h1,by simp;omega⟩⟩
   clear hb1 hav hkc HAB;go_wp2_with fail
   go_loopw [8,9,10] (fun sv kv bv wr=>∃ (A:Option Addr) (c':Nat) (p:RwV) (key:List UInt8) (ok:Bool),sv= .slice A p.length c'∧kv= .string (st key)∧bv= .bool ok∧p.length≤n∧Hid (ChkS w wr (.slice A p.length c') p m key ok)) (fun sv _ _ _=>8-sLen sv)
   case atStart=>exact⟨none,0,[],key0,ok0,rfl,rfl,rfl,by simp,R0⟩
   case round=>
    clear R0;obtain⟨A,c',p,key,ok,rfl,rfl,rfl,hp,RR⟩:=hrel;have hbl:=RR.out.below;cases ok with
    |false=>
     have hfin:p.length=m.length:=by
      rcases RR.out.nx with⟨h,_⟩|⟨_,h⟩
      ·cases h
      ·exact h
     have HE:Hid (decide (n<m.length)=false∧p.map (·.1)=m.take n):=by
      refine⟨decide_eq_false (by omega),?_⟩;rw [RR.out.rows,List.take_of_length_le (by omega),List.take_of_length_le (by omega)]
     have HR:=zz RR.out.own.rws;clear RR hfin;go_wp2_with fail
     go_ret2
     exact⟨A,c',p,by rw [HE.out.1];rfl,HE.out.2,HR.out,hbl⟩
    |true=>
     obtain⟨hlt,hkey⟩:∃h:p.length<m.length,key=m[p.length].k:=by
      rcases RR.out.nx with⟨_,h⟩|⟨h,_⟩
      ·exact h
      ·cases h
     by_cases hpn:p.length<n
     ·have hvs:=HVS.out _ hlt;have hsp:=HST.out _ hlt;rw [←hkey]at hvs hsp;have HRW:Hid (p.map (·.1)++ [⟨key,m[p.length].vs⟩]=m.take (p.length+1)):=by
       rw [Hid,RR.out.rows,List.take_succ_eq_append_getElem hlt,hkey]
      have HVR:=zz (z38 (HV.out.later hbl) HFEW.out key (by omega) rfl);rw [hvs.1]at HVR;have HAN:=zz (fun(wg:World) (hwg:Below w.heap.size w wg)=>z42 (HV.out.later hwg) key (by omega) rfl);rw [hsp]at HAN;obtain⟨vs,hvs0⟩:∃vs,m[p.length].vs=vs:=⟨_,rfl⟩;rw [hvs0]at HVR HRW;have HCS:=zz RR.out;have HBL:=zz hbl;have hp8:p.length+1≤8:=by omega
      have e5:decide ((p.length:Int)<(n:Int))=true:=by rw [decide_eq_true_eq];omega
      have e6:decide (p.length<n)=true:=decide_eq_true hpn;clear RR hvs hsp hkey hvs0 hbl hlt;go_wp2_with fail
      refine HVR.out.mono ?_;rintro e w4 ⟨A4,c4,rfl,hv4,hb4⟩;have HO4:=zz (HCS.out.own.later hb4);have hzb:=HBL.out.size;have hz4:=hb4.size;have HQ4:=zz (HBL.out.trans (hb4.mono hzb));have HU:Hid (Vs (fun b=>w.heap.size≤b∧b<w4.heap.size∧(Value.slice A p.length c').ownBlock≠some b) w4 (.slice A4 vs.length c4) vs):=hv4.more fun b hb=>⟨by omega,hb.2,fun e=>by
       have:=(HCS.out.own.own.lt b e).2;omega⟩
      have hwz:w.heap.size≤w4.heap.size:=by omega
      clear HVR hv4 hb4 HCS HBL hzb hz4;go_wp2_with (at_builtin;go_loud (refine z05 _ rfl (.tmp 33) (.tmp 39) z74 rfl (HO4.out.later ((Below.refl _ _).alloc (Nat.le_refl _) _)).own (Sl.newb (S:=fun _=>True) _ _ [.string (st key),.slice A4 vs.length c4] (by simp) trivial) rfl rfl (by intro y hy;simp at hy;rcases hy with rfl|rfl<;>rfl) (by simp only [maxLen];omega) (by omega) (by simp;omega) ?_);intro A5 k5 c5 w5 hown5 hg5 hat5)
      obtain rfl:k5=p.length+1:=z0V hown5;have hro5:Rwo w5 w.heap.size (.slice A5 (p.length+1) c5) (p++ [(⟨key,vs⟩,.slice A4 vs.length c4)]):=HO4.out.step hwz hown5 hg5 hat5 HU.out;have hb5:Below w.heap.size w w5:=z02 (HQ4.out.alloc hwz _) (HO4.out.later ((Below.refl _ _).alloc (Nat.le_refl _) _)).own hg5 (by simp;omega);have HO5:=zz hro5;have HB5:=zz hb5;clear hro5 hb5 hown5 hg5 hat5 HO4 HU HQ4;go_wp2_with fail
      refine(HAN.out w5 HB5.out).mono ?_;rintro e w6 ⟨he6,hb6⟩;obtain⟨key6,ok6,hav6,hkc6⟩:=z2D (m:=m) (j:=p.length+1);rw [hav6]at he6;obtain rfl:=he6;have hpl:(p++ [((⟨key,vs⟩:Rw),Value.slice A4 vs.length c4)]).length=p.length+1:=by simp
      have RF:Hid (ChkS w w6 (.slice A5 (p.length+1) c5) (p++ [(⟨key,vs⟩,.slice A4 vs.length c4)]) m key6 ok6):=by
       refine⟨HO5.out.later hb6,HB5.out.trans (hb6.mono HB5.out.size),?_,?_⟩
       ·rw [List.map_append,hpl];exact HRW.out
       ·rcases hkc6 with⟨h1,h2,h3⟩|⟨h1,h2⟩
        ·exact .inl ⟨h1,by rw [hpl];exact h2,by simp only [hpl];exact h3⟩
        ·refine .inr ⟨h1,?_⟩;have h4:=congrArg List.length HRW.out;simp at h4 ⊢;omega
      clear HO5 HB5 HRW HAN hb6 hav6 hkc6;go_wp2_with fail
      go_roundw
      case rel=>exact⟨A5,c5,p++ [(⟨key,vs⟩,.slice A4 vs.length c4)],key6,ok6,by rw [hpl],rfl,rfl,by rw [hpl];omega,by rw [hpl];exact RF⟩
      case measure=>simp [sLen];omega
     ·have hpe:p.length=n:=by omega
      have HE:Hid (decide (n<m.length)=true∧p.map (·.1)=m.take n):=by
       refine⟨decide_eq_true (by omega),?_⟩;rw [RR.out.rows,hpe]
      have HR:=zz RR.out.own.rws;have e5:decide ((p.length:Int)<(n:Int))=false:=by rw [decide_eq_false_iff_not];omega
      have e6:decide (p.length<n)=false:=decide_eq_false hpn;clear RR hkey hlt hpe hpn;go_wp2_with fail
      go_ret2
      exact⟨A,c',p,by rw [HE.out.1];rfl,HE.out.2,HR.out,hbl⟩
  ·obtain rfl:n=8:=by rw [←hn];unfold z4D;rw [if_neg h1,if_neg h2]
   have hmn:min most 8=((8:Nat):Int):=by omega
   have hge:(8:Int)≤most:=by omega
   clear hn;go_enter Tryz.func18,Tryz.ntmps18
   go_wp2_with fail
   refine HAB.out.mono ?_;rintro e w1 ⟨he,hb1⟩;obtain⟨key0,ok0,hav,hkc⟩:=z2D (m:=m) (j:=0);rw [hav]at he;obtain rfl:=he;have R0:Hid (ChkS w w1 (.slice none 0 0) [] m key0 ok0):=⟨Rwo.nil _ _,hb1,by simp,by
    rcases hkc with h|⟨h1,h2⟩
    ·exact .inl h
    ·exact .inr ⟨h1,by simp;omega⟩⟩
   clear hb1 hav hkc HAB;go_wp2_with fail
   go_loopw [8,9,10] (fun sv kv bv wr=>∃ (A:Option Addr) (c':Nat) (p:RwV) (key:List UInt8) (ok:Bool),sv= .slice A p.length c'∧kv= .string (st key)∧bv= .bool ok∧p.length≤8∧Hid (ChkS w wr (.slice A p.length c') p m key ok)) (fun sv _ _ _=>8-sLen sv)
   case atStart=>exact⟨none,0,[],key0,ok0,rfl,rfl,rfl,by simp,R0⟩
   case round=>
    clear R0;obtain⟨A,c',p,key,ok,rfl,rfl,rfl,hp,RR⟩:=hrel;have hbl:=RR.out.below;cases ok with
    |false=>
     have hfin:p.length=m.length:=by
      rcases RR.out.nx with⟨h,_⟩|⟨_,h⟩
      ·cases h
      ·exact h
     have HE:Hid (decide (8<m.length)=false∧p.map (·.1)=m.take 8):=by
      refine⟨decide_eq_false (by omega),?_⟩;rw [RR.out.rows,List.take_of_length_le (by omega),List.take_of_length_le (by omega)]
     have HR:=zz RR.out.own.rws;clear RR hfin;go_wp2_with fail
     go_ret2
     exact⟨A,c',p,by rw [HE.out.1];rfl,HE.out.2,HR.out,hbl⟩
    |true=>
     obtain⟨hlt,hkey⟩:∃h:p.length<m.length,key=m[p.length].k:=by
      rcases RR.out.nx with⟨_,h⟩|⟨h,_⟩
      ·exact h
      ·cases h
     by_cases hpn:p.length<8
     ·have hvs:=HVS.out _ hlt;have hsp:=HST.out _ hlt;rw [←hkey]at hvs hsp;have HRW:Hid (p.map (·.1)++ [⟨key,m[p.length].vs⟩]=m.take (p.length+1)):=by
       rw [Hid,RR.out.rows,List.take_succ_eq_append_getElem hlt,hkey]
      have HVR:=zz (z38 (HV.out.later hbl) HFEW.out key (by omega) rfl);rw [hvs.1]at HVR;have HAN:=zz (fun(wg:World) (hwg:Below w.heap.size w wg)=>z42 (HV.out.later hwg) key (by omega) rfl);rw [hsp]at HAN;obtain⟨vs,hvs0⟩:∃vs,m[p.length].vs=vs:=⟨_,rfl⟩;rw [hvs0]at HVR HRW;have HCS:=zz RR.out;have HBL:=zz hbl;have hp8:p.length+1≤8:=by omega
      have e5:decide ((p.length:Int)<(8:Int))=true:=by rw [decide_eq_true_eq];omega
      have e6:decide (p.length<8)=true:=decide_eq_true hpn;clear RR hvs hsp hkey hvs0 hbl hlt;go_wp2_with fail
      refine HVR.out.mono ?_;rintro e w4 ⟨A4,c4,rfl,hv4,hb4⟩;have HO4:=zz (HCS.out.own.later hb4);have hzb:=HBL.out.size;have hz4:=hb4.size;have HQ4:=zz (HBL.out.trans (hb4.mono hzb));have HU:Hid (Vs (fun b=>w.heap.size≤b∧b<w4.heap.size∧(Value.slice A p.length c').ownBlock≠some b) w4 (.slice A4 vs.length c4) vs):=hv4.more fun b hb=>⟨by omega,hb.2,fun e=>by
       have:=(HCS.out.own.own.lt b e).2;omega⟩
      have hwz:w.heap.size≤w4.heap.size:=by omega
      clear HVR hv4 hb4 HCS HBL hzb hz4;go_wp2_with (at_builtin;go_loud (refine z05 _ rfl (.tmp 33) (.tmp 39) z74 rfl (HO4.out.later ((Below.refl _ _).alloc (Nat.le_refl _) _)).own (Sl.newb (S:=fun _=>True) _ _ [.string (st key),.slice A4 vs.length c4] (by simp) trivial) rfl rfl (by intro y hy;simp at hy;rcases hy with rfl|rfl<;>rfl) (by simp only [maxLen];omega) (by omega) (by simp;omega) ?_);intro A5 k5 c5 w5 hown5 hg5 hat5)
      obtain rfl:k5=p.length+1:=z0V hown5;have hro5:Rwo w5 w.heap.size (.slice A5 (p.length+1) c5) (p++ [(⟨key,vs⟩,.slice A4 vs.length c4)]):=HO4.out.step hwz hown5 hg5 hat5 HU.out;have hb5:Below w.heap.size w w5:=z02 (HQ4.out.alloc hwz _) (HO4.out.later ((Below.refl _ _).alloc (Nat.le_refl _) _)).own hg5 (by simp;omega);have HO5:=zz hro5;have HB5:=zz hb5;clear hro5 hb5 hown5 hg5 hat5 HO4 HU HQ4;go_wp2_with fail
      refine(HAN.out w5 HB5.out).mono ?_;rintro e w6 ⟨he6,hb6⟩;obtain⟨key6,ok6,hav6,hkc6⟩:=z2D (m:=m) (j:=p.length+1);rw [hav6]at he6;obtain rfl:=he6;have hpl:(p++ [((⟨key,vs⟩:Rw),Value.slice A4 vs.length c4)]).length=p.length+1:=by simp
      have RF:Hid (ChkS w w6 (.slice A5 (p.length+1) c5) (p++ [(⟨key,vs⟩,.slice A4 vs.length c4)]) m key6 ok6):=by
       refine⟨HO5.out.later hb6,HB5.out.trans (hb6.mono HB5.out.size),?_,?_⟩
       ·rw [List.map_append,hpl];exact HRW.out
       ·rcases hkc6 with⟨h1,h2,h3⟩|⟨h1,h2⟩
        ·exact .inl ⟨h1,by rw [hpl];exact h2,by simp only [hpl];exact h3⟩
        ·refine .inr ⟨h1,?_⟩;have h4:=congrArg List.length HRW.out;simp at h4 ⊢;omega
      clear HO5 HB5 HRW HAN hb6 hav6 hkc6;go_wp2_with fail
      go_roundw
      case rel=>exact⟨A5,c5,p++ [(⟨key,vs⟩,.slice A4 vs.length c4)],key6,ok6,by rw [hpl],rfl,rfl,by rw [hpl];omega,by rw [hpl];exact RF⟩
      case measure=>simp [sLen];omega
     ·have hpe:p.length=8:=by omega
      have HE:Hid (decide (8<m.length)=true∧p.map (·.1)=m.take 8):=by
       refine⟨decide_eq_true (by omega),?_⟩;rw [RR.out.rows,hpe]
      have HR:=zz RR.out.own.rws;have e5:decide ((p.length:Int)<(8:Int))=false:=by rw [decide_eq_false_iff_not];omega
      have e6:decide (p.length<8)=false:=decide_eq_false hpn;clear RR hkey hlt hpe hpn;go_wp2_with fail
      go_ret2
      exact⟨A,c',p,by rw [HE.out.1];rfl,HE.out.2,HR.out,hbl⟩
theorem zAW(S:Nat→Prop)(v0:Value)(l:List Vsn)(w:World)(hr:Vs S w v0 l)(hl:l.length≤1000000000):
 Calls Tryz.prog 37 #[v0] w fun e w'=>e= .returned (.bool (z1h l))∧Below w.heap.size w w':=by
 obtain⟨R,hR0⟩:∃R,z1h l=R:=⟨_,rfl⟩;have hR:=z5G (l:=l);rw [hR0]at hR ⊢;clear hR0;have HR:=zz hR;obtain⟨A,c,rfl,hlc,hcm,hA0,hA⟩:=hr.at;have HA:=zz hA;clear hA hr hR;go_enter Tryz.func37,Tryz.ntmps37
 go_wp2_with fail
 go_loopw [3] (fun iv wr=>∃j:Nat,iv= .int .i64 ((j+1:Nat):Int)∧(j=0∨j+1≤l.length)∧Hid (∀m,(h:m+1<l.length)→m<j→(l[m]'(by omega)).t<l[m+1].t)∧∃n,wr=w.drewN n) (fun iv _=>l.length+1-(intOf iv).toNat)
 case atStart=>exact⟨0,rfl,by omega,(fun m _ h=>by omega),0,rfl⟩
 case round=>
  obtain⟨j,rfl,hj,hall,n,rfl⟩:=hrel;by_cases hil:j+1<l.length
  ·obtain⟨b,o,rfl,hbs,hc⟩:=HA.out (by omega);have hjl:j<l.length:=by omega
   have c0:w.cell? ⟨b,o+j*3,none⟩=some (.int .u64 (l[j].t:Int)):=(hc j hjl).1;have c1:w.cell? ⟨b,o+(j+1)*3,none⟩=some (.int .u64 (l[j+1].t:Int)):=(hc (j+1) hil).1;have HN:Hid (l[j].t<l[j+1].t→∀m,(h:m+1<l.length)→m<j+1→(l[m]'(by omega)).t<l[m+1].t):=fun h m hm1 hm2=>by
    rcases Nat.lt_or_ge m j with h3|h3
    ·exact hall.out m hm1 h3
    ·obtain rfl:m=j:=by omega
     exact h
   have HF:Hid (¬l[j].t<l[j+1].t→R=false):=fun h=>by
    cases R with
    |false=>rfl
    |true=>exact absurd (HR.out.1 rfl j hil) h
   generalize l[j].t=x at*;generalize l[j+1].t=y at*;have hwj:IntKind.i64.wrap (j:Int)=(j:Int):=IntWalk.i64_in _ (by omega);clear hc hall;by_cases hxy:x<y
   ·have HE:=zz (HN.out hxy);have e1:decide ((y:Int)≤(x:Int))=false:=by rw [decide_eq_false_iff_not];omega
    have e2:decide (y≤x)=false:=by rw [decide_eq_false_iff_not];omega
    clear hxy;go_wp2_with fail
    go_quiet (fail)
    go_wp2_with fail
    go_roundw
    case rel=>exact⟨j+1,by go_num,by omega,HE,_,rfl⟩
    case measure=>simp [intOf];omega
   ·have HE:=zz (HF.out hxy);have e1:decide ((y:Int)≤(x:Int))=true:=by rw [decide_eq_true_eq];omega
    have e2:decide (y≤x)=true:=by rw [decide_eq_true_eq];omega
    clear hxy;go_wp2_with fail
    go_quiet (fail)
    go_wp2_with fail
    go_ret
    exact⟨by rw [HE.out];rfl,below_drewN (below_drewN (Below.refl _ _) _) _⟩
  ·have HE:Hid (R=true):=HR.out.2 (fun m hm1=>hall.out m hm1 (by omega));go_wp2_with fail
   go_ret
   exact⟨by rw [HE.out];rfl,below_drewN (Below.refl _ _) _⟩
theorem zCw(S S':Nat→Prop)(va vb:Value)(us vs:List Vsn)(w:World)(ha:Vs S w va us)(hb:Vs S' w vb vs):
 Calls Tryz.prog 28 #[va,vb] w fun e w'=>e= .returned (.bool (decide (us=vs)))∧Below w.heap.size w w':=by
 obtain⟨A,c,rfl,hlc,hcm,hA0,hA⟩:=ha.at;obtain⟨B,d,rfl,hld,hdm,hB0,hB⟩:=hb.at;have HA:=zz hA;have HB:=zz hB;have hm:us.length≤9223372036854775807:=by unfold maxLen at hcm;omega
 clear hA hB ha hb;by_cases hlen:us.length=vs.length
 ·have HL:=zz hlen;have hlen1:us.length≤vs.length:=by omega
  have hlen2:((us.length:Int) != (vs.length:Int))=false:=by rw [hlen];simp
  clear hlen;go_enter Tryz.func28,Tryz.ntmps28
  go_wp2_with fail
  go_loopw [5] (fun iv wr=>∃i:Nat,iv= .int .i64 (i:Int)∧i≤us.length∧Hid (us.take i=vs.take i)∧∃n,wr=w.drewN n) (fun iv _=>us.length-(intOf iv).toNat)
  case atStart=>exact⟨0,rfl,by omega,by simp [Hid],0,rfl⟩
  case round=>
   obtain⟨i,rfl,hi,ht,n,rfl⟩:=hrel;by_cases hil:i<us.length
   ·obtain⟨b,o,rfl,_,hca⟩:=HA.out (by omega);obtain⟨b',o',rfl,_,hcb⟩:=HB.out (by omega);have hvl:i<vs.length:=by omega
    have c0:=(hca i hil).1;have c1:=(hca i hil).2.1;have c2:=(hca i hil).2.2;have d0:=(hcb i hvl).1;have d1:=(hcb i hvl).2.1;have d2:=(hcb i hvl).2.2;have HS:Hid (us[i]=vs[i]→us.take (i+1)=vs.take (i+1)):=fun h=>by rw [List.take_succ_eq_append_getElem hil,List.take_succ_eq_append_getElem hvl,h,ht.out]
    have HN:Hid (us[i]≠vs[i]→decide (us=vs)=false):=fun h=>decide_eq_false (fun e=>h (by subst e;rfl))
    clear hca hcb;generalize us[i]=x at*;generalize vs[i]=y at*;obtain⟨q,t,f⟩:=x;obtain⟨q',t',f'⟩:=y;simp only at c0 c1 c2 d0 d1 d2;by_cases hq:q=q'
    ·subst hq;by_cases ht':t=t'
     ·subst ht';by_cases hf:f=f'
      ·subst hf;have HE:=zz (HS.out rfl);clear HS HN;go_wp2_with fail
       go_quiet (fail)
       go_wp2_with fail
       go_roundw
       case rel=>exact⟨i+1,by go_num,by omega,HE,_,rfl⟩
       case measure=>simp [intOf];omega
      ·have hne:(⟨q,t,f⟩:Vsn)≠⟨q,t,f'⟩:=fun e=>hf (by injection e)
       have HE:=zz (HN.out hne);clear hne HS HN;go_wp2_with fail
       go_quiet (fail)
       go_wp2_with fail
       go_ret
       exact⟨by rw [HE.out];rfl,below_drewN (below_drewN (Below.refl _ _) _) _⟩
     ·have hne:(⟨q,t,f⟩:Vsn)≠⟨q,t',f'⟩:=fun e=>ht' (by injection e)
      have HE:=zz (HN.out hne);clear hne HS HN;go_wp2_with fail
      go_quiet (fail)
      go_wp2_with fail
      go_ret
      exact⟨by rw [HE.out];rfl,below_drewN (below_drewN (Below.refl _ _) _) _⟩
    ·have hne:(⟨q,t,f⟩:Vsn)≠⟨q',t',f'⟩:=fun e=>hq (by injection e)
     have hqi:¬ (q:Int)=(q':Int):=fun e=>hq (by omega)
     have HE:=zz (HN.out hne);clear hne HS HN;go_wp2_with fail
     go_quiet (fail)
     go_wp2_with fail
     go_ret
     exact⟨by rw [HE.out];rfl,below_drewN (below_drewN (Below.refl _ _) _) _⟩
   ·obtain rfl:i=us.length:=by omega
    have HE:Hid (decide (us=vs)=true):=by
     have:=ht.out;rw [List.take_length,HL.out,List.take_length]at this;simp [Hid,this]
    go_wp2_with fail
    go_ret
    exact⟨by rw [HE.out];rfl,below_drewN (Below.refl _ _) _⟩
 ·have HE:Hid (decide (us=vs)=false):=decide_eq_false (fun e=>hlen (by rw [e]));have t1:((us.length:Int) != (vs.length:Int))=true:=by rw [bne_iff_ne];omega
  clear hlen;go_enter Tryz.func28,Tryz.ntmps28
  go_wp2_with fail
  go_ret
  exact⟨by rw [HE.out];rfl,Below.refl _ _⟩
theorem zDa(S S':Nat→Prop)(va vb:Value)(p q:RwV)(w:World)(ha:Rws S w va p)(hb:Rws S' w vb q):
 Calls Tryz.prog 14 #[va,vb] w fun e w'=>e= .returned (.bool (decide (p.map (·.1)=q.map (·.1))))∧Below w.heap.size w w':=by
 have HPV:=zz ha.lt.vs;have HQV:=zz hb.lt.vs;obtain⟨A,c,rfl,hlc,hcm,-,hA⟩:=ha.lt.at;obtain⟨B,d,rfl,hld,hdm,-,hB⟩:=hb.lt.at;have HA:=zz hA;have HB:=zz hB;have hm:p.length≤9223372036854775807:=by unfold maxLen at hcm;omega
 clear hA hB ha hb;by_cases hlen:p.length=q.length
 ·have HL:=zz hlen;have hlen1:p.length≤q.length:=by omega
  have hlen2:((p.length:Int) != (q.length:Int))=false:=by rw [hlen];simp
  clear hlen;go_enter Tryz.func14,Tryz.ntmps14
  go_wp2_with fail
  go_loopw [5] (fun iv wr=>∃i:Nat,iv= .int .i64 (i:Int)∧i≤p.length∧Hid ((p.take i).map (·.1)=(q.take i).map (·.1))∧Hid (Below w.heap.size w wr)) (fun iv _=>p.length-(intOf iv).toNat)
  case atStart=>exact⟨0,rfl,by omega,by simp [Hid],Below.refl _ _⟩
  case round=>
   obtain⟨i,rfl,hi,ht,hbl⟩:=hrel;have hbl:=hbl.out;by_cases hil:i<p.length
   ·obtain⟨b,o,rfl,hs,hca⟩:=HA.out (by omega);obtain⟨b',o',rfl,hs',hcb⟩:=HB.out (by omega);have hvl:i<q.length:=by omega
    have c0:wr.cell? ⟨b,o+i*2,none⟩=some (.string (st p[i].1.k)):=(hbl.cell (p:=⟨b,o+i*2,none⟩) hs.2).trans (hca i hil).1;have c1:wr.cell? ⟨b,o+i*2+1,none⟩=some p[i].2:=(hbl.cell (p:=⟨b,o+i*2+1,none⟩) hs.2).trans (hca i hil).2;have d0:wr.cell? ⟨b',o'+i*2,none⟩=some (.string (st q[i].1.k)):=(hbl.cell (p:=⟨b',o'+i*2,none⟩) hs'.2).trans (hcb i hvl).1;have d1:wr.cell? ⟨b',o'+i*2+1,none⟩=some q[i].2:=(hbl.cell (p:=⟨b',o'+i*2+1,none⟩) hs'.2).trans (hcb i hvl).2;have hv1:=Sl.below (HPV.out _ (List.getElem_mem hil)) hbl fun b hb=>hb.2
    have hv2:=Sl.below (HQV.out _ (List.getElem_mem hvl)) hbl fun b hb=>hb.2
    have HS:Hid (p[i].1=q[i].1→(p.take (i+1)).map (·.1)=(q.take (i+1)).map (·.1)):=fun h=>by
     rw [List.take_succ_eq_append_getElem hil,List.take_succ_eq_append_getElem hvl,List.map_append,List.map_append,ht.out,List.map_singleton,List.map_singleton,h]
    have HN:Hid (p[i].1≠q[i].1→decide (p.map (·.1)=q.map (·.1))=false):=fun h=>decide_eq_false fun e=>h (by
     have h1:(p.map (·.1))[i]'(by simpa using hil)=(q.map (·.1))[i]'(by simpa using hvl):=by simp only [e]
     simpa using h1)
    have hib:(0:Int)≤(i:Int):=by omega
    clear hca hcb ht;obtain⟨u,hu⟩:∃u,p[i].2=u:=⟨_,rfl⟩;obtain⟨u',hu'⟩:∃u',q[i].2=u':=⟨_,rfl⟩;obtain⟨r,hr⟩:∃r,p[i].1=r:=⟨_,rfl⟩;obtain⟨r',hr'⟩:∃r',q[i].1=r':=⟨_,rfl⟩;rw [hr]at c0 hv1 HS HN;rw [hr']at d0 hv2 HS HN;rw [hu]at c1 hv1;rw [hu']at d1 hv2;clear hu hu' hr hr' HPV HQV;have HSM:Hid (∀wg,Below wr.heap.size wr wg→Calls Tryz.prog 28 #[u,u'] wg fun e w'=>e= .returned (.bool (decide (r.vs=r'.vs)))∧Below wg.heap.size wg w'):=fun wg hwg=>
     zCw _ _ _ _ _ _ wg (Sl.below (Vs.lt hv1) hwg fun b hb=>hb.2) (Sl.below (Vs.lt hv2) hwg fun b hb=>hb.2)
    clear hv1 hv2;obtain⟨k,vs⟩:=r;obtain⟨k',vs'⟩:=r';simp only at c0 c1 d0 d1 HSM;have HBL:=zz hbl;clear hbl;by_cases hk:k=k'
    ·subst hk;by_cases hvs:vs=vs'
     ·subst hvs;have HE:=zz (HS.out rfl);have e1:decide (vs=vs)=true:=by simp
      rw [e1]at HSM;clear HS HN e1;go_wp2_with fail
      refine z01 (by kernel_rfl) (by kernel_rfl) ?_;apply Exists.intro;apply And.intro
      ·repeat(first
        |(apply z04 rfl
          intro K hK;go_simp;refine hK _ ?_;clear hK K)
        |(apply z09 rfl
          ·intro wg hwg _;have c0':=cell_later hwg c0;have c1':=cell_later hwg c1;have d0':=cell_later hwg d0;have d1':=cell_later hwg d1;unfold z07;go_simp
           first
            |exact z00 _ _
            |(exact z0C (HSM.out wg hwg))
          intro K hK;go_simp;refine hK _ ?_;clear hK K))
       refine z08 (fun wg hwg _=> ?_);have RF:Hid (Below w.heap.size w wg):=HBL.out.trans (hwg.mono HBL.out.size);clear hwg;go_wp2_with fail
       go_roundw
       case rel=>exact⟨i+1,by go_num,by omega,HE,RF⟩
       case measure=>simp [intOf];omega
      ·apply And.intro
       ·repeat(first|exact trivial|(refine⟨Stays.is _,?_⟩)|(refine⟨Stays.bs _,?_⟩)|(refine⟨Stays.pg _ _ _,?_⟩))
       ·rfl
     ·have HE:=zz (HN.out fun e=>hvs (by injection e));have e1:decide (vs=vs')=false:=by simpa using hvs
      rw [e1]at HSM;clear HS HN e1 hvs;go_wp2_with fail
      refine z01 (by kernel_rfl) (by kernel_rfl) ?_;apply Exists.intro;apply And.intro
      ·repeat(first
        |(apply z04 rfl
          intro K hK;go_simp;refine hK _ ?_;clear hK K)
        |(apply z09 rfl
          ·intro wg hwg _;have c0':=cell_later hwg c0;have c1':=cell_later hwg c1;have d0':=cell_later hwg d0;have d1':=cell_later hwg d1;unfold z07;go_simp
           first
            |exact z00 _ _
            |(exact z0C (HSM.out wg hwg))
          intro K hK;go_simp;refine hK _ ?_;clear hK K))
       refine z08 (fun wg hwg _=> ?_);go_wp2_with fail
       go_ret
       exact⟨by rw [HE.out];rfl,HBL.out.trans (hwg.mono HBL.out.size)⟩
      ·apply And.intro
       ·repeat(first|exact trivial|(refine⟨Stays.is _,?_⟩)|(refine⟨Stays.bs _,?_⟩)|(refine⟨Stays.pg _ _ _,?_⟩))
       ·rfl
    ·have HE:=zz (HN.out fun e=>hk (by injection e));have e1:(k==k')=false:=by simpa using hk
     clear HS HN HSM;go_wp2_with fail
     refine z01 (by kernel_rfl) (by kernel_rfl) ?_;apply Exists.intro;apply And.intro
     ·repeat(first
       |(apply z04 rfl
         intro K hK;go_simp;refine hK _ ?_;clear hK K)
       |(apply z09 rfl
         ·intro wg hwg _;have c0':=cell_later hwg c0;have c1':=cell_later hwg c1;have d0':=cell_later hwg d0;have d1':=cell_later hwg d1;unfold z07;go_simp
          first
           |exact z00 _ _
         intro K hK;go_simp;refine hK _ ?_;clear hK K))
      refine z08 (fun wg hwg _=> ?_);go_wp2_with fail
      go_ret
      exact⟨by rw [HE.out];rfl,HBL.out.trans (hwg.mono HBL.out.size)⟩
     ·apply And.intro
      ·repeat(first|exact trivial|(refine⟨Stays.is _,?_⟩)|(refine⟨Stays.bs _,?_⟩)|(refine⟨Stays.pg _ _ _,?_⟩))
      ·rfl
   ·obtain rfl:i=p.length:=by omega
    have HE:Hid (decide (p.map (·.1)=q.map (·.1))=true):=by
     have:=ht.out;rw [List.take_length,HL.out,List.take_length]at this;simp [Hid,this]
    go_wp2_with fail
    go_ret
    exact⟨by rw [HE.out];rfl,hbl⟩
 ·have HE:Hid (decide (p.map (·.1)=q.map (·.1))=false):=decide_eq_false (fun e=>hlen (by have:=congrArg List.length e;simpa using this));have t1:((p.length:Int) != (q.length:Int))=true:=by rw [bne_iff_ne];omega
  clear hlen;go_enter Tryz.func14,Tryz.ntmps14
  go_wp2_with fail
  go_ret
  exact⟨by rw [HE.out];rfl,Below.refl _ _⟩
end
end Go.Proofs.YtdkobefpnjbgnaaGreatDoor
