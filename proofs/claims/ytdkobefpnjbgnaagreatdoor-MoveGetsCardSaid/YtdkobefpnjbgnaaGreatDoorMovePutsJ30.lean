/- Part 30. -/
import Derived.Test.YtdkobefpnjbgnaaGreatDoorMovePutsJ29
namespace Go.Proofs.YtdkobefpnjbgnaaGreatDoor
set_option linter.unusedVariables false
set_option maxHeartbeats 16000000
set_option maxRecDepth 100000
section
open Go Go.RowKit
theorem Pg.stpO{Z:Pz}{w w':World}{P:Pgr}{h':Zn}{D':Dsk}(p:Pg w Z P)(k:Dk w' h' D')(m:Stp Z.h w h' w'):Pg w' (Z.on h') (P.on D'):=by
 have hs:SameK [some 249,some 211,some 5] w w':=m.same p.dk (by decide) (by decide) (by decide);have hk:∀b,b<w.heap.size→¬Z.h.has b→w'.heap[b]? =w.heap[b]? :=fun b hb hn=>m.turn.block b hb hn
 have hn:∀b,b<w.heap.size→¬Z.h.has b→¬h'.has b:=fun b hb hn e=>(m.has b e).elim hn fun h=>by omega
 have hb:=p.blk.sameK hs (by decide);have hm:=p.mt.blk.sameK hs (by decide);exact⟨k,⟨by show Blk w' Z.gm _ #[.pointer (some ⟨h'.g,0,none⟩),_,_,_];rw [m.g];exact hm⟩,by show Blk w' Z.g _ #[.pointer (some ⟨h'.g,0,none⟩),_,_,_,_,_,_,_];rw [m.g];exact hb,
  p.tb.at (hk _ p.tb.lt p.m1),p.wr.at (hk _ p.wr.lt p.m2) (hs.less (by decide)),p.gn.at (hk _ p.gn.lt p.m3),p.n1,p.n2,p.n3,hn _ p.tb.lt p.m1,hn _ p.wr.lt p.m2,hn _ p.gn.lt p.m3⟩
theorem Tg.stpO{Z:Pz}{w w':World}{P:Pgr}{c:Int→List UInt8}{g:Nat}{h':Zn}{D':Dsk}(t:Tg w g Z P c)(k:Dk w' h' D')(m:Stp Z.h w h' w')(hok:D'.Ok)(hst:z4F D' P.a P.tb c):Tg w' g (Z.on h') (P.on D') c:=by
 have hs:SameK [some 213] w w':=m.same t.pg.dk (by decide) (by decide) (by decide);have hz:¬Z.h.has 0:=fun h=>t.z0 (.inr (.inr (.inr (.inr (.inr h)))))
 refine⟨t.pg.stpO k m,t.blk.sameK hs (by decide),⟨hok,hst,t.pr.wlen,t.pr.a0,t.pr.a1⟩,fun i hi=> ?_,?_⟩
 ·have hb:=m.turn.block 0 t.bits.pos hz;rw [←t.bits i hi];unfold World.cell?;rw [hb]
 ·have hp:=t.bits.pos;rintro(e|e|e|e|e|e)
  ·exact t.z0 (.inl e)
  ·exact t.z0 (.inr (.inl e))
  ·exact t.z0 (.inr (.inr (.inl e)))
  ·exact t.z0 (.inr (.inr (.inr (.inl e))))
  ·exact t.z0 (.inr (.inr (.inr (.inr (.inl e)))))
  ·rcases m.has 0 e with h|h
   ·exact hz h
   ·omega
def zIw(Q:Prm)(c:Int→List UInt8):Pgr→List Cel→List Rcd→Prop
 |_,_,[]=>True
 |P,L,r::rs=>(r.2.length≤100000∧(z2F r.2).2=true∧z4X P (z2F r.2).1=0∧(∀x∈(z2F r.2).1,x.v.length≤65536)∧z4x Q c P L (z2F r.2).1)∧zIw Q c (chgsP c P L (z2F r.2).1) (z3Z L (z2F r.2).1) rs
noncomputable def zFt(c:Int→List UInt8):Pgr→List Cel→List Rcd→Pgr
 |P,_,[]=>P
 |P,L,r::rs=>zFt c (chgsP c P L (z2F r.2).1) (z3Z L (z2F r.2).1) rs
structure SoSt(Q:Prm)(W0 wr:World)(gs g gl:Nat)(Z:Pz)(c:Int→List UInt8)(l0:Wl)(v:Value)(recs:List Rcd)(B n0:Nat)(R P:Pgr)(L:List Cel)(i:Nat):Prop where
 S:Sto wr gs g gl Z P c l0
 K:zIw Q c P L (recs.drop i)
 E:zFt c P L (recs.drop i)=R
 row:wr.ownsRow B 173 2 v n0 (rcs recs)
 T:Ptp Z W0 Z wr
def SpOk:Prop:=∀ (l:List UInt8) (w:World),l.length≤1099511627776→Calls Tryz.prog 91 #[.string (st l)] w fun e w'=>∃v,e= .returned (.tuple #[v,.bool (z2F l).2])∧Wo w' w.heap.size v (z2F l).1∧Below w.heap.size w w'
theorem zHA{Q:Prm}(hQ:Q.Ok)(h:Zn)(D:Dsk)(c:Int→List UInt8)(L:List Cel)(P0:Pgr)(w:World)(hd:Dk w h D)(hok:D.Ok)(hb:BitsOk w)(h0:¬h.has 0)
 (hpo:Calls Tryz.prog 87 #[.pointer (some ⟨h.g,0,none⟩),.int .i64 0,.int .i64 ((200:Nat):Int)] w (zI2 h D 0 200 w)) (hto:∀ (Z:Pz) (w1:World),Pg w1 Z P0→BitsOk w1→¬Z.has 0→Calls Tryz.prog 88 #[.pointer (some ⟨Z.g,0,none⟩)] w1 (z4f Z P0 c w1))
 (hP:z5i D 0 200=some P0) (hr:Pr P0 c) (hck:zGG ((opP P0).pg c) (opP P0).pages.length=true) (hpe:D.pend.length≤800000)
 (hst:z4F (z1I D 802 8 16 P0.tag).1.D P0.a P0.tb c) (hpl:zIw Q c ((opP P0).on (z1I D 802 8 16 P0.tag).1.D) L (z1I D 802 8 16 P0.tag).2) (hdl:(z1I D 802 8 16 P0.tag).2≠ []→zCX Q∧SpOk):
 Calls Tryz.prog 54 #[.pointer (some ⟨h.g,0,none⟩)] w fun e w'=>∃gs g gl Z,e= .returned (.tuple #[.pointer (some ⟨gs,0,none⟩),.int .i64 0])∧
  Sto w' gs g gl Z (zFt c ((opP P0).on (z1I D 802 8 16 P0.tag).1.D) L (z1I D 802 8 16 P0.tag).2) c (z1I D 802 8 16 P0.tag).1∧Z.h.g=h.g∧(∀b,Z.has b→h.has b∨w.heap.size≤b)∧w.heap.size≤gs∧w.heap.size≤g∧w.heap.size≤gl∧Turn h.has w w':=by
 obtain⟨l0,recs,hrr⟩:∃l0 recs,z1I D 802 8 16 P0.tag=(l0,recs):=⟨_,_,rfl⟩;rw [hrr]at hst hpl hdl ⊢;simp only at hst hpl hdl ⊢;have HDL:=zz hdl;clear hdl;have HRR:=zz hrr;clear hrr;obtain⟨R,hRE⟩:∃R,zFt c ((opP P0).on l0.D) L recs=R:=⟨_,rfl⟩;rw [hRE];have HRE:=zz hRE;clear hRE;have HB:=zz hb;have HD:=zz hd;have HR:=zz hr;have HP:=zz hP;have HCK:=zz hck;have HST:=zz hst;have HPL:=zz hpl;have HPO:=zz hpo;have HTO:=zz hto;have hpos:=hb.pos;clear hb hr hP hck hst hpl hd hpo hto;go_enter Tryz.func54,Tryz.ntmps54
 go_wp2_with fail
 refine HPO.out.mono ?_;rintro e w1 ⟨⟨P,Z,hP',rfl,hpg,hz,htag,hzb⟩|⟨hno,rfl⟩,hb1⟩
 ·rw [HP.out]at hP';injection hP' with hP'
  subst hP';subst hz;have hz0:¬Z.has 0:=fun e=>(hzb 0 e).elim h0 fun e=>by omega
  have HPG:=zz hpg;have HB1:=zz hb1;have HZB:=zz hzb;have HBI:=zz (HB.out.later hb1);have hPD:P0.D=D:=by
   have:=HP.out;unfold z5i at this
   split at this
   ·injection this with this;rw [←this];rfl
   ·rw [Option.map_eq_some_iff]at this;obtain⟨x,_,rfl⟩:=this;rfl
  clear hpg hb1 hzb;go_wp2_with fail
  refine(HTO.out Z w1 HPG.out HBI.out hz0).mono ?_;rintro e w2 ⟨hs2,hp2,hkin,hres⟩;rcases hres with⟨_,g,hg,rfl,hT⟩|⟨hno,_⟩
  ·have HT:=zz hT;have HS2:=zz hs2;have hoD:(opP P0).D=D:=by rw [hkin.D];exact hPD
   have hotag:(opP P0).tag=P0.tag:=hkin.tag;have hoa:(opP P0).a=P0.a:=hkin.a;have hotb:(opP P0).tb=P0.tb:=hkin.tb;have hsz2:w.heap.size≤g:=Nat.le_trans HB1.out.size hg;clear hp2 hs2 hT hg hkin;go_wp2_with fail
   refine(zGP Z (opP P0) w2 HT.out.pg).mono ?_;rintro e w2' ⟨rfl,rfl⟩;rw [hotag];go_wp2_with fail
   have hdk2:Dk w2 Z.h D:=by rw [←hoD];exact HT.out.pg.dk
   refine(zD7 Z.h D 802 8 16 P0.tag w2 hdk2 hok (by omega) (by omega) (by omega) (by omega) (by omega) (by omega) htag hpe).mono ?_;rintro e w3 ⟨gl,lv,sv,A,kk,cc,h',rfl,hk3,hlb,hrg,hsv,hgl,hown,hstp⟩;have hl0:=zHm (D:=D) (a:=802) (n:=8) (size:=16) (frm:=P0.tag) hok (by omega) (by omega) (by omega) (by omega) (by omega) (by omega) htag;have hsame:=zJW D 802 8 16 P0.tag;rw [HRR.out]at hk3 hlb hrg hown hl0 hsame;simp only at hk3 hlb hrg hown hl0 hsame;have HLG:Hid (Lg w3 gl h' l0):=⟨lv,sv,⟨hk3,by rw [hstp.g,hsame.1,hsame.2.1,hsame.2.2.1];exact hlb,hrg,by rw [hsv,hsame.2.2.2];exact(Sl.nil:Bs _ _ _ [])⟩⟩;have hst3:z4F l0.D (opP P0).a (opP P0).tb c:=by rw [hoa,hotb];exact HST.out
   have HT3:=zz (HT.out.stpO hk3 hstp hl0.dok hst3);have hzh:∀b,(Z.on h').has b→Z.has b∨w2.heap.size≤b:=fun b hb=>by
    rcases hb with e|e|e|e|e|e
    ·exact .inl (.inl e)
    ·exact .inl (.inr (.inl e))
    ·exact .inl (.inr (.inr (.inl e)))
    ·exact .inl (.inr (.inr (.inr (.inl e))))
    ·exact .inl (.inr (.inr (.inr (.inr (.inl e)))))
    ·exact(hstp.has b e).imp (fun h=> .inr (.inr (.inr (.inr (.inr h))))) id
   have hsw2:w1.heap.size≤w2.heap.size:=HS2.out.turn.size;have HZ3:Hid (∀b,(Z.on h').has b→Z.h.has b∨w.heap.size≤b):=fun b hb=>by
    rcases hzh b hb with e|e
    ·exact HZB.out b e
    ·exact .inr (by have:=HB1.out.size;omega)
   have HTU:Hid (Turn Z.h.has w w3):=((Turn.of_below HB1.out).trans HS2.out.turn fun b hb=>HZB.out b hb).trans hstp.turn fun b hb=> .inl hb
   have hg9:h'.g=Z.h.g:=hstp.g;have q3:=(Below.refl w3.heap.size w3).alloc (Nat.le_refl _) (.cells #[.pointer (some ⟨g,0,none⟩),.pointer (some ⟨Z.g,0,none⟩),.pointer (some ⟨gl,0,none⟩)] 118);have HS4:Hid (Sto (w3.alloc (.cells #[.pointer (some ⟨g,0,none⟩),.pointer (some ⟨Z.g,0,none⟩),.pointer (some ⟨gl,0,none⟩)] 118)) w3.heap.size g gl (Z.on h') ((opP P0).on l0.D) c l0):=
    ⟨Blk.new w3 _ _,HT3.out.later q3,HLG.out.later q3,rfl,hl0⟩
   obtain rfl:=z0V hown;have HOW:Hid ((w3.alloc (.cells #[.pointer (some ⟨g,0,none⟩),.pointer (some ⟨Z.g,0,none⟩),.pointer (some ⟨gl,0,none⟩)] 118)).ownsRow w2.heap.size 173 2 (.slice A recs.length cc) recs.length (rcs recs)):=z0y hown q3;have HTU4:Hid (Turn Z.h.has w (w3.alloc (.cells #[.pointer (some ⟨g,0,none⟩),.pointer (some ⟨Z.g,0,none⟩),.pointer (some ⟨gl,0,none⟩)] 118))):=HTU.out.alloc _;have hsz3:=HTU.out.size;have hgl9:w.heap.size≤gl:=by have:=HB1.out.size;omega
   have hrl:recs.length≤maxLen:=by
    obtain⟨-,A',c',h1,h2,h3,-⟩:=Sl.of_own (size:=2) (by omega) hown;exact Nat.le_trans h2 h3
   clear hk3 hlb hrg hsv hown hstp hl0 hsame hst3 HT3 HLG HTU q3 hzh HT HS2 HZB HB1 HBI HPG hdk2 HST;go_wp2_with fail
   generalize hW:w3.alloc (.cells #[.pointer (some ⟨g,0,none⟩),.pointer (some ⟨Z.g,0,none⟩),.pointer (some ⟨gl,0,none⟩)] 118)=W at*;clear hW;generalize w3.heap.size=gs at*;generalize w2.heap.size=B2 at*;have hR:=HRE.out;obtain⟨P1,hP1⟩:∃P1,(opP P0).on l0.D=P1:=⟨_,rfl⟩;rw [hP1]at HS4 HPL hR;clear hP1;have R0:Hid (SoSt Q W W gs g gl (Z.on h') c l0 (.slice A recs.length cc) recs B2 recs.length R P1 L 0):=⟨HS4.out,HPL.out,hR,HOW.out,Ptp.refl _ _⟩;have hm0:recs.length≤9223372036854775807:=by unfold maxLen at hrl;omega
   have HM:=zz hm0;clear hrl HS4 HPL HOW hR hm0;have hm9:=HM.out;go_loopw [48] (fun iv wr=>∃ (i:Nat) (P':Pgr) (L':List Cel),iv= .int .i64 (i:Int)∧i≤recs.length∧Hid (SoSt Q W wr gs g gl (Z.on h') c l0 (.slice A recs.length cc) recs B2 recs.length R P' L' i)) (fun iv _=>recs.length-(intOf iv).toNat)
   case atStart=>exact⟨0,P1,L,rfl,by omega,R0⟩
   case round=>
    clear R0;obtain⟨i,P',L',rfl,hi,RR⟩:=hrel;by_cases hil:i<recs.length
    ·have HNE:Hid (recs≠ []):=fun h=>by rw [h]at hil;exact absurd hil (Nat.not_lt_zero _)
     obtain⟨-,A',c',hA',-,-,-,hcells⟩:=Sl.of_own (size:=2) (by omega) RR.out.row;injection hA' with hA1 _ hA2
     subst hA1 hA2;obtain⟨b,o,rfl,-,hc⟩:=hcells (by omega);have c0:wr.cell? ⟨b,o+i*2,none⟩=some (.int .u64 (recs[i].1:Int)):=hc _ _ (zI4 hil).1;have c1:wr.cell? ⟨b,o+i*2+1,none⟩=some (.string (st recs[i].2)):=hc (i*2+1) _ (zI4 hil).2;have hdr:recs.drop i=recs[i]::recs.drop (i+1):=List.drop_eq_getElem_cons hil;have hK:=RR.out.K;have hE:=RR.out.E;rw [hdr]at hK hE;clear hc hcells hdr;obtain⟨x,hx0⟩:∃x,recs[i]=x:=⟨_,rfl⟩;rw [hx0]at c0 c1 hK hE;clear hx0;obtain⟨q,body⟩:=x;obtain⟨⟨hbl,hpk,hmay,hvl,hruns⟩,hK2⟩:=hK;simp only at c0 c1 hbl hpk hmay hvl hruns hK2;have hE2:zFt c (chgsP c P' L' (z2F body).1) (z3Z L' (z2F body).1) (recs.drop (i+1))=R:=hE;clear hE;have hlen:(z2F body).1.length≤11∧∀y∈(z2F body).1,y.k.length≤65536∧y.v.length≤65536:=⟨(z6R hmay).1,fun y hy=>⟨by have:=((z6R hmay).2.1 y hy).1;omega,hvl y hy⟩⟩;obtain⟨cs,hcs⟩:∃cs,z2F body=cs:=⟨_,rfl⟩;rw [hcs]at hpk hmay hruns hK2 hE2 hlen;have HCS:=zz hcs;obtain⟨cs,okk⟩:=cs;simp only at hpk hmay hruns hK2 hE2 hlen;subst hpk;have HMY:=zz hmay;have HRU:=zz hruns;have HK2:=zz hK2;have HE2:=zz hE2;have HLN:=zz hlen;have HBL:=zz hbl;have qx:=(Below.refl wr.heap.size wr).alloc (Nat.le_refl _) (.cells #[.int .u64 (q:Int),.string (st body)] 173);have HS5:=zz (RR.out.S.later qx);have HR5:=zz (z0y RR.out.row qx);have HP5:Hid (Ptp (Z.on h') W (Z.on h') (wr.alloc (.cells #[.int .u64 (q:Int),.string (st body)] 173))):=RR.out.T.trans (Ptp.below qx);have HX:=zz (Blk.new wr 173 #[.int .u64 (q:Int),.string (st body)]);clear hcs hmay hruns hK2 hE2 hlen hvl hbl qx RR;go_upto_region 14 with(fail)
     generalize hW5:wr.alloc (.cells #[.int .u64 (q:Int),.string (st body)] 173)=W5 at*;clear hW5;generalize wr.heap.size=gx at*;have x1:W5.cell? ⟨gx,1,none⟩=some (.string (st body)):=HX.out.cell 1;clear c0 c1;go_wp2_with fail
     refine((HDL.out HNE.out).2 body W5 (by have:=HBL.out;omega)).mono ?_;rintro e w6 ⟨v6,rfl,hwo,hb6⟩;rw [HCS.out]at hwo ⊢;simp only at hwo ⊢;have HS6:=zz (HS5.out.later hb6);have HR6:=zz (z0y HR5.out hb6);have HP6:=zz (HP5.out.trans (Ptp.below hb6));have HSZ:Hid (∀bb,(Z.on h').has bb→bb<W5.heap.size):=fun bb e=>HS5.out.T.pg.lt e
     have HCH:Hid (Ch (fun bb=>W5.heap.size≤bb∧bb<w6.heap.size) w6 v6 cs):=Sl.of_own (size:=3) (by omega) hwo;obtain⟨A6,k6,c6,rfl⟩:=z0p hwo;obtain rfl:=z0V hwo;clear hwo hb6 HS5 HR5 HP5 x1 HX;go_wp2_with fail
     refine(zC0 gs (Z.on h') P' _ _ cs w6 HS6.out.T.pg HS6.out.blk HCH.out (by have:=HLN.out.1;omega) HLN.out.2).mono ?_;rintro e w7 ⟨rfl,hb7⟩;rw [HMY.out];have HS7:=zz (HS6.out.later hb7);have HR7:=zz (z0y HR6.out hb7);have HP7:=zz (HP6.out.trans (Ptp.below hb7));have HC7:Hid (Ch (fun bb=>¬ (Z.on h').has bb) w7 (.slice A6 cs.length c6) cs):=by
      have h1:Ch (fun bb=>W5.heap.size≤bb∧bb<w6.heap.size) w7 (.slice A6 cs.length c6) cs:=Sl.below HCH.out hb7 fun bb h=>h.2
      exact Sl.more h1 fun bb h e=>by
       have:=HSZ.out bb e;omega
     clear hb7 HS6 HR6 HP6 HCH HSZ;go_wp2_with fail
     refine(zFx hQ gs g (Z.on h') P' c L' cs w7 _ HS7.out.T HS7.out.blk HC7.out HRU.out (by have:=HLN.out.1;omega) fun _ _ _=>(HDL.out HNE.out).1).mono ?_;rintro e w8 ⟨rfl,hd8⟩;have RF:Hid (SoSt Q W w8 gs g gl (Z.on h') c l0 (.slice (some ⟨b,o,none⟩) recs.length cc) recs B2 recs.length R (chgsP c P' L' cs) (z3Z L' cs) (i+1)):=
      ⟨HS7.out.tree hd8 (zAk _ _ _ _),by have:=HK2.out;exact this,HE2.out,z0q HR7.out (hd8.2.sameK (ks:= [some 173]) HS7.out.T.pg (by decide) (by decide) (by decide) (by decide) (by decide)) (by decide),HP7.out.trans hd8.2⟩
     clear hd8 HS7 HR7 HP7 HC7 HK2 HE2 HRU;go_wp2_with fail
     go_roundw
     case rel=>exact⟨i+1,_,_,by go_num,by omega,RF⟩
     case measure=>simp [intOf];omega
    ·obtain rfl:i=recs.length:=by omega
     have hE:=RR.out.E;rw [List.drop_length]at hE;have hS:=RR.out.S;rw [show P'=R from hE]at hS;have HSF:=zz hS;have HTF:Hid (Turn Z.h.has w wr):=HTU4.out.trans RR.out.T.turn fun bb e=>HZ3.out bb e
     clear hS hE RR;go_wp2_with fail
     go_ret2
     exact⟨gs,g,gl,Z.on h',rfl,HSF.out,hg9,HZ3.out,by omega,hsz2,hgl9,HTF.out⟩
  ·rw [HCK.out]at hno;cases hno
 ·rw [HP.out]at hno;cases hno
end
end Go.Proofs.YtdkobefpnjbgnaaGreatDoor
