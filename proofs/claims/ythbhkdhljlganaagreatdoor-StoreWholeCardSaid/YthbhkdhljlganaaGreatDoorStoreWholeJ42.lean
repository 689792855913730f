/- Part 42. -/
import Derived.Test.YthbhkdhljlganaaGreatDoorStoreWholeJ41
namespace Go.Proofs.YthbhkdhljlganaaGreatDoor
set_option linter.unusedVariables false
set_option maxHeartbeats 16000000
set_option maxRecDepth 100000
section
open Go Go.RowKit
def YsOk(ys:List (List Chg)):Prop:=∀y∈ys,zGQ y∧y.length≤11∧(∀x∈y,x.k.length≤240∧chN x≤480)
theorem Kin.play(c:Int→List UInt8):∀ (rs:List Rcd) (P:Pgr) (L:List Cel),Kin P (z9R c P L rs)
 | [],P,L=>Kin.refl P
 |r::rs,P,L=>(Kin.chgsP c _ P L).trans (Kin.play c rs _ _)
theorem z7L:∀ (l:List Nat) (k:Nat),(l.take k).sum≤l.sum
 | [],k=>by simp
 |x::r,0=>by simp
 |x::r,k+1=>by
  have:=z7L r k;rw [List.take_succ_cons,List.sum_cons,List.sum_cons];omega
theorem Bare.mt{D:Dsk}(b:Bare D):z1m D.view 0=(0,1,[]):=by
 have h0:D.view (0+0)=none:=b.out _ (by omega);have h1:D.view (0+1)=none:=b.out _ (by omega);unfold z1m z60;rw [h0];simp only;rw [h1]
theorem Bare.opens{D:Dsk}(b:Bare D):z5x D 0 200=some (z1s D 0 200 0 1 (0,fun _=>none)):=by
 unfold z5x;rw [b.mt,if_pos rfl]
theorem Bare.pages{D:Dsk}(b:Bare D):(z1s D 0 200 0 1 (0,fun _=>none)).pages.length=0:=(zEx 1000 (fun _=> [])).len
theorem Bare.lone{D:Dsk}(b:Bare D)(c:Int→List UInt8):∀i x,((z1s D 0 200 0 1 (0,fun _=>none)).wp 0 (true,0,[])).pg c i=some x→x.1=true∧x.2.2= []:=fun i x hx=>by
 have h:=(zBP ⟨1,1,480⟩ 1000 c).rep.rep;have e:((z1s D 0 200 0 1 (0,fun _=>none)).wp 0 (true,0,[])).pg c i=(fT 1000).pg c i:=by
  have h1:=zBs D 1000;have h2:opP (z1s D 0 200 0 1 (0,fun _=>none))=(z1s D 0 200 0 1 (0,fun _=>none)).wp 0 (true,0,[]):=if_pos b.pages;rw [←h2,h1];rfl
 rw [e]at hx;obtain⟨i',rfl,hm⟩:=(h.get _ _).1 hx;have hm2:(i',x)=(0,((true,0,[]):Pag)):=by simpa [z9q,Ct.subs,Ct.page]using hm
 injection hm2 with _ hm2
 subst hm2;exact⟨rfl,rfl⟩
theorem zAg:∀ (ys:List (List Chg)) (L:List Cel),(ys.foldl chgsC L).length≤L.length+(ys.map z1L).sum
 | [],L=>Nat.le_add_right _ _
 |y::r,L=>by
  have h1:=zAg r (chgsC L y);have h2:=z2S y L;rw [List.map_cons,List.sum_cons,List.foldl_cons];omega
theorem z5Y{w W:World}{h:Zn}{D:Dsk}(d:Dp w W h D)(b:Bare D)(c:Int→List UInt8)(hb:BitsOk W)(h0:0<w.heap.size){ys:List (List Chg)}{K:Nat}(hy:YsOk ys)(hn:(ys.map z1L).sum≤12)(hyl:ys.length≤90)
 (S:Segs (z3G D.view 802 16 8) 8 1 (ys.map z0V)) (U:Upto (z3G D.view 802 16 8) 1 (ys.map z0V) 0 K) {pd:Nat} (hpd:h.g=pd):
 Calls Tryz.prog 26 #[.pointer (some ⟨pd,0,none⟩)] W fun e W'=>∃gs g gl Z P l,e= .returned (.tuple #[.pointer (some ⟨gs,0,none⟩),.int .i64 0])∧Sx Q15 w W' gs g gl pd Z P c l ((ys.take K).map z0V) ((ys.take K).foldl chgsC [])∧l=(z16 D 802 8 16 0).1∧l.synced=K∧Turn h.has W W':=by
 subst hpd;have hKR:=U.KR;rw [List.length_map]at hKR;have hsh:∀t∈ys.map z0V,t.length≤32768:=fun t ht=>by
  obtain⟨y,hy1,rfl⟩:=List.mem_map.1 ht;have h1:=z4Z (hy y hy1).1.2;have h2:=(hy y hy1).2.1;unfold z0V;rw [List.length_append];have h3:=z2j 8 y.length (by omega);omega
 obtain⟨⟨SB,hL⟩,hrec,hlast,hsyn,hout,hsiz,hlim⟩:=Lgr.opened (k:=0) b.ok (by omega) (by unfold U64;omega) S U hsh b.low (by rw [b.siz,b.lim];omega) (by rw [b.siz];omega);have hcut:(z16 D 802 8 16 0).2=z05 1 ((ys.take K).map z0V):=by
  rw [hrec];unfold z5r;rw [show 0+1-1=0 from rfl,List.drop_zero,Nat.sub_zero,List.map_take]
 have hpn:=zDV (a:=802) (n:=8) (size:=16) (frm:=0) b.ok (by omega) (by unfold U64;omega);have hpar:=zEm D 802 8 16 0;have hT:Tree Q15 ((opP (z1s D 0 200 0 1 (0,fun _=>none))).on (z16 D 802 8 16 0).1.D) c 0 (show Ct 0 from(0,[])):=by
  rw [zBs D 1000];exact((zBP Q15 1000 c).on D).on _
 have hck:zGS ((opP (z1s D 0 200 0 1 (0,fun _=>none))).pg c) (opP (z1s D 0 200 0 1 (0,fun _=>none))).pages.length=true:=by
  rw [zBs D 1000];have h:=(zBP ⟨1,1,480⟩ 1000 c).rep;have hl:((fT 1000).on D).pages.length=1:=h.len;rw [hl];exact zGv (h.rep.at (i:=0) (by simp [z9q,Ct.page]))
 have hyt:YsOk (ys.take K):=fun y h=>hy y (List.mem_of_mem_take h)
 have hns:((ys.take K).map z1L).sum≤12:=by
  rw [List.map_take];exact Nat.le_trans (z7L _ _) hn
 have hcells:Ct.cells 0 (show Ct 0 from(0,[]))= []:=rfl;obtain⟨hpl,D2,t2,T2,e2⟩:=zAy (ys.take K) _ 0 _ hT hyt (by rw [hcells];simpa using hns) 1;rw [hcells]at hpl T2 e2;have hz:=Zero.new D;refine(zGM z62 h D c [] (z1s D 0 200 0 1 (0,fun _=>none)) W d.dk b.ok hb (fun e=>by have:=d.new 0 e;omega) (zDs h D 0 200 W d.dk b.ok ⟨by omega,by omega,by omega,by omega⟩ (by rw [b.mt])) (fun Z w1 hp hb1 hz=>zDw Z _ c w1 hp (b.pr c) hb1 hz b.pages (b.lone c)) b.opens (b.pr c) hck (by rw [b.pend];simp) (fun i p l h=>(by cases h)) (by rw [show(z1s D 0 200 0 1 (0,fun _=>none)).tag=0 from rfl,hcut];exact hpl)).mono ?_;rintro e W' ⟨gs,g,gl,Z,rfl,hs,hg,hzn,h1,h2,h3,htu⟩;rw [show(z1s D 0 200 0 1 (0,fun _=>none)).tag=0 from rfl,hcut]at hs;have hsz:=d.below.size;have hpk:Kin ((opP (z1s D 0 200 0 1 (0,fun _=>none))).on (z16 D 802 8 16 0).1.D) (z9R c ((opP (z1s D 0 200 0 1 (0,fun _=>none))).on (z16 D 802 8 16 0).1.D) [] (z05 1 ((ys.take K).map z0V))):=Kin.play c _ _ _;refine⟨gs,g,gl,Z,_,_,rfl,⟨hs,⟨SB,by rw [List.map_take];exact hL⟩,⟨D2,t2,T2,e2⟩,hpk.zero (hz.on _),⟨hpar.1,hpar.2.1,hpar.2.2.1,fun y hy2=> ?_,hsiz.trans b.siz,hlim.trans b.lim⟩,fun x hx=>(hzn x hx).elim (d.new x) fun h=>Nat.le_trans hsz h,Nat.le_trans hsz h1,Nat.le_trans hsz h3,hg,Turn.below d.below htu hsz d.new,by rw [hpn];exact Nat.zero_le _,?_⟩,rfl,hsyn,htu⟩
 ·rw [hout y (by omega)];exact b.out y hy2
 ·have:=zAg (ys.take K) [];simp only [List.length_nil]at this;omega
theorem zIr{D:Dsk}(h:∀y,D.view y=none):Segs (z3G D.view 802 16 8) 8 1 []∧Upto (z3G D.view 802 16 8) 1 [] 0 0:=by
 rw [z6r h 8];exact⟨⟨Nat.le_refl _,by simp,fun y h=>(by cases h),fun y h=>(by cases h),fun y h=>(by cases h),fun y h=>(by cases h),fun y h=>(by cases h),fun y h=>(by cases h),fun y h=>(by cases h)⟩,by omega,by omega,by simp,fun q h1 h2=>by omega,fun y h=>(by cases h)⟩
theorem z7p(c:Int→List UInt8)(w:World)(hb:BitsOk w):
 Calls Tryz.prog 18 #[] w fun e w'=>∃pd gs g gl Z P l,e= .returned (.tuple #[.pointer (some ⟨pd,0,none⟩),.pointer (some ⟨gs,0,none⟩)])∧Sx Q15 w w' gs g gl pd Z P c l [] []∧l.synced=0∧l.live= []:=by
 have HB:=zz hb;have hpos:=hb.pos;clear hb;go_enter Tryz.func18,Tryz.ntmps18
 go_wp2_with fail
 refine(zHN 1000 w (by omega) (by omega)).mono ?_;rintro e w1 ⟨h,rfl,hd,hnew,hb1⟩;have HD:Hid (Dp w w1 h (Dsk.new 1000)):=⟨hd,hnew,hb1⟩;have HB1:=zz (HB.out.later hb1);obtain⟨hS,hU⟩:=zIr (D:=Dsk.new 1000) (fun _=>rfl);have HS:=zz hS;have HU:=zz hU;clear hd hnew hb1 hS hU;go_wp2_with fail
 refine(z5Y HD.out Bare.new c HB1.out hpos (ys:= []) (fun y h=>(by cases h)) (by simp) (by simp) HS.out HU.out rfl).mono ?_;rintro e w2 ⟨gs,g,gl,Z,P,l,rfl,hx,hle,hsy,-⟩;have hlv:l.live= []:=by rw [hle,zDJ (fun _=>rfl)]
 have HLV:=zz hlv;have HX:=zz hx;have HSY:=zz hsy;clear hx hsy HS HU hlv hle;go_wp2_with fail
 go_ret2
 exact⟨_,_,_,_,_,_,_,rfl,HX.out,HSY.out,HLV.out⟩
theorem z8n:∀ (ps:List Pnd) (k:Nat) (s:SF×Nat),z0h [] k ps s=s
 | [],_,_=>rfl
 |p::ps,k,s=>by
  rw [z0h];exact z8n ps (k+1) s
section
variable {Q:Prm} {w W W':World} {gs g gl pd:Nat} {Z:Pz} {P:Pgr} {c:Int→List UInt8} {l:Wl} {R:List (List UInt8)} {L:List Cel}
theorem zEL(x:Sx Q w W gs g gl pd Z P c l R L)(lc:List (Int×Int)):Bare (l.D.crash lc):=by
 obtain⟨SB,hl⟩:=x.lgr;have hin:∀y,(y<802∨930≤y)→(l.D.crash lc).view y=l.D.view y:=fun y hy=>hl.crash_out lc fun z hz _ j hj e=>by
  have h:=zF9 (a:=l.a) (size:=l.size) (hl.base hz).2.2.2;rw [x.only.a,x.only.n,x.only.size]at h;rw [x.only.size]at hj;unfold z3F at e;rw [x.only.a,x.only.size]at e;omega
 refine⟨x.s.ok.dok.crash lc,fun y hy=>by rw [hin y hy];exact x.only.out y hy,x.only.siz,x.only.lim,rfl,rfl,rfl,fun y hy=> ?_⟩;show y<l.D.size;rw [x.only.siz];by_cases h:y<802∨930≤y
 ·rw [hin y h,x.only.out y h]at hy;cases hy
 ·omega
theorem zD2(x:Sx Q w W gs g gl pd Z P c l R L)(S:Nat→Prop)(v0:Value)(lc:List (Int×Int))(hsv:Sv S W v0 lc)(hin:∀x∈lc,InI x.1∧InI x.2)(hll:lc.length≤1000000)(hR:R.length≤90){ps:Nat}(hps:pd=ps):
 Calls Tryz.prog 25 #[.pointer (some ⟨ps,0,none⟩),v0] W fun e W'=>e= .returned (.tuple #[])∧∃h',Dp w W' h' (l.D.crash lc)∧h'.g=ps∧Stp Z.h W h' W':=by
 subst hps;have hpe:=x.pend;have hdk:Dk W Z.h l.D:=by rw [x.s.D];exact x.s.T.pg.dk
 have hg:=x.hg;have hd:=zDW Z.h l.D S v0 lc W hdk x.s.ok.dok hsv hin hll (by omega);rw [hg]at hd;refine hd.mono ?_;rintro e W' ⟨rfl,h',hk,hs⟩;have hn:∀b,Z.h.has b→w.heap.size≤b:=fun b hb=>x.new b (.inr (.inr (.inr (.inr (.inr hb)))))
 refine⟨rfl,h',⟨hk,fun b hb=> ?_,Turn.below x.below hs.turn x.below.size hn⟩,hs.g.trans hg,hs⟩;rcases hs.has b hb with h|h
 ·exact hn b h
 ·exact Nat.le_trans x.below.size h
end
end
end Go.Proofs.YthbhkdhljlganaaGreatDoor
