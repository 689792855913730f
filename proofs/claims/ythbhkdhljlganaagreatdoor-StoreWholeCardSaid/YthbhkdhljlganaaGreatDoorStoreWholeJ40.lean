/- Part 40. -/
import Derived.Test.YthbhkdhljlganaaGreatDoorStoreWholeJ36
import Derived.Test.YthbhkdhljlganaaGreatDoorStoreWholeJ37
import Derived.Test.YthbhkdhljlganaaGreatDoorStoreWholeJ39
namespace Go.Proofs.YthbhkdhljlganaaGreatDoor
set_option linter.unusedVariables false
set_option maxHeartbeats 16000000
set_option maxRecDepth 100000
section
open Go Go.RowKit
end
section
open Go
def fP(n:Nat):Pgr:=z1s (Dsk.new n) 0 200 0 1 (0,fun _=>none)
theorem zGJ(n:Nat)(i:Int):(fP n).has i=false:=rfl
theorem zEx(n:Nat)(c:Int→List UInt8):RepP (fP n) c []:=by
 have hp:∀i,(fP n).pg c i=none:=fun i=>by unfold Pgr.pg Pgr.page;rw [zGJ];rfl
 refine⟨⟨fun i p=> ?_,by simp,fun q hq=>by cases hq⟩,fun i=>by rw [zGJ,hp];rfl⟩;rw [hp];constructor
 ·intro h;cases h
 ·rintro⟨m,_,h⟩;cases h
theorem zD1:POk (true,0,[]):=by
 refine POk.mk' (by decide) rfl ?_;have:=z5B (next:=0) (cs:= []) (by omega) (by simp);show z2z ((0:Nat):Int) []≤2048;simp [z08]at this;simp;omega
def fT(n:Nat):Pgr:=(fP n).wp 0 (true,0,[])
theorem zBP(Q:Prm)(n:Nat)(c:Int→List UInt8):Tree Q (fT n) c 0 (show Ct 0 from(0,[])):=by
 have h:=(zEx n c).new (i:=0) (x:=(true,0,[])) (by simp) (by omega) zD1;refine⟨h,⟨List.Pairwise.nil,fun x hx=>by cases hx⟩,fun q hq=> ?_,⟨rfl,trivial⟩,trivial,by unfold z89 Ct.n;simp⟩;obtain rfl:=List.mem_singleton.1 (show q∈ [(0,((true,0,[]):Pag))]from hq);exact⟨zD1,by unfold KOk;simp⟩
theorem opP_fP(n:Nat):opP (fP n)=fT n:=by
 have:(fP n).pages.length=0:=by
  have:=(zEx n (fun _=> [])).len;simpa using this
 unfold opP;rw [if_pos this];rfl
end
section
open Go Go.RowKit
theorem z5i(S S':Nat→Prop)(va vb:Value)(us vs:List Cel)(w:World)(ha:Cs S w va us)(hb:Cs S' w vb vs):
 Calls Tryz.prog 15 #[va,vb] w fun e w'=>e= .returned (.bool (decide (us=vs)))∧Below w.heap.size w w':=by
 obtain⟨A,c,rfl,hlc,hcm,hA0,hA⟩:=ha.at;obtain⟨B,d,rfl,hld,hdm,hB0,hB⟩:=hb.at;have HA:=zz hA;have HB:=zz hB;have hm:us.length≤9223372036854775807:=by unfold maxLen at hcm;omega
 clear hA hB ha hb;by_cases hlen:us.length=vs.length
 ·have HL:=zz hlen;have hlen1:us.length≤vs.length:=by omega
  have hlen2:((us.length:Int) != (vs.length:Int))=false:=by rw [hlen];simp
  clear hlen;go_enter Tryz.func15,Tryz.ntmps15
  go_wp2_with fail
  go_loopw [5] (fun iv wr=>∃i:Nat,iv= .int .i64 (i:Int)∧i≤us.length∧Hid (us.take i=vs.take i)∧∃n,wr=w.drewN n) (fun iv _=>us.length-(intOf iv).toNat)
  case atStart=>exact⟨0,rfl,by omega,by simp [Hid],0,rfl⟩
  case round=>
   obtain⟨i,rfl,hi,ht,n,rfl⟩:=hrel;by_cases hil:i<us.length
   ·obtain⟨b,o,rfl,_,hca⟩:=HA.out (by omega);obtain⟨b',o',rfl,_,hcb⟩:=HB.out (by omega);have hvl:i<vs.length:=by omega
    have c0:=(hca i hil).1;have c1:=(hca i hil).2;have d0:=(hcb i hvl).1;have d1:=(hcb i hvl).2;have HS:Hid (us[i]=vs[i]→us.take (i+1)=vs.take (i+1)):=fun h=>by rw [List.take_succ_eq_append_getElem hil,List.take_succ_eq_append_getElem hvl,h,ht.out]
    have HN:Hid (us[i]≠vs[i]→decide (us=vs)=false):=fun h=>decide_eq_false (fun e=>h (by subst e;rfl))
    clear hca hcb;generalize us[i]=x at*;generalize vs[i]=y at*;obtain⟨q,t⟩:=x;obtain⟨q',t'⟩:=y;simp only at c0 c1 d0 d1;by_cases hxy:q=q'∧t=t'
    ·obtain⟨rfl,rfl⟩:=hxy;have HE:=zz (HS.out rfl);go_wp2_with fail
     go_quiet (fail)
     go_wp2_with fail
     go_roundw
     case rel=>exact⟨i+1,by go_num,by omega,HE,_,rfl⟩
     case measure=>simp [intOf];omega
    ·have HE:=zz (HN.out (fun e=>hxy (by injection e with a b;exact⟨a,b⟩)));by_cases hq:q=q'
     ·subst hq;have ht':¬t=t':=fun e=>hxy ⟨rfl,e⟩
      go_wp2_with fail
      go_quiet (fail)
      go_wp2_with fail
      go_ret
      exact⟨by rw [HE.out];rfl,below_drewN (below_drewN (Below.refl _ _) _) _⟩
     ·go_wp2_with fail
      go_quiet (fail)
      go_wp2_with fail
      go_ret
      exact⟨by rw [HE.out];rfl,below_drewN (below_drewN (Below.refl _ _) _) _⟩
   ·obtain rfl:i=us.length:=by omega
    have HE:Hid (decide (us=vs)=true):=by
     have:=ht.out;rw [List.take_length,HL.out,List.take_length]at this;simp [Hid,this]
    go_wp2_with fail
    go_ret
    exact⟨by rw [HE.out];rfl,below_drewN (Below.refl _ _) _⟩
 ·have HE:Hid (decide (us=vs)=false):=decide_eq_false (fun e=>hlen (by rw [e]));have t1:((us.length:Int) != (vs.length:Int))=true:=by rw [bne_iff_ne];omega
  clear hlen;go_enter Tryz.func15,Tryz.ntmps15
  go_wp2_with fail
  go_ret
  exact⟨by rw [HE.out];rfl,Below.refl _ _⟩
end
section
open Go
variable {P:Pgr} {c:Int→List UInt8} {cs:List Cel}
end
section
open Go Go.RowKit
section
variable {w0 w:World} {g:Nat} {Z:Pz} {P:Pgr} {c:Int→List UInt8} {cs:List Cel}
end
theorem zJG:z1l Tryz.prog 49 5:=⟨⟨_,Tryz.underlying49⟩,by kernel_rfl⟩
end
section
open Go
section
variable {j:Nat} {ks:List (Kid j)} {a:Nat}
end
theorem zD6(cs:List Cel):z03 cs []=0:=by
 unfold z03;cases cs with
 |nil=>rfl
 |cons c cs=>
  rw [List.takeWhile_cons,if_neg]
  ·rfl
  ·cases c.1<;>simp [Op.bytesLess]
theorem Tree.all{Q:Prm}{P:Pgr}{c:Int→List UInt8}{D:Nat}{t:Ct D}(T:Tree Q P c D t):
 ∃l s,z38 (P.pgD c) [] (D+1) 0=some (l++ [s])∧l.length=D∧z0s (P.pgD c) 91 s.pg=some (Ct.cells D t)∧z03 s.pg.2.2 []=0:=by
 obtain⟨w,n,cs,h,cx,h1,h2,h3,a⟩:=T.way [];have hw:w=(cx.steps h).reverse++ [⟨(h:Int),0,(true,n,cs)⟩]:=by
  have:=congrArg List.reverse h3;rw [List.reverse_reverse,List.reverse_cons]at this;exact this
 have hl:(cx.steps h).reverse.length=D:=by
  rw [hw,List.length_append]at h2;simp at h2 ⊢;omega
 obtain⟨e1,e2,e3⟩:=a.cells;have hcl:cx.cl= []:=by
  cases hc:cx.cl with
  |nil=>rfl
  |cons x r=>
   exfalso;have:=e2 x (by rw [hc];simp);rw [←z2I]at this;cases hx:x.1<;>rw [hx]at this<;>simp [Op.bytesLess]at this
 refine⟨_,_,by rw [h1,hw],hl,?_,zD6 cs⟩;rw [T.chain a,e1,hcl,List.nil_append]
end
section
open Go Go.RowKit
theorem Tree.on{Q:Prm}{P:Pgr}{c:Int→List UInt8}{D:Nat}{t:Ct D}(T:Tree Q P c D t)(D':Dsk):Tree Q (P.on D') c D t:=by
 obtain⟨⟨a1,a2⟩,h2,h3,h4,h5,h6⟩:=T;exact⟨⟨a1,a2⟩,h2,h3,h4,h5,h6⟩
theorem z2S:∀ (l:List Chg) (L:List Cel),(chgsC L l).length≤L.length+z1L l
 | [],L=>Nat.le_add_right _ _
 |x::r,L=>by
  have h1:=z2S r (chgC L x);have h2:=z9U L x;rw [z8Y];show(chgsC (chgC L x) r).length≤_;omega
structure Zero(P:Pgr):Prop where
 a:P.a=0
 n:P.n=200
 num:P.num=0
 last:P.last=1
 tag:P.tag=0
 tb:P.tb=fun _=>none
structure Only(l:Wl):Prop where
 a:l.a=802
 n:l.n=8
 size:l.size=16
 out:∀y,(y<802∨930≤y)→l.D.view y=none
 siz:l.D.size=1000
 lim:l.D.limit=1000
structure Sx(Q:Prm)(w W:World)(gs g gl hdd:Nat)(Z:Pz)(P:Pgr)(c:Int→List UInt8)(l:Wl)(R:List (List UInt8))(L:List Cel):Prop where
 s:Sto W gs g gl Z P c l
 lgr:∃SB,Lgr l 0 R SB
 tree:∃D,∃t:Ct D,Tree Q P c D t∧Ct.cells D t=L
 zero:Zero P
 only:Only l
 new:∀b,Z.has b→w.heap.size≤b
 gsn:w.heap.size≤gs
 gln:w.heap.size≤gl
 hg:Z.h.g=hdd
 below:Below w.heap.size w W
 pend:l.D.pend.length≤8192*R.length
 len:L.length≤1000
section
variable {Q:Prm} {w W W':World} {gs g gl hdd:Nat} {Z Z':Pz} {P P':Pgr} {c:Int→List UInt8} {l l':Wl} {R:List (List UInt8)} {L:List Cel}
theorem Sx.later(x:Sx Q w W gs g gl hdd Z P c l R L)(hb:Below W.heap.size W W'):Sx Q w W' gs g gl hdd Z P c l R L:=
 ⟨x.s.later hb,x.lgr,x.tree,x.zero,x.only,x.new,x.gsn,x.gln,x.hg,x.below.trans (hb.mono x.below.size),x.pend,x.len⟩
theorem Sop.to_below(o:Sop gl Z W Z' W')(hb:Below w.heap.size w W)(hn:∀b,Z.has b→w.heap.size≤b)(hl:w.heap.size≤gl):Below w.heap.size w W'∧∀b,Z'.has b→w.heap.size≤b:=by
 refine⟨Turn.below hb o.turn hb.size fun b h=>h.elim (hn b) fun e=>e▸hl,fun b h=> ?_⟩;rcases o.has b h with h|h
 ·exact hn b h
 ·exact Nat.le_trans hb.size h
theorem Kin.zero{P P':Pgr}(k:Kin P P')(z:Zero P):Zero P':=⟨k.a.trans z.a,k.n.trans z.n,k.num.trans z.num,k.last.trans z.last,k.tag.trans z.tag,k.tb.trans z.tb⟩
theorem Kin.chgsP(c:Int→List UInt8):∀ (l:List Chg) (P:Pgr) (L:List Cel),Kin P (chgsP c P L l)
 | [],P,L=>Kin.refl P
 |x::r,P,L=>(Kin.chgP P c L x).trans (Kin.chgsP c r _ _)
theorem Zero.on(z:Zero P)(D:Dsk):Zero (P.on D):=⟨z.a,z.n,z.num,z.last,z.tag,z.tb⟩
theorem Zero.stored(z:Zero P)(D:Dsk)(a:Int):z44 D a P.tb c:=by
 intro i p l h;rw [z.tb]at h;cases h
theorem Ch.sop{v:Value}{y:List Chg}(h:Ch (fun b=>(¬Z.has b∧b≠gl)∧b<W.heap.size) W v y)(o:Sop gl Z W Z' W'):Ch (fun b=>(¬Z'.has b∧b≠gl)∧b<W'.heap.size) W' v y:=by
 have h1:Ch (fun b=>(¬Z.has b∧b≠gl)∧b<W.heap.size) W' v y:=Sl.keep h fun b i hb=>World.cell?_of_block (o.turn.block b hb.2 (by
  rintro(e|e)
  ·exact hb.1.1 e
  ·exact hb.1.2 e))
 have hs:=o.turn.size;exact Sl.more h1 fun b hb=>⟨⟨fun e=>(o.has b e).elim hb.1.1 fun e=>by omega,hb.1.2⟩,by omega⟩
theorem z6R(x:Sx Q15 w W gs g gl hdd Z P c l R L)(v0:Value)(y:List Chg)(hr:Ch (fun b=>¬Z.has b∧b≠gl) W v0 y)(hy:y.length≤1000000∧∀z∈y,z.k.length≤65536∧z.v.length≤65536)(hf:z3W P y=0→L.length+z1L y≤12)(hR:R.length≤90){ps:Nat}(hps:gs=ps):
 Calls Tryz.prog 21 #[.pointer (some ⟨ps,0,none⟩),v0] W fun e W'=>
  (∃E:Nat,E≠0∧E<1000∧e= .returned (.tuple #[.int .u64 0,.int .i64 (E:Int)])∧(∃Z',Sx Q15 w W' gs g gl hdd Z' P c l R L∧Sop gl Z W Z' W')∧(z3W P y=0→(z2k l.live l.n=none∨(32768<(z0V y).length∨512*l.size<(z1N (l.last+1) titleB).length+(z1N (l.last+1) (z0V y)).length))))∨
  (z3W P y=0∧(z0F l (z0V y)).2.2=0∧e= .returned (.tuple #[.int .u64 ((R.length+1:Nat):Int),.int .i64 0])∧∃Z' P',Sx Q15 w W' gs g gl hdd Z' P' c (z0F l (z0V y)).1 (R++ [z0V y]) (chgsC L y)∧Sop gl Z W Z' W'∧(z0F l (z0V y)).1.live.length≤l.live.length+1∧(z0F l (z0V y)).1.synced=l.synced∧(z0F l (z0V y)).1.D.ground=l.D.ground):=by
 subst hps;obtain⟨SB,hl⟩:=x.lgr;obtain⟨D,t,hT,hLe⟩:=x.tree;have hA:=hl.append x.s.ok (z0V y) (by omega);have hrun:z3W P y=0→∀D',z4B Q15 c (P.on D') L y∧∃D2,∃t2:Ct D2,Tree Q15 (chgsP c (P.on D') L y) c D2 t2∧Ct.cells D2 t2=chgsC L y:=fun hm D'=>by
  have h:=z9X y (P.on D') D t (hT.on D') (z2p hm).2.1 (by rw [hLe];exact hf hm);rw [hLe]at h;exact h
 have hpe:=x.pend;refine(zDF z62 gs g gl Z P c L l y W v0 x.s hr hy (by omega) fun hm=>⟨x.zero.stored _ _,fun _=>(hrun hm _).1⟩).mono ?_;rintro e W' ⟨he,Z',hd⟩;obtain⟨hb1,hn1⟩:=Sop.to_below hd.o x.below x.new x.gln;have hg1:Z'.h.g=hdd:=hd.o.hg.trans x.hg;by_cases hm:z3W P y=0
 ·rcases hA with⟨h1,h2,h3,h81,h82⟩|⟨h1,h2⟩
  ·left;have hne:(z0F l (z0V y)).2.2≠0:=by omega
   have e1:z3T P c L l y=(P,l,0,(z0F l (z0V y)).2.2):=by
    unfold z3T;rw [if_pos hm,if_neg hne,h2,x.s.D];rfl
   rw [e1]at he hd;exact⟨_,hne,by omega,he,⟨Z',⟨hd.s,x.lgr,x.tree,x.zero,x.only,hn1,x.gsn,x.gln,hg1,hb1,x.pend,x.len⟩,hd.o⟩,fun _=>h1.elim (fun h=> .inr (h81 h)) fun h=> .inl (h82 h)⟩
  ·right;have h0:(z0F l (z0V y)).2.2=0:=by rw [h1]
   have e1:z3T P c L l y=(chgsP c (P.on (z0F l (z0V y)).1.D) L y,(z0F l (z0V y)).1,R.length+1,0):=by
    unfold z3T;rw [if_pos hm,if_pos h0,h1]
   rw [e1]at he hd;refine⟨hm,h0,he,Z',_,⟨hd.s,h2.g,(hrun hm _).2,(Kin.chgsP c y _ L).zero (x.zero.on _),⟨h2.par.1.trans x.only.a,h2.par.2.1.trans x.only.n,h2.par.2.2.1.trans x.only.size,fun z hz=> ?_,h2.siz.trans x.only.siz,h2.lim.trans x.only.lim⟩,hn1,x.gsn,x.gln,hg1,hb1,?_,by have h1:=z2S y L;have h2:=hf hm;omega⟩,hd.o,h2.live,h2.par.2.2.2,h2.ground⟩
   ·rw [h2.out z (by rw [x.only.a,x.only.n,x.only.size];omega)];exact x.only.out z hz
   ·have:=h2.pend;rw [x.only.size]at this;rw [List.length_append,List.length_singleton];omega
 ·left;have e1:z3T P c L l y=(P,l,0,z3W P y):=by
   unfold z3T;rw [if_neg hm]
  rw [e1]at he hd;refine⟨_,hm,?_,he,⟨Z',⟨hd.s,x.lgr,x.tree,x.zero,x.only,hn1,x.gsn,x.gln,hg1,hb1,x.pend,x.len⟩,hd.o⟩,fun h=>absurd h hm⟩;unfold z3W
  split
  ·omega
  ·split
   ·omega
   ·split<;>omega
theorem zG0(x:Sx Q w W gs g gl hdd Z P c l R L){ps:Nat}(hps:gs=ps):
 Calls Tryz.prog 24 #[.pointer (some ⟨ps,0,none⟩)] W fun e W'=>e= .returned (.tuple #[])∧∃Z',Sx Q w W' gs g gl hdd Z' (P.on l.sync.D) c l.sync R L∧Sop gl Z W Z' W':=by
 subst hps;obtain⟨SB,hl⟩:=x.lgr;obtain⟨D,t,hT,hLe⟩:=x.tree;refine(zG6 gs g gl Z P c l W x.s).mono ?_;rintro e W' ⟨rfl,Z',hd⟩;obtain⟨hb1,hn1⟩:=Sop.to_below hd.o x.below x.new x.gln;exact⟨rfl,Z',⟨hd.s,⟨_,hl.sync⟩,⟨D,t,hT.on _,hLe⟩,x.zero.on _,⟨x.only.a,x.only.n,x.only.size,x.only.out,x.only.siz,x.only.lim⟩,hn1,x.gsn,x.gln,hd.o.hg.trans x.hg,hb1,Nat.zero_le _,x.len⟩,hd.o⟩
theorem z7E(x:Sx Q w W gs g gl hdd Z P c l R L){ps:Nat}(hps:gs=ps):
 Calls Tryz.prog 22 #[.pointer (some ⟨ps,0,none⟩)] W fun e W'=>e= .returned (.int .u64 (R.length:Int))∧Below W.heap.size W W':=by
 subst hps;obtain⟨SB,hl⟩:=x.lgr;rw [←hl.last];exact zEI gs g gl Z P c l W x.s
theorem zBg{v1 v2:Value}{gs gl hg:Nat}{a:Int}{n size last synced:Nat}{lv sv:Value}(hb:Blk W gs 66 #[v1,v2,.pointer (some ⟨gl,0,none⟩)])(hl:Lb W gl hg a n size lv sv last synced):
 Calls Tryz.prog 53 #[.pointer (some ⟨gs,0,none⟩)] W fun e W'=>e= .returned (.int .u64 (synced:Int))∧Below W.heap.size W W':=by
 have HV:=zz hl;have s2:W.cell? ⟨gs,2,none⟩=some (.pointer (some ⟨gl,0,none⟩)):=hb.cell 2;clear hb hl;go_enter Tryz.func53,Tryz.ntmps53
 go_wp2_with fail
 refine(zAY gl hg a n size lv sv last synced W HV.out).mono ?_;rintro e w1 ⟨rfl,rfl⟩;go_wp2_with fail
 go_ret
 exact⟨rfl,Below.refl _ _⟩
theorem Tree.range_all(hQ:Q.Ok){D:Nat}{t:Ct D}(T:Tree Q P c D t)(hC:(Ct.cells D t).length≤1000000)(hT:Tg W g Z P c):Calls Tryz.prog 16 #[.pointer (some ⟨g,0,none⟩),.agg (rgC [] [] true false (-1))] W (z6j (Ct.cells D t) W):=by
 obtain⟨l,s,hway,hll,hchain,hfk⟩:=T.all;have hD:=T.deep hQ;have hrg:=zE7 g Z P c [] [] true (-1) (D+1) 91 l s (Ct.cells D t) W hT hway (by omega) hchain hC;have e0:z6g ((Ct.cells D t).drop (z03 s.pg.2.2 [])) [] true (-1)=Ct.cells D t:=by
  rw [hfk];exact z8Q (by simp) (.inl (by omega))
 rw [e0]at hrg;exact hrg
theorem z9n(hQ:Q.Ok)(x:Sx Q w W gs g gl hdd Z P c l R L){ps:Nat}(hps:g=ps):
 Calls Tryz.prog 16 #[.pointer (some ⟨ps,0,none⟩),.agg (rgC [] [] true false (-1))] W (z6j L W):=by
 subst hps;obtain⟨D,t,hT,rfl⟩:=x.tree;exact hT.range_all hQ (by have:=x.len;omega) x.s.T
end
theorem Zero.new(D:Dsk):Zero (opP (z1s D 0 200 0 1 (0,fun _=>none))):=by
 have e:opP (z1s D 0 200 0 1 (0,fun _=>none))=(z1s D 0 200 0 1 (0,fun _=>none)).wp 0 (true,0,[]):=rfl;rw [e];exact(Kin.wp _ _ _).zero ⟨rfl,rfl,rfl,rfl,rfl,rfl⟩
theorem fP_on(D:Dsk)(n:Nat):z1s D 0 200 0 1 (0,fun _=>none)=(fP n).on D:=rfl
theorem zBs(D:Dsk)(n:Nat):opP (z1s D 0 200 0 1 (0,fun _=>none))=(fT n).on D:=by
 have h:opP (fP n)=fT n:=opP_fP n;have e:∀P:Pgr,P.pages.length=0→opP (P.on D)=(opP P).on D:=fun P hP=>by
  unfold opP;rw [if_pos hP,if_pos (show(P.on D).pages.length=0 from hP)];unfold Pgr.wp Pgr.write
  split<;>rfl
 have h0:(fP n).pages.length=0:=by
  unfold Pgr.pages;rw [List.length_eq_zero_iff,List.filter_eq_nil_iff];intro i _;rw [zGJ];simp
 rw [fP_on D n,e _ h0,h]
structure Bare(D:Dsk):Prop where
 ok:D.Ok
 out:∀y,(y<802∨930≤y)→D.view y=none
 siz:D.size=1000
 lim:D.limit=1000
 pend:D.pend= []
 ground:D.ground=D.view
 ng:D.ng=D.nv
 low:∀y,(D.view y).isSome=true→y<D.size
theorem Bare.pr{D:Dsk}(b:Bare D)(c:Int→List UInt8):Pr (z1s D 0 200 0 1 (0,fun _=>none)) c:=by
 refine⟨b.ok,fun i p l h=>(by cases h),fun x q h=>(by cases h),by simp [z1s],by simp [z1s]⟩
theorem Bare.new:Bare (Dsk.new 1000):=⟨Dsk.Ok.new (by omega) (by omega),fun _ _=>rfl,rfl,rfl,rfl,rfl,rfl,fun y h=>by cases h⟩
theorem zG5{Q:Prm}{D:Nat}{t:Ct D}{x:Chg}(h:z7h Q D t x):z7h Q D t x.norm:=by
 obtain⟨k,v,gn⟩:=x;cases gn
 ·exact h
 ·exact h
theorem zAf{Q:Prm}{c:Int→List UInt8}:∀ (y:List Chg) (P:Pgr) (L:List Cel),z4B Q c P L y→z4B Q c P L (y.map Chg.norm)
 | [],_,_,_=>trivial
 |x::r,P,L,⟨⟨D,t,h1,h2,h3⟩,h4⟩=>by
  refine⟨⟨D,t,h1,h2,zG5 h3⟩,?_⟩;rw [z9z,z6y];exact zAf r _ _ h4
theorem zAy{c:Int→List UInt8}:∀ (ys:List (List Chg)) (P:Pgr) (D:Nat) (t:Ct D),Tree Q15 P c D t→(∀y∈ys,zGQ y∧y.length≤11∧(∀x∈y,x.k.length≤240∧chN x≤480))→(Ct.cells D t).length+(ys.map z1L).sum≤12→∀f,
 zFI Q15 c P (Ct.cells D t) (z05 f (ys.map z0V))∧∃D',∃t':Ct D',Tree Q15 (z9R c P (Ct.cells D t) (z05 f (ys.map z0V))) c D' t'∧Ct.cells D' t'=ys.foldl chgsC (Ct.cells D t)
 | [],P,D,t,T,_,_,f=>⟨trivial,D,t,T,rfl⟩
 |y::ys,P,D,t,T,hy,hn,f=>by
  obtain⟨hok,h11,hlen⟩:=hy y (by simp);rw [List.map_cons,List.sum_cons]at hn;obtain⟨hr,D1,t1,T1,e1⟩:=z9X y P D t T hlen (by omega);have hl:=z2S y (Ct.cells D t);obtain⟨h2,D2,t2,T2,e2⟩:=zAy ys _ D1 t1 T1 (fun z hz=>hy z (by simp [hz])) (by rw [e1];omega) (f+1);have hp:z1G (z0V y)=(y.map Chg.norm,true):=zDu hok;rw [e1]at h2 T2 e2;rw [List.map_cons,z05];have hfp:=z7M T (by omega);have hpg:P.pages.length=1+(Ct.subs D t).length:=by
   rw [T.rep.len];unfold z9q;rw [List.length_cons];omega
  have hm:z3W P (y.map Chg.norm)=0:=by
   rw [zFF];unfold z3W;rw [if_neg (by omega),if_neg ?_,if_neg (by omega)];intro h;obtain⟨x,hx,hb⟩:=List.any_eq_true.1 h;have:=hlen x hx;unfold z2w at hb;rw [Bool.or_eq_true,decide_eq_true_eq,decide_eq_true_eq]at hb;omega
  refine⟨⟨⟨?_,?_,?_,?_,?_⟩,?_⟩,D2,t2,?_,?_⟩
  ·show(z0V y).length≤100000;exact zAn hok
  ·rw [hp]
  ·show z3W P (z1G (z0V y)).1=0;rw [hp];exact hm
  ·intro x hx;rw [show(z1G (z0V y)).1=y.map Chg.norm by rw [hp]]at hx;obtain⟨z,hz,rfl⟩:=List.mem_map.1 hx;unfold Chg.norm
   split
   ·simp
   ·rename_i hg;have:=(hok.2 z hz).2 (by simpa using hg);omega
  ·show z4B Q15 c P (Ct.cells D t) (z1G (z0V y)).1;rw [hp];exact zAf y P _ hr
  ·show zFI Q15 c (chgsP c P (Ct.cells D t) (z1G (z0V y)).1) (chgsC (Ct.cells D t) (z1G (z0V y)).1) _;rw [hp,z5k,z8w];exact h2
  ·show Tree Q15 (z9R c (chgsP c P (Ct.cells D t) (z1G (z0V y)).1) (chgsC (Ct.cells D t) (z1G (z0V y)).1) _) c D2 t2;rw [hp,z5k,z8w];exact T2
  ·rw [e2];rfl
end
end Go.Proofs.YthbhkdhljlganaaGreatDoor
