/- Part 31. -/
import Derived.Test.YthnlcbamjehpdaaGreatDoorViewCollectsJ30
namespace Go.Proofs.YthnlcbamjehpdaaGreatDoor
set_option linter.unusedVariables false
set_option maxHeartbeats 16000000
set_option maxRecDepth 100000
section
open Go Go.RowKit Tryz
set_option linter.unusedSimpArgs false
def pgV(x:Pag)(A:Option Addr)(k:Nat):Array Value:= #[.bool x.1,.int .i64 (x.2.1:Int),.slice A x.2.2.length k]
theorem zG6(w:World)(o:Obj):(w.alloc o).heap.size=w.heap.size+1:=by simp
theorem zBi{x:Pag}{k:List UInt8}{cur:Array Value}(h0:0<x.2.2.length)(h:cur.toList.take (x.2.2.length*2)=ccs x.2.2):
 ((cur.setIfInBounds 0 (.string (st k))).toList).take ((z9b x k).2.2.length*2)=ccs (z9b x k).2.2:=by
 obtain⟨lf,n,cs⟩:=x;cases cs with
 |nil=>simp at h0
 |cons y r=>
  unfold z9b;simp only [cellAt,ZR,Yl,List.set_cons_zero,Zp];simp only [y8]at h ⊢;rw [List.take_set,h];simp [ccs]
theorem zJU{cs:List Cel}(ha:Asc cs){i:Nat}(hi:i<cs.length):isK cs cs[i].1=true:=by
 have e:cs=cs.take i++([cs[i]]++cs.drop (i+1)):=by simp
 have ha2:=ha;rw [e]at ha2;unfold Asc at ha2;rw [YL]at ha2;obtain⟨_,h2,h3⟩:=ha2;have hA:∀x∈cs.take i,Lt x.1 cs[i].1:=fun x hx=>h3 x hx cs[i] (yF.2 (.inl (yJ.2 rfl)))
 have hC:∀x∈cs.drop (i+1),Lt cs[i].1 x.1:=fun x hx=>List.rel_of_pairwise_cons h2 hx
 have:=z5G hA hC (B:= [cs[i]]);rw [yM,<-e]at this;rw [this];unfold isK;have h0:z05 [cs[i]] cs[i].1=0:=by
  rcases Y3 (z05 [cs[i]] cs[i].1)with h|h
  .exact h
  .exfalso;have:=z5l (cs:= [cs[i]]) (k:=cs[i].1) (c:=cs[i]) (by
    obtain⟨m,hm⟩:∃m,z05 [cs[i]] cs[i].1=m+1:=⟨_,(Nat.succ_pred_eq_of_pos h).symm⟩;rw [hm];simp)
   exact this.irrefl
 rw [h0];simp
theorem zBb{ops:Array Oper}{i g n j:Nat}{t:TypeId}(h:z0t ops i j=true)(b k:Nat):¬ptX ops [⟨i,g,t,0,n⟩] j b k:=by
 rintro⟨p,hp,_,h2,_⟩;obtain rfl:=yJ.1 hp;rw [h]at h2;cases h2
section
variable {F:Nat->Prop} {w W W':World} {g:Nat} {Z:Pz} {P P':Pgr} {c:Int->List UInt8} {bs:List Vb} {cs:List (Value×List Cel)}
theorem Loc.cons(h:Loc F w W g Z P c bs cs){S:Nat->Prop}{v:Value}{cl:List Cel}(hc:Cs S W v cl)(hS:∀b,S b->(F b∨w.heap.size<=b)/\b<W.heap.size/\¬Z.has b/\b∉bs.map (·.g)):Loc F w W g Z P c bs ((v,cl)::cs):=
 ⟨h.T,h.S,h.z,h.g0,h.b,h.d,fun x hx=>by
   rcases y9.1 hx with rfl|hx
   .exact hc.more hS
   .exact h.c x hx⟩
theorem Loc.consN(h:Loc F w W g Z P c bs cs){B:Nat}{v:Value}{cl:List Cel}(hc:Cs (fun b=>B<=b/\b<W.heap.size) W v cl)(hB:w.heap.size<=B)(hlt:∀x∈bs,x.g<B):Loc F w W g Z P c bs ((v,cl)::cs):=
 h.cons hc fun b hb=>⟨.inr (yD hB hb.1),hb.2,h.nz (yD hB hb.1),fun hm=>by
  obtain⟨x,hx,e⟩:=yP.1 hm;have h1:=hlt x hx;have h2:=hb.1;omega⟩
theorem Loc.c5{a b d e f x:Value×List Cel}(h:Loc F w W g Z P c bs (a::b::d::e::f::x::cs)):Cs (fun b=>(F b∨w.heap.size<=b)/\b<W.heap.size/\¬Z.has b/\b∉bs.map (·.g)) W x.1 x.2:=h.c x (by simp)
theorem Loc.lt(h:Loc F w W g Z P c bs cs):∀x∈bs,x.g<W.heap.size:=fun x hx=>(h.b x hx).1.lt
theorem Loc.call2(h:Loc F w W g Z P c bs cs)(hb:Below W.heap.size W W'){v u:Value}{cl dl:List Cel}(hc:Cs (fun b=>W.heap.size<=b/\b<W'.heap.size) W' v cl)(hd:Cs (fun b=>W.heap.size<=b/\b<W'.heap.size) W' u dl):Loc F w W' g Z P c bs ((u,dl)::(v,cl)::cs):=
 (h.call hb hc).consN hd h.size h.lt
end
structure LvIn(P:Pgr)(c:Int->List UInt8)(s:TStp)(x:Pag):Prop where
 hat:s.at_-1+1<s.pg.2.2.length
 sat:s.at_<=2000
 lb:1<=lvB s
 ne:x.1=false->0<(zFQ (P.pgD c) s x).2.2.length
 all:UpOk (z7v (P.pgD c) s x)
 dep:∃L,z3E (P.pgD c) [] 100 0=some L/\L.length<=1000
def z6Y(F:Nat->Prop)(g:Nat)(Z:Pz)(c:Int->List UInt8)(w:World)(R:Pgr×Pag)(e:Ending)(w':World):Prop:=
 ∃A c1,e= .returned (.agg #[.bool R.2.1,.int .i64 (R.2.2.1:Int),.slice A R.2.2.2.length c1])/\Cs (fun b=>(F b∨w.heap.size<=b)/\b<w'.heap.size/\¬Z.has b) w' (.slice A R.2.2.2.length c1) R.2.2.2/\z1O g Z R.1 c w w'
theorem zEA(F:Nat->Prop)(g:Nat)(Z:Pz)(P:Pgr)(c:Int->List UInt8)(s:TStp)(v1:Value)(id:Int)(leaf:Bool)(n:Nat)(v0:Value)(cs:List Cel)(w:World)(ht:Tg w g Z P c)(hF:∀b,F b->b<w.heap.size/\¬Z.has b)
 (hv1:Cs F w v1 s.pg.2.2) (hv0:Cs F w v0 cs) (hs:UpStp s) (hx:UpOk (leaf,n,cs)) (hi:InI id) (hin:LvIn P c s (leaf,n,cs)):
 Calls prog 176 #[.pointer (some ⟨g,0,none⟩),.agg #[.int .i64 s.id,.int .i64 (s.at_:Int),.bool s.pg.1,.int .i64 (s.pg.2.1:Int),v1],.int .i64 id,.agg #[.bool leaf,.int .i64 (n:Int),v0]] w (z6Y F g Z c w (z0e P c s id (leaf,n,cs))):=by
 obtain⟨A0,c0,rfl,hx0⟩:=hv0.at;clear hx0;obtain⟨A1,c1,rfl,hx0⟩:=hv1.at;clear hx0;obtain⟨sid,sat,slf,sn,scs⟩:=s;simp only at hv1;have hat:=hin.hat;have hsat:=hin.sat;simp only at hat hsat;obtain⟨I,hI⟩:∃I,I=sat-1:=⟨_,rfl⟩;have hI1:I+1<scs.length:=by omega
 have hI0:I<scs.length:=by omega
 obtain⟨b1,o1,rfl,hb1⟩:=z6F hv1 (by omega);have hka:=Cs.get hv1 hI0;have hkb:=Cs.get hv1 hI1;have hkl:=hs.ok.asc.rises;have hva:=z11 none _ hs.ok.parts.2.1 _ (yQ hI0);have hvb:=z11 none _ hs.ok.parts.2.1 _ (yQ hI1);obtain⟨ka,hka0⟩:∃x,x=scs[I].1:=⟨_,rfl⟩;obtain⟨va,hva0⟩:∃x,x=scs[I].2:=⟨_,rfl⟩;obtain⟨kb,hkb0⟩:∃x,x=scs[I+1].1:=⟨_,rfl⟩;obtain⟨vb,hvb0⟩:∃x,x=scs[I+1].2:=⟨_,rfl⟩;have hlA:lvA ⟨sid,sat,slf,sn,scs⟩=z0F va:=by unfold lvA;simp only;rw [<-hI,z1A hI0,<-hva0]
 have hlB:lvB ⟨sid,sat,slf,sn,scs⟩=z0F vb:=by unfold lvB;simp only;rw [<-hI,z1A hI1,<-hvb0]
 have hlK:lvK ⟨sid,sat,slf,sn,scs⟩=kb:=by unfold lvK;simp only;rw [<-hI,z1A hI1,<-hkb0]
 rw [<-hka0,<-hva0]at hka;rw [<-hkb0,<-hvb0]at hkb;have hval:va.length<=480:=by rw [hva0];omega
 have hvbl:vb.length<=480:=by rw [hvb0];omega
 have HLA:=zz hlA;have HLB:=zz hlB;have HLK:=zz hlK;have HKB:=zz hkb0;have HII:=zz hI;have hmx:max ((sat:Int)-1) 0=(I:Int):=by omega
 have ew1:IntKind.i64.wrap ((sat:Int)-1)=(sat:Int)-1:=z1C (by omega) (by omega);have hIb:I<=2000:=by omega
 have hsl:=(z0m hs.ok).1;simp only at hsl;have HS1:=zz hv1;have HK1:=zz hka;have HK2:=zz hkb;have HB1:=zz (hF _ hb1);have L0:=zz (((Loc.start F ht).old hv0 hF));have HS:=zz hs;have HX:=zz hx;have HI:=zz hi;have HIN:=zz hin;have HF:=zz hF;clear ht hF hv0 hv1 hs hx hi hin hka hkb hva hvb hka0 hva0 hkb0 hvb0 hlA hlB hlK hI hkl hb1;go_enter func176,ntmps176
 go_upto_region 1 with(fail)
 have L1:=zz (((L0.out.new 177 #[.int .i64 sid,.int .i64 (sat:Int),.bool slf,.int .i64 (sn:Int),.slice (some ⟨b1,o1,none⟩) scs.length c1] (by decide)).new 175 #[.bool leaf,.int .i64 (n:Int),.slice A0 cs.length c0] (by decide)).new 175 #[.bool false,.int .i64 0,.slice none 0 0] (by decide));simp only [zG6]at L1;generalize ((w.alloc _).alloc _).alloc _=W1 at*;have hs1:=(L1.out.b ⟨w.heap.size,177,#[.int .i64 sid,.int .i64 (sat:Int),.bool slf,.int .i64 (sn:Int),.slice (some ⟨b1,o1,none⟩) scs.length c1]⟩ (by simp)).1;have hx1:=(L1.out.b ⟨w.heap.size+1,175,#[.bool leaf,.int .i64 (n:Int),.slice A0 cs.length c0]⟩ (by simp)).1;simp only at hs1 hx1;have s0:(W1).cell? ⟨w.heap.size,0,none⟩=some (.int .i64 sid):=hs1.cell 0;have s1:(W1).cell? ⟨w.heap.size,1,none⟩=some (.int .i64 (sat:Int)):=hs1.cell 1;have s2:(W1).cell? ⟨w.heap.size,2,none⟩=some (.bool slf):=hs1.cell 2;have s3:(W1).cell? ⟨w.heap.size,3,none⟩=some (.int .i64 (sn:Int)):=hs1.cell 3;have s4:(W1).cell? ⟨w.heap.size,4,none⟩=some (.slice (some ⟨b1,o1,none⟩) scs.length c1):=hs1.cell 4;go_upto_region 2 with(fail)
 have HSB:=zz hs1;have hcs1:=Cs.ptp HS1.out L1.out.S HF.out;have HCa:Hid (W1.cell? ⟨b1,o1+I*2,none⟩=some (.string (st ka))/\W1.cell? ⟨b1,o1+I*2+1,none⟩=some (.string (st va))):=by
  have:=Cs.get hcs1 hI0;have h2:=Cs.get HS1.out hI0;rw [Hid,this.1,this.2,<-h2.1,<-h2.2];exact HK1.out
 have HCb:Hid (W1.cell? ⟨b1,o1+(I+1)*2,none⟩=some (.string (st kb))/\W1.cell? ⟨b1,o1+(I+1)*2+1,none⟩=some (.string (st vb))):=by
  have:=Cs.get hcs1 hI1;have h2:=Cs.get HS1.out hI1;rw [Hid,this.1,this.2,<-h2.1,<-h2.2];exact HK2.out
 have ew2:IntKind.i64.wrap ((I:Int)+1)=(I:Int)+1:=z1C (by omega) (by omega);have hi1:(0:Int)<=(I:Int):=by omega
 have hi2:(I:Int)<(scs.length:Int):=by omega
 have hi3:(I:Int)+1<(scs.length:Int):=by omega
 have hi4:(0:Int)<=(I:Int)+1:=by omega
 clear s0 s1 s2 s3 s4 hs1 hcs1 ew1 hmx;refine z06 (by kernel_rfl) (by kernel_rfl) ?_;apply Exists.intro;apply And.intro
 .skip
  iterate 2
   apply z0D rfl
   .intro wg hwg _;unfold z03;go_simp;exact z00 _ _
   intro K hK;go_simp;refine hK _ ?_;clear hK K
  apply z0D rfl
  .intro wg hwg _;have f4:wg.cell? ⟨w.heap.size,4,none⟩=some (.slice (some ⟨b1,o1,none⟩) scs.length c1):=(HSB.out.later hwg).cell 4;unfold z03;go_simp;exact z00 _ _
  intro K hK;go_simp;refine hK _ ?_;clear hK K
  iterate 2
   apply z0D rfl
   .intro wg hwg _;unfold z03;go_simp;exact z00 _ _
   intro K hK;go_simp;refine hK _ ?_;clear hK K
  apply z0D rfl
  .intro wg hwg _;have e0:wg.cell? ⟨b1,o1+I*2,none⟩=some (.string (st ka)):=yN hwg HCa.out.1;have e1:wg.cell? ⟨b1,o1+I*2+1,none⟩=some (.string (st va)):=yN hwg HCa.out.2;unfold z03;go_simp;exact z00 _ _
  intro K hK;go_simp;refine hK _ ?_;clear hK K;apply z0D (c:= .int .i64 (z0F va)) rfl
  .intro wg hwg _;unfold z03;go_simp;exact z0Z (z3S ka va wg (by omega))
  intro K hK;go_simp;refine hK _ ?_;clear hK K
  iterate 2
   apply z0D rfl
   .intro wg hwg _;unfold z03;go_simp;exact z00 _ _
   intro K hK;go_simp;refine hK _ ?_;clear hK K
  apply z0D rfl
  .intro wg hwg _;have f4:wg.cell? ⟨w.heap.size,4,none⟩=some (.slice (some ⟨b1,o1,none⟩) scs.length c1):=(HSB.out.later hwg).cell 4;unfold z03;go_simp;exact z00 _ _
  intro K hK;go_simp;refine hK _ ?_;clear hK K
  iterate 3
   apply z0D rfl
   .intro wg hwg _;unfold z03;go_simp;exact z00 _ _
   intro K hK;go_simp;refine hK _ ?_;clear hK K
  apply z0D rfl
  .intro wg hwg _;have e0:wg.cell? ⟨b1,o1+(I+1)*2,none⟩=some (.string (st kb)):=yN hwg HCb.out.1;have e1:wg.cell? ⟨b1,o1+(I+1)*2+1,none⟩=some (.string (st vb)):=yN hwg HCb.out.2;unfold z03;go_simp;exact z00 _ _
  intro K hK;go_simp;refine hK _ ?_;clear hK K;apply z0D (c:= .int .i64 (z0F vb)) rfl
  .intro wg hwg _;unfold z03;go_simp;exact z0Z (z3S kb vb wg (by omega))
  intro K hK;go_simp;refine hK _ ?_;clear hK K
  iterate 2
   apply z0D rfl
   .intro wg hwg _;unfold z03;go_simp;exact z00 _ _
   intro K hK;go_simp;refine hK _ ?_;clear hK K
  refine z0f (fun W2 hq2 hf0=> ?_);clear hf0;have L2:=zz (L1.out.later hq2);have HSB2:=zz (HSB.out.later hq2);have hx2:=hx1.later hq2;have HKb2:Hid (W2.cell? ⟨b1,o1+(I+1)*2,none⟩=some (.string (st kb))):=yN hq2 HCb.out.1;clear hq2 L1 HSB HCa HCb hx1;have x0:(W2).cell? ⟨w.heap.size+1,0,none⟩=some (.bool leaf):=hx2.cell 0;have x1:(W2).cell? ⟨w.heap.size+1,1,none⟩=some (.int .i64 (n:Int)):=hx2.cell 1;have x2:(W2).cell? ⟨w.heap.size+1,2,none⟩=some (.slice A0 cs.length c0):=hx2.cell 2;have HXB2:=zz hx2;have hlt2:w.heap.size+1<W2.heap.size:=hx2.lt;have y0:∀o,(W2.alloc o).cell? ⟨w.heap.size+1,0,none⟩=some (.bool leaf):=fun o=>(HXB2.out.alloc o).cell 0
  have z0:∀o o',((W2.alloc o).alloc o').cell? ⟨w.heap.size+1,0,none⟩=some (.bool leaf):=fun o o'=>((HXB2.out.alloc o).alloc o').cell 0
  have y1:∀o,(W2.alloc o).cell? ⟨w.heap.size+1,1,none⟩=some (.int .i64 (n:Int)):=fun o=>(HXB2.out.alloc o).cell 1
  have z1:∀o o',((W2.alloc o).alloc o').cell? ⟨w.heap.size+1,1,none⟩=some (.int .i64 (n:Int)):=fun o o'=>((HXB2.out.alloc o).alloc o').cell 1
  have y2:∀o,(W2.alloc o).cell? ⟨w.heap.size+1,2,none⟩=some (.slice A0 cs.length c0):=fun o=>(HXB2.out.alloc o).cell 2
  have z2:∀o o',((W2.alloc o).alloc o').cell? ⟨w.heap.size+1,2,none⟩=some (.slice A0 cs.length c0):=fun o o'=>((HXB2.out.alloc o).alloc o').cell 2
  clear hx2;go_upto_region 3 with(fail)
  have LA:=(L2.out.new 175 #[.bool leaf,.int .i64 (n:Int),.slice A0 cs.length c0] (by decide)).new 175 #[.bool leaf,.int .i64 (n:Int),.slice A0 cs.length c0] (by decide);rw [zG6]at LA;have LA1:=zz LA.drew;have LA2:=zz LA.swap.drew;clear LA;go_cut [12,13] (fun lv rv wx=>∃gl gr:Nat,lv= .pointer (some ⟨gl,0,none⟩)/\rv= .pointer (some ⟨gr,0,none⟩)/\W2.heap.size<=gl/\W2.heap.size<=gr/\Hid (Below W2.heap.size W2 wx)/\Hid (Loc F w wx g Z P c [⟨gr,175,#[.bool leaf,.int .i64 (n:Int),.slice A0 cs.length c0]⟩,⟨gl,175,#[.bool leaf,.int .i64 (n:Int),.slice A0 cs.length c0]⟩,⟨w.heap.size+1+1,175,#[.bool false,.int .i64 0,.slice none 0 0]⟩,⟨w.heap.size+1,175,#[.bool leaf,.int .i64 (n:Int),.slice A0 cs.length c0]⟩,⟨w.heap.size,177,#[.int .i64 sid,.int .i64 (sat:Int),.bool slf,.int .i64 (sn:Int),.slice (some ⟨b1,o1,none⟩) scs.length c1]⟩] [(.slice A0 cs.length c0,cs)]))
  case first=>
   go_region
   all_goals
    go_wp2_with fail
    go_meet
    first
     |exact⟨_,_,rfl,rfl,y5 _,QM _,(((y7 _ _).alloc (y5 _) _).alloc (by simp) _).drew,LA1.out⟩
     |exact⟨_,_,rfl,rfl,QM _,y5 _,(((y7 _ _).alloc (y5 _) _).alloc (by simp) _).drew,LA2.out⟩
  case rest=>
   obtain⟨gl,gr,rfl,rfl,hgl,hgr,HQ3,L3⟩:=hcut;generalize wc=W3 at*;have HSB3:=zz (HSB2.out.later HQ3.out);have HXB3:=zz (HXB2.out.later HQ3.out);have HKb3:Hid (W3.cell? ⟨b1,o1+(I+1)*2,none⟩=some (.string (st kb))):=yN HQ3.out HKb2.out;clear LA1 LA2 L2 HSB2 HXB2 HKb2 x0 x1 x2 y0 y1 y2 z0 z1 z2 HQ3;obtain⟨XL,hXL⟩:∃X,lvL (P.pgD c) ⟨sid,sat,slf,sn,scs⟩ (leaf,n,cs)=X:=⟨_,rfl⟩;obtain⟨XR,hXR⟩:∃X,zFQ (P.pgD c) ⟨sid,sat,slf,sn,scs⟩ (leaf,n,cs)=X:=⟨_,rfl⟩;have HXL:=zz hXL;have HXR:=zz hXR;have hxl:XL.2.2.length<=2000:=by
    rw [<-hXL];unfold lvL
    split
    .exact HX.out.n
    .have:=(z0m (z7H P c (lvA ⟨sid,sat,slf,sn,scs⟩))).1;omega
   have hxr:XR.2.2.length<=2000:=by
    rw [<-hXR];unfold zFQ
    split
    .have:=(z0m (z7H P c (lvB ⟨sid,sat,slf,sn,scs⟩))).1;omega
    .exact HX.out.n
   clear hXL hXR;have s0:(W3).cell? ⟨w.heap.size,0,none⟩=some (.int .i64 sid):=HSB3.out.cell 0;have s1:(W3).cell? ⟨w.heap.size,1,none⟩=some (.int .i64 (sat:Int)):=HSB3.out.cell 1;go_upto_if 41 with(fail)
   go_cut [] (fun wx=>∃ (AL:Option Addr) (cL:Nat) (AR:Option Addr) (cR:Nat),Hid (Loc F w wx g Z P c [⟨gr,175,pgV XR AR cR⟩,⟨gl,175,pgV XL AL cL⟩,⟨w.heap.size+1+1,175,#[.bool false,.int .i64 0,.slice none 0 0]⟩,⟨w.heap.size+1,175,#[.bool leaf,.int .i64 (n:Int),.slice A0 cs.length c0]⟩,⟨w.heap.size,177,#[.int .i64 sid,.int .i64 (sat:Int),.bool slf,.int .i64 (sn:Int),.slice (some ⟨b1,o1,none⟩) scs.length c1]⟩] [(.slice AR XR.2.2.length cR,XR.2.2),(.slice AL XL.2.2.length cL,XL.2.2),(.slice A0 cs.length c0,cs)]))
   case first=>
    by_cases h0:sat=0
    .have e1:XL=(leaf,n,cs):=by rw [<-HXL.out];unfold lvL;rw [yB h0]
     have e2:XR=P.pgD c (z0F vb):=by rw [<-HXR.out];unfold zFQ;rw [yB h0,HLB.out]
     have hb0:((sat:Int)==0)=true:=by rw [h0];rfl
     have E1:=zz e1;have E2:=zz e2;clear h0 e1 e2;go_wp2_with fail
     refine(z2n g Z P c (z0F vb) W3 L3.out.T (z1X _)).mono ?_;rintro e w4 ⟨v,rfl,⟨A2,c2,rfl,hcs⟩,hb4⟩;have L4:=zz (Loc.call L3.out hb4 hcs);have hbr:=L4.out.b0;simp only at hbr;have r0:(w4).cell? ⟨gr,0,none⟩=some (.bool leaf):=hbr.cell 0;have r1:(w4).cell? ⟨gr,1,none⟩=some (.int .i64 (n:Int)):=hbr.cell 1;have r2:(w4).cell? ⟨gr,2,none⟩=some (.slice A0 cs.length c0):=hbr.cell 2;have rf0:(w4).frozen? ⟨gr,0,none⟩=false:=hbr.free 0;have rf1:(w4).frozen? ⟨gr,1,none⟩=false:=hbr.free 1;have rf2:(w4).frozen? ⟨gr,2,none⟩=false:=hbr.free 2;clear hcs hb4 hbr;go_wp2_with fail
     go_meet
     rw [E1.out,E2.out];exact⟨A0,c0,A2,c2,(Loc.put3 (l:= []) L4.out rfl _ _ _).sub fun x hx=>by
      simp only [y9,yH,yp]at hx ⊢;rcases hx with h|h|h<;>simp [h]⟩
    .have e1:XL=P.pgD c (z0F va):=by rw [<-HXL.out];unfold lvL;rw [yA h0,HLA.out]
     have e2:XR=(leaf,n,cs):=by rw [<-HXR.out];unfold zFQ;rw [yA h0]
     have hb0:((sat:Int)==0)=false:=yV.2 (by omega);have E1:=zz e1;have E2:=zz e2;clear h0 e1 e2;go_wp2_with fail
     refine(z2n g Z P c (z0F va) W3 L3.out.T (z1X _)).mono ?_;rintro e w4 ⟨v,rfl,⟨A2,c2,rfl,hcs⟩,hb4⟩;have L4:=zz (Loc.call L3.out hb4 hcs);have hbr:=L4.out.b1;simp only at hbr;have r0:(w4).cell? ⟨gl,0,none⟩=some (.bool leaf):=hbr.cell 0;have r1:(w4).cell? ⟨gl,1,none⟩=some (.int .i64 (n:Int)):=hbr.cell 1;have r2:(w4).cell? ⟨gl,2,none⟩=some (.slice A0 cs.length c0):=hbr.cell 2;have rf0:(w4).frozen? ⟨gl,0,none⟩=false:=hbr.free 0;have rf1:(w4).frozen? ⟨gl,1,none⟩=false:=hbr.free 1;have rf2:(w4).frozen? ⟨gl,2,none⟩=false:=hbr.free 2;clear hcs hb4 hbr;go_wp2_with fail
     go_meet
     rw [E1.out,E2.out];exact⟨A2,c2,A0,c0,(Loc.put3 (l:= [⟨gr,175,#[.bool leaf,.int .i64 (n:Int),.slice A0 cs.length c0]⟩]) L4.out rfl _ _ _).sub fun x hx=>by
      simp only [y9,yH,yp]at hx ⊢;rcases hx with h|h|h<;>simp [h]⟩
   case rest=>
    obtain⟨AL,cL,AR,cR,L4⟩:=hcut;generalize wc=W4 at*;have HKb4:Hid (W4.cell? ⟨b1,o1+(I+1)*2,none⟩=some (.string (st kb))):=by
     have:=Cs.get (Cs.ptp HS1.out L4.out.S HF.out) hI1;have h2:=Cs.get HS1.out hI1;rw [Hid,this.1,<-h2.1];exact HK2.out.1
    clear L3 HSB3 HXB3 HKb3 s0 s1;obtain⟨XS,hXS⟩:∃X,lvR (P.pgD c) ⟨sid,sat,slf,sn,scs⟩ (leaf,n,cs)=X:=⟨_,rfl⟩;have HXS:=zz hXS;have hx4:=L4.out.b3;have hr4:=L4.out.b0;have hs4:=L4.out.b4;simp only at hx4 hr4 hs4;have x0:(W4).cell? ⟨w.heap.size+1,0,none⟩=some (.bool leaf):=hx4.cell 0;have x1:(W4).cell? ⟨w.heap.size+1,1,none⟩=some (.int .i64 (n:Int)):=hx4.cell 1;have x2:(W4).cell? ⟨w.heap.size+1,2,none⟩=some (.slice A0 cs.length c0):=hx4.cell 2;have r0:(W4).cell? ⟨gr,0,none⟩=some (.bool XR.1):=hr4.cell 0;have r1:(W4).cell? ⟨gr,1,none⟩=some (.int .i64 (XR.2.1:Int)):=hr4.cell 1;have r2:(W4).cell? ⟨gr,2,none⟩=some (.slice AR XR.2.2.length cR):=hr4.cell 2;have rf0:(W4).frozen? ⟨gr,0,none⟩=false:=hr4.free 0;have rf1:(W4).frozen? ⟨gr,1,none⟩=false:=hr4.free 1;have rf2:(W4).frozen? ⟨gr,2,none⟩=false:=hr4.free 2;have s4:W4.cell? ⟨w.heap.size,4,none⟩=some (.slice (some ⟨b1,o1,none⟩) scs.length c1):=hs4.cell 4;clear hXS hx4 hr4 hs4;go_upto_if 56 with(fail)
    go_cut [] (fun wx=>∃ (AR:Option Addr) (cR:Nat),Hid (Loc F w wx g Z P c [⟨gr,175,pgV XS AR cR⟩,⟨gl,175,pgV XL AL cL⟩,⟨w.heap.size+1+1,175,#[.bool false,.int .i64 0,.slice none 0 0]⟩,⟨w.heap.size+1,175,#[.bool leaf,.int .i64 (n:Int),.slice A0 cs.length c0]⟩,⟨w.heap.size,177,#[.int .i64 sid,.int .i64 (sat:Int),.bool slf,.int .i64 (sn:Int),.slice (some ⟨b1,o1,none⟩) scs.length c1]⟩] [(.slice AR XS.2.2.length cR,XS.2.2),(.slice AL XL.2.2.length cL,XL.2.2),(.slice A0 cs.length c0,cs)]))
    case first=>
     cases leaf with
     |true=>
      have e1:XS=XR:=by rw [<-HXS.out];unfold lvR;rw [yB rfl,HXR.out]
      have E1:=zz e1;clear e1;go_wp2_with fail
      go_meet
      rw [E1.out];exact⟨AR,cR,L4.out⟩
     |false=>
      have e1:XS=z9b XR kb:=by rw [<-HXS.out];unfold lvR;simp only [yu,yv];rw [HXR.out,HLK.out]
      have hne:0<XR.2.2.length:=by rw [<-HXR.out];exact HIN.out.ne rfl
      have E1:=zz e1;clear e1;go_wp2_with fail
      refine(z8X _ _ XR.2.2 W4 (by omega) L4.out.c0 hne).mono ?_;rintro e w5 ⟨gq,cap,cur,rfl,hgq,hbq,hcap,hcm,hct,htk,hb5⟩;have L5:=zz (Loc.add L4.out hb5 hgq hbq (by decide));have HKb5:Hid (w5.cell? ⟨b1,o1+(I+1)*2,none⟩=some (.string (st kb))):=yN hb5 HKb4.out;have hr5:=L5.out.b1;have hq5:=L5.out.b0;simp only at hr5 hq5;have HTK:=zz htk;have HCT:=zz hct;clear hgq hbq hb5 x0 x1 x2 r0 r1 r2 rf0 rf1 rf2 s4 htk hct;have r0:(w5).cell? ⟨gr,0,none⟩=some (.bool XR.1):=hr5.cell 0;have r1:(w5).cell? ⟨gr,1,none⟩=some (.int .i64 (XR.2.1:Int)):=hr5.cell 1;have r2:(w5).cell? ⟨gr,2,none⟩=some (.slice AR XR.2.2.length cR):=hr5.cell 2;have rf0:(w5).frozen? ⟨gr,0,none⟩=false:=hr5.free 0;have rf1:(w5).frozen? ⟨gr,1,none⟩=false:=hr5.free 1;have rf2:(w5).frozen? ⟨gr,2,none⟩=false:=hr5.free 2;clear hr5 hq5;go_upto_region 9 with(fail)
      have L6:=zz (Loc.put (l:= [⟨gq,94,cur⟩]) L5.out rfl 2 (.slice (some ⟨gq,0,none⟩) XR.2.2.length cap));have HKb6:Hid ((w5.setCell ⟨gr,2,none⟩ (.slice (some ⟨gq,0,none⟩) XR.2.2.length cap)).cell? ⟨b1,o1+(I+1)*2,none⟩=some (.string (st kb))):=by
       have:=Cs.get (Cs.ptp HS1.out L6.out.S HF.out) hI1;have h2:=Cs.get HS1.out hI1;rw [Hid,this.1,<-h2.1];exact HK2.out.1
      clear HKb5 L5 r0 r1 r2 rf0 rf1 rf2;generalize w5.setCell ⟨gr,2,none⟩ (.slice (some ⟨gq,0,none⟩) XR.2.2.length cap)=W6 at*;have hr6:=L6.out.b1;have hq6:=L6.out.b0;have hs6:=L6.out.b5;simp only at hr6 hq6 hs6;have r2:W6.cell? ⟨gr,2,none⟩=some (.slice (some ⟨gq,0,none⟩) XR.2.2.length cap):=hr6.cell 2;have s4:W6.cell? ⟨w.heap.size,4,none⟩=some (.slice (some ⟨b1,o1,none⟩) scs.length c1):=hs6.cell 4;have k0:=HKb6.out;have q0:W6.cell? ⟨gq,0,none⟩=some (.string (st (cellAt XR.2.2 0).1)):=by
       rw [hq6.cell 0];have h1:(cur.toList.take (XR.2.2.length*2))[0]? =(ccs XR.2.2)[0]? :=congrArg (fun l=>l[0]?) HTK.out;rw [List.getElem?_take,yB (by omega)]at h1;rw [<-Zg,h1];clear h1 HTK;obtain⟨_,_,l⟩:=XR;cases l with
       |nil=>simp at hne
       |cons y r=>rfl
      have qf0:=hq6.free 0;have hne2:(0:Int)<(XR.2.2.length:Int):=by omega
      clear hr6 hs6;have HQ6:=zz hq6;clear hq6;go_region
      go_wp2_with fail
      go_meet
      have hlen:(z9b XR kb).2.2.length=XR.2.2.length:=by unfold z9b;simp
      have L7:=Loc.put (l:= []) L6.out rfl 0 (.string (st kb));have L8:=Loc.toCs L7 (zEi L7.b0 hlen.symm hcap hcm (zBi hne HTK.out) (by omega));rw [E1.out];refine⟨some ⟨gq,0,none⟩,cap,?_⟩;unfold pgV at L8 ⊢;rw [hlen];exact(L8.sub fun x hx=>by
       simp only [y9,yH,yp]at hx ⊢;rcases hx with h|h|h<;>simp [h]).drew
    case rest=>
     obtain⟨AR2,cR2,L5⟩:=hcut;generalize wc=W5 at*;have hxs:XS.2.2.length<=2000:=by
      rw [<-HXS.out];unfold lvR
      split
      .rw [HXR.out];exact hxr
      .unfold z9b;simp only [Qn];rw [HXR.out];exact hxr
     have HXA:Hid (z7v (P.pgD c) ⟨sid,sat,slf,sn,scs⟩ (leaf,n,cs)=(XL.1,XS.2.1,XL.2.2++XS.2.2)):=by rw [Hid,<-HXL.out,<-HXS.out];rfl
     clear L4 HKb4 x0 x1 x2 r0 r1 r2 rf0 rf1 rf2 s4;have hl5:=L5.out.b1;have hr5:=L5.out.b0;simp only at hl5 hr5;have d0:(W5).cell? ⟨gl,0,none⟩=some (.bool XL.1):=hl5.cell 0;have d1:(W5).cell? ⟨gl,1,none⟩=some (.int .i64 (XL.2.1:Int)):=hl5.cell 1;have d2:(W5).cell? ⟨gl,2,none⟩=some (.slice AL XL.2.2.length cL):=hl5.cell 2;have r0:(W5).cell? ⟨gr,0,none⟩=some (.bool XS.1):=hr5.cell 0;have r1:(W5).cell? ⟨gr,1,none⟩=some (.int .i64 (XS.2.1:Int)):=hr5.cell 1;have r2:(W5).cell? ⟨gr,2,none⟩=some (.slice AR2 XS.2.2.length cR2):=hr5.cell 2;clear hl5 hr5;go_wp2_with fail
     refine(zFj _ _ XL.1 XS.1 (XL.2.1:Int) (XS.2.1:Int) _ _ XL.2.2 XS.2.2 W5 (by omega) (by omega) L5.out.c1 L5.out.c0).mono ?_;rintro e w6 ⟨v,rfl,⟨AJ,cJ,rfl,hcj⟩,hb6⟩;obtain⟨cj,hcj0⟩:∃cj,XL.2.2++XS.2.2=cj:=⟨_,rfl⟩;rw [hcj0]at hcj HXA ⊢;have L6:=zz ((Loc.call L5.out hb6 hcj).new 175 #[.bool XL.1,.int .i64 (XS.2.1:Int),.slice AJ cj.length cJ] (by decide));have hg6:=L5.out.size;have hb6s:=hb6.size;clear hcj0 hcj hb6 d0 d1 d2 r0 r1 r2;go_upto_region 11 with(fail)
     generalize w6.alloc _=W7 at*;generalize w6.heap.size=gj at*;have hx7:=L6.out.b4;have hs7:=L6.out.b5;simp only at hx7 hs7;have hs4a:=(Cs.ptp HS1.out L6.out.S HF.out);have HC7:=zz hs4a;have k0:W7.cell? ⟨b1,o1+(I+1)*2,none⟩=some (.string (st kb)):=by
      rw [HKB.out];exact(Cs.get hs4a hI1).1
     have s0:(W7).cell? ⟨w.heap.size,0,none⟩=some (.int .i64 sid):=hs7.cell 0;have s1:(W7).cell? ⟨w.heap.size,1,none⟩=some (.int .i64 (sat:Int)):=hs7.cell 1;have s2:(W7).cell? ⟨w.heap.size,2,none⟩=some (.bool slf):=hs7.cell 2;have s3:(W7).cell? ⟨w.heap.size,3,none⟩=some (.int .i64 (sn:Int)):=hs7.cell 3;have s4:(W7).cell? ⟨w.heap.size,4,none⟩=some (.slice (some ⟨b1,o1,none⟩) scs.length c1):=hs7.cell 4;have HS7:=zz hs7;have hlt7:w.heap.size<W7.heap.size:=hs7.lt;have hb17:b1<W7.heap.size:=Yp HB1.out.1 hlt7;have yk:∀o,(W7.alloc o).cell? ⟨b1,o1+(I+1)*2,none⟩=some (.string (st kb)):=fun o=>(yR (a:=⟨b1,o1+(I+1)*2,none⟩) (QH W7 o b1 hb17)).trans k0
     have y2:∀o,(W7.alloc o).cell? ⟨w.heap.size,2,none⟩=some (.bool slf):=fun o=>(HS7.out.alloc o).cell 2
     have y3:∀o,(W7.alloc o).cell? ⟨w.heap.size,3,none⟩=some (.int .i64 (sn:Int)):=fun o=>(HS7.out.alloc o).cell 3
     have y4:∀o,(W7.alloc o).cell? ⟨w.heap.size,4,none⟩=some (.slice (some ⟨b1,o1,none⟩) scs.length c1):=fun o=>(HS7.out.alloc o).cell 4
     obtain⟨cu,hcu⟩:∃cu,delC scs kb=cu:=⟨_,rfl⟩;have HCU:=zz hcu;have hisk:isK scs kb=true:=by
      rw [HKB.out];exact zJU HS.out.ok.asc hI1
     have HPR:Hid (∀W v,Cs F W v scs->Calls prog 151 #[.agg #[.bool slf,.int .i64 (sn:Int),v],.string (st kb)] W fun e w'=>∃vq,e= .returned (.tuple #[vq,.int .i64 0])/\PgIs W.heap.size w' vq slf (sn:Int) cu/\Below W.heap.size W w'):=fun W v h=>by
      have:=z7J F slf (sn:Int) v scs kb W (by omega) h HS.out.ok.asc.rises hisk;rw [hcu]at this;exact this
     clear hs4a hx7 hs7 hcu hisk;go_cut [15,16] (fun pv ev wx=>∃ (ga:Nat) (AU:Option Addr) (cU:Nat),pv= .pointer (some ⟨ga,0,none⟩)/\ev= .int .i64 0/\Hid (Loc F w wx g Z P c [⟨ga,175,#[.bool slf,.int .i64 (sn:Int),.slice AU cu.length cU]⟩,⟨gj,175,#[.bool XL.1,.int .i64 (XS.2.1:Int),.slice AJ cj.length cJ]⟩,⟨gr,175,pgV XS AR2 cR2⟩,⟨gl,175,pgV XL AL cL⟩,⟨w.heap.size+1+1,175,#[.bool false,.int .i64 0,.slice none 0 0]⟩,⟨w.heap.size+1,175,#[.bool leaf,.int .i64 (n:Int),.slice A0 cs.length c0]⟩,⟨w.heap.size,177,#[.int .i64 sid,.int .i64 (sat:Int),.bool slf,.int .i64 (sn:Int),.slice (some ⟨b1,o1,none⟩) scs.length c1]⟩] [(.slice AU cu.length cU,cu),(.slice AJ cj.length cJ,cj),(.slice A0 cs.length c0,cs)]))
     case first=>
      as_aux_lemma=>
       go_region_with ((go_at_call 151;refine(HPR.out _ _ (by first|exact Sl.drew HC7.out|exact(Sl.below HC7.out (((y7 W7.heap.size W7).alloc (y5 _) _).drew) fun b h=>by have:=(HF.out b h).1;omega))).mono ?_;rintro e w8 ⟨vq,rfl,⟨AU,cU,rfl,hcu8⟩,hb8⟩;(first|(have hnz:=((Blk.new W7 175 #[.bool false,.int .i64 0,.slice none 0 0]).drew).later hb8;have z0:w8.cell? ⟨W7.heap.size,0,none⟩=some (.bool false):=hnz.cell 0;have z1:w8.cell? ⟨W7.heap.size,1,none⟩=some (.int .i64 0):=hnz.cell 1;have z2:w8.cell? ⟨W7.heap.size,2,none⟩=some (.slice none 0 0):=hnz.cell 2;have zf0:=hnz.free 0;have zf1:=hnz.free 1;have zf2:=hnz.free 2;have HCU8:=zz hcu8;have HB8:=zz hb8;clear hnz hcu8 hb8)|(have HCU8:=zz hcu8;have HB8:=zz hb8;clear hcu8 hb8))))
       all_goals
        go_wp2_with fail
        go_meet
        first
         |exact⟨_,AU,cU,rfl,rfl,(((Loc.call L6.out.drew HB8.out HCU8.out).new 175 _ (by decide)).sub fun x hx=>by
           simp only [y9,yH,yp]at hx ⊢;rcases hx with h|h|h<;>simp [h])⟩
         |exact⟨_,AU,cU,rfl,rfl,((Loc.put3 (l:= []) (Loc.call ((L6.out.new 175 #[.bool false,.int .i64 0,.slice none 0 0] (by decide)).drew) HB8.out HCU8.out) rfl _ _ _).sub fun x hx=>by
           simp only [y9,yH,yp]at hx ⊢;rcases hx with h|h|h<;>simp [h])⟩
     case rest=>
      obtain⟨ga,AU,cU,rfl,rfl,L7⟩:=hcut;generalize wc=W8 at*;clear L6 HC7 k0 s0 s1 s2 s3 s4 HS7 yk y2 y3 y4 HPR hlt7 hb17;have hj8:=L7.out.b1;simp only at hj8;have j0:(W8).cell? ⟨gj,0,none⟩=some (.bool XL.1):=hj8.cell 0;have j1:(W8).cell? ⟨gj,1,none⟩=some (.int .i64 (XS.2.1:Int)):=hj8.cell 1;have j2:(W8).cell? ⟨gj,2,none⟩=some (.slice AJ cj.length cJ):=hj8.cell 2;have hall:=HIN.out.all;rw [HXA.out]at hall;have hxn:=hall.nx;have hcjl:=hall.n;simp only at hxn hcjl;have HAL:=zz hall;have hcul:cu.length<=1100:=by
       have h1:=(z0m HS.out.ok).1;have h2:=(z6h scs kb).2;simp only at h1;rw [HCU.out]at h2;omega
      clear hall hj8;go_wp2_with fail
      refine(z3Q _ XL.1 (XS.2.1:Int) _ cj W8 (by omega) HAL.out.mid L7.out.c1).mono ?_;rintro e w9 ⟨rfl,hb9⟩;have L9:=zz (L7.out.later hb9);have hszp:szP (XL.1,XS.2.1,cj)=z2v (XS.2.1:Int) cj:=rfl;have hj9:=L9.out.b1;simp only at hj9;clear hb9 j0 j1 j2;have j0:(w9).cell? ⟨gj,0,none⟩=some (.bool XL.1):=hj9.cell 0;have j1:(w9).cell? ⟨gj,1,none⟩=some (.int .i64 (XS.2.1:Int)):=hj9.cell 1;have j2:(w9).cell? ⟨gj,2,none⟩=some (.slice AJ cj.length cJ):=hj9.cell 2;clear hj9;by_cases hsz:szP (XL.1,XS.2.1,cj)<=2048
      .have hz2:decide ((z2v (XS.2.1:Int) cj:Int)<=(2048:Int))=true:=yq (by omega);have hE:z0e P c ⟨sid,sat,slf,sn,scs⟩ id (leaf,n,cs)=((P.wp (z0F va) (XL.1,XS.2.1,cj)).free (z0F vb),(slf,sn,cu)):=by
        unfold z0e;rw [HXA.out,yB hsz,HLA.out,HLB.out,HLK.out];unfold z40;simp only;rw [HCU.out]
       have HE:=zz hE;clear hE hsz hszp;generalize z2v (XS.2.1:Int) cj=NS at*;go_wp2_with fail
       refine(z0M g Z P c (z0F va) _ XL.1 XS.2.1 _ cj w9 L9.out.T (z1X _) HAL.out.mid (by omega) L9.out.c1).mono ?_;rintro e w10 ⟨rfl,hd10⟩;have L10:=zz (L9.out.done hd10);have t0:w10.cell? ⟨g,0,none⟩=some (.pointer (some ⟨Z.g,0,none⟩)):=L10.out.T.blk.cell 0;clear hd10 j0 j1 j2;go_wp2_with fail
       refine(z7G Z _ (z0F vb) w10 L10.out.T.pg (z1X _)).mono ?_;rintro e w11 ⟨he,hd11⟩;obtain⟨n11,hn11⟩:∃n11:Int,(if(P.wp (z0F va) (XL.1,XS.2.1,cj)).has (z0F vb)then(0:Int)else 131)=n11:=⟨_,rfl⟩;rw [hn11]at he;subst he;have L11:=zz (L10.out.done (P':=(P.wp (z0F va) (XL.1,XS.2.1,cj)).free (z0F vb)) ⟨L10.out.T.done hd11 (Kin.free _ _),hd11.2⟩);have ha11:=L11.out.b0;have hr11:=L11.out.b4;simp only at ha11 hr11;have a0:(w11).cell? ⟨ga,0,none⟩=some (.bool slf):=ha11.cell 0;have a1:(w11).cell? ⟨ga,1,none⟩=some (.int .i64 (sn:Int)):=ha11.cell 1;have a2:(w11).cell? ⟨ga,2,none⟩=some (.slice AU cu.length cU):=ha11.cell 2;have r0:(w11).cell? ⟨w.heap.size+1+1,0,none⟩=some (.bool false):=hr11.cell 0;have r1:(w11).cell? ⟨w.heap.size+1+1,1,none⟩=some (.int .i64 0):=hr11.cell 1;have r2:(w11).cell? ⟨w.heap.size+1+1,2,none⟩=some (.slice none 0 0):=hr11.cell 2;have rf0:(w11).frozen? ⟨w.heap.size+1+1,0,none⟩=false:=hr11.free 0;have rf1:(w11).frozen? ⟨w.heap.size+1+1,1,none⟩=false:=hr11.free 1;have rf2:(w11).frozen? ⟨w.heap.size+1+1,2,none⟩=false:=hr11.free 2;clear hd11 hn11 ha11 t0;have HR11:=zz hr11;clear hr11;go_wp2_with fail
       have L12:=Loc.put3 (l:= [_,_,_,_]) L11.out rfl (.bool slf) (.int .i64 (sn:Int)) (.slice AU cu.length cU);refine bodyPost_ret (z0V rfl _ _ (w.heap.size+1+1) rfl (HR11.out.put3 _ _ _) z1Q) rfl ?_;unfold z6Y;rw [HE.out];exact⟨AU,cU,rfl,L12.c0.more fun b hb=>⟨hb.1,hb.2.1,hb.2.2.1⟩,L12.fin⟩
      .have hz2:decide ((z2v (XS.2.1:Int) cj:Int)<=(2048:Int))=false:=yZ (by omega);have h2c:=HAL.out.two (by omega);simp only at h2c;obtain⟨nb,hnb⟩:∃nb:Nat,z0F vb=(nb:Int):=⟨(z0F vb).toNat,by have h1:=HIN.out.lb;rw [HLB.out]at h1;omega⟩;have hnb9:nb<90:=by have:=z8F vb;omega
       have HSZ:Hid (¬szP (XL.1,XS.2.1,cj)<=2048):=hsz;rw [hnb]at HLB ⊢;clear hszp hsz;generalize z2v (XS.2.1:Int) cj=NS at*;go_wp2_with fail
       refine(z8Z _ XL.1 (XS.2.1:Int) _ cj w9 HAL.out.mid L9.out.c1 h2c).mono ?_;rintro e w10 ⟨k,va',vb',rfl,hhalf,⟨AL2,cL2,rfl,hcl⟩,⟨AR3,cR3,rfl,hcr⟩,hb10⟩;have hk:=z9B hhalf;obtain⟨lc,hlc⟩:∃lc,cj.take k=lc:=⟨_,rfl⟩;obtain⟨rc,hrc⟩:∃rc,cj.drop k=rc:=⟨_,rfl⟩;have hSL:zB0 (XL.1,XS.2.1,cj)=(XL.1,XS.2.1,lc):=by unfold zB0;simp only;rw [hk,hlc]
       have hSR:zBk (XL.1,XS.2.1,cj)=(XL.1,XS.2.1,rc):=by unfold zBk;simp only;rw [hk,hrc]
       have hrl:0<rc.length:=by rw [<-hrc,yI];have:=hhalf.hi;omega
       have hml:∀x∈lc,x∈cj:=fun x hx=>yY (hlc▸hx)
       have hmr:∀x∈rc,x∈cj:=fun x hx=>yo (hrc▸hx)
       have hll:lc.length<=cj.length:=by rw [<-hlc,yC];omega
       have hlr:rc.length<=cj.length:=by rw [<-hrc,yI];omega
       have HML:Hid (Mid lc):=⟨by omega,fun x hx=>HAL.out.mid.2 x (hml x hx)⟩;have HMR:Hid (Mid rc):=⟨by omega,fun x hx=>HAL.out.mid.2 x (hmr x hx)⟩;have hcel:(cellAt rc 0)∈cj:=hmr _ (by rw [z1A hrl];exact yQ hrl);have HCE:=zz (HAL.out.sm _ hcel);rw [hlc]at hcl ⊢;rw [hrc]at hcr ⊢;have HSL:=zz hSL;have HSR:=zz hSR;have L10:=zz (Loc.call2 L9.out hb10 hcl hcr);have hl10:=L10.out.b3;have hr10:=L10.out.b2;have hne1:gl≠gr:=Loc.ne (l:= [_,_]) L10.out rfl (y:=⟨gl,175,pgV XL AL cL⟩) (.inr (by simp));have hne2:gr≠gl:=hne1.symm;unfold pgV at hl10 hr10;simp only at hl10 hr10;clear hSL hSR hml hmr hk hlc hrc hhalf hcel hcl hcr hb10 h2c hnb hz2 j0 j1 j2;have d0:(w10).cell? ⟨gl,0,none⟩=some (.bool XL.1):=hl10.cell 0;have d1:(w10).cell? ⟨gl,1,none⟩=some (.int .i64 (XL.2.1:Int)):=hl10.cell 1;have d2:(w10).cell? ⟨gl,2,none⟩=some (.slice AL XL.2.2.length cL):=hl10.cell 2;have df0:(w10).frozen? ⟨gl,0,none⟩=false:=hl10.free 0;have df1:(w10).frozen? ⟨gl,1,none⟩=false:=hl10.free 1;have df2:(w10).frozen? ⟨gl,2,none⟩=false:=hl10.free 2;have r0:(w10).cell? ⟨gr,0,none⟩=some (.bool XS.1):=hr10.cell 0;have r1:(w10).cell? ⟨gr,1,none⟩=some (.int .i64 (XS.2.1:Int)):=hr10.cell 1;have r2:(w10).cell? ⟨gr,2,none⟩=some (.slice AR2 XS.2.2.length cR2):=hr10.cell 2;have rf0:(w10).frozen? ⟨gr,0,none⟩=false:=hr10.free 0;have rf1:(w10).frozen? ⟨gr,1,none⟩=false:=hr10.free 1;have rf2:(w10).frozen? ⟨gr,2,none⟩=false:=hr10.free 2;clear hl10 hr10;go_upto_region 17 with(fail)
       have L11:=zz (Loc.put3 (l:= [_,_]) (Loc.put3 (l:= [_,_,_]) L10.out rfl (.bool XL.1) (.int .i64 (XS.2.1:Int)) (.slice AL2 lc.length cL2)) rfl (.bool XL.1) (.int .i64 (XS.2.1:Int)) (.slice AR3 rc.length cR3));clear L10 d0 d1 d2 df0 df1 df2 r0 r1 r2 rf0 rf1 rf2;generalize (((((w10.setCell ⟨gl,0,none⟩ _).setCell ⟨gl,1,none⟩ _).setCell ⟨gl,2,none⟩ _).setCell ⟨gr,0,none⟩ _).setCell ⟨gr,1,none⟩ _).setCell ⟨gr,2,none⟩ _=W11 at*;have hj11:=L11.out.b1;have hr11:=L11.out.b2;simp only [Y8,yz]at hj11 hr11;have j0:(W11).cell? ⟨gj,0,none⟩=some (.bool XL.1):=hj11.cell 0;have j1:(W11).cell? ⟨gj,1,none⟩=some (.int .i64 (XS.2.1:Int)):=hj11.cell 1;have j2:(W11).cell? ⟨gj,2,none⟩=some (.slice AJ cj.length cJ):=hj11.cell 2;have r0:(W11).cell? ⟨gr,0,none⟩=some (.bool XL.1):=hr11.cell 0;have r1:(W11).cell? ⟨gr,1,none⟩=some (.int .i64 (XS.2.1:Int)):=hr11.cell 1;have r2:(W11).cell? ⟨gr,2,none⟩=some (.slice AR3 rc.length cR3):=hr11.cell 2;have rf0:(W11).frozen? ⟨gr,0,none⟩=false:=hr11.free 0;have rf1:(W11).frozen? ⟨gr,1,none⟩=false:=hr11.free 1;have rf2:(W11).frozen? ⟨gr,2,none⟩=false:=hr11.free 2;clear hj11 hr11;go_upto_region 18 with(fail)
       have L12:Hid (Loc F w (W11.setCell ⟨gr,1,none⟩ (.int .i64 (XS.2.1:Int))) g Z P c [⟨ga,175,#[.bool slf,.int .i64 (sn:Int),.slice AU cu.length cU]⟩,⟨gj,175,#[.bool XL.1,.int .i64 (XS.2.1:Int),.slice AJ cj.length cJ]⟩,⟨gr,175,#[.bool XL.1,.int .i64 (XS.2.1:Int),.slice AR3 rc.length cR3]⟩,⟨gl,175,#[.bool XL.1,.int .i64 (XS.2.1:Int),.slice AL2 lc.length cL2]⟩,⟨w.heap.size+1+1,175,#[.bool false,.int .i64 0,.slice none 0 0]⟩,⟨w.heap.size+1,175,#[.bool leaf,.int .i64 (n:Int),.slice A0 cs.length c0]⟩,⟨w.heap.size,177,#[.int .i64 sid,.int .i64 (sat:Int),.bool slf,.int .i64 (sn:Int),.slice (some ⟨b1,o1,none⟩) scs.length c1]⟩] [(.slice AR3 rc.length cR3,rc),(.slice AL2 lc.length cL2,lc),(.slice AU cu.length cU,cu),(.slice AJ cj.length cJ,cj),(.slice A0 cs.length c0,cs)]):=Loc.put (l:= [_,_]) L11.out rfl 1 (.int .i64 (XS.2.1:Int));generalize W11.setCell ⟨gr,1,none⟩ (.int .i64 (XS.2.1:Int))=W12 at*;clear L11 j0 j1 j2 r0 r1 r2 rf0 rf1 rf2;have hx12:=L12.out.b5;have hl12:=L12.out.b3;simp only at hx12 hl12;have x0:W12.cell? ⟨w.heap.size+1,0,none⟩=some (.bool leaf):=hx12.cell 0;have d0:(W12).cell? ⟨gl,0,none⟩=some (.bool XL.1):=hl12.cell 0;have d1:(W12).cell? ⟨gl,1,none⟩=some (.int .i64 (XS.2.1:Int)):=hl12.cell 1;have d2:(W12).cell? ⟨gl,2,none⟩=some (.slice AL2 lc.length cL2):=hl12.cell 2;have df0:(W12).frozen? ⟨gl,0,none⟩=false:=hl12.free 0;have df1:(W12).frozen? ⟨gl,1,none⟩=false:=hl12.free 1;have df2:(W12).frozen? ⟨gl,2,none⟩=false:=hl12.free 2;clear hx12 hl12;go_upto_if 114 with(fail)
       go_cut [] (fun wx=>Hid (Loc F w wx g Z P c [⟨ga,175,#[.bool slf,.int .i64 (sn:Int),.slice AU cu.length cU]⟩,⟨gj,175,#[.bool XL.1,.int .i64 (XS.2.1:Int),.slice AJ cj.length cJ]⟩,⟨gr,175,#[.bool XL.1,.int .i64 (XS.2.1:Int),.slice AR3 rc.length cR3]⟩,⟨gl,175,#[.bool XL.1,.int .i64 ((if leaf then nb else XS.2.1:Nat):Int),.slice AL2 lc.length cL2]⟩,⟨w.heap.size+1+1,175,#[.bool false,.int .i64 0,.slice none 0 0]⟩,⟨w.heap.size+1,175,#[.bool leaf,.int .i64 (n:Int),.slice A0 cs.length c0]⟩,⟨w.heap.size,177,#[.int .i64 sid,.int .i64 (sat:Int),.bool slf,.int .i64 (sn:Int),.slice (some ⟨b1,o1,none⟩) scs.length c1]⟩] [(.slice AR3 rc.length cR3,rc),(.slice AL2 lc.length cL2,lc),(.slice AU cu.length cU,cu),(.slice AJ cj.length cJ,cj),(.slice A0 cs.length c0,cs)]))
       case first=>
        cases leaf with
        |false=>
         go_wp2_with fail
         go_meet
         exact L12.out
        |true=>
         go_wp2_with fail
         go_meet
         exact Loc.put (l:= [_,_,_]) L12.out rfl 1 (.int .i64 (nb:Int))
       case rest=>
        have L13:Hid _:=hcut;generalize wc=W13 at*;clear L12 x0 d0 d1 d2 df0 df1 df2 hcut;obtain⟨NL,hNL⟩:∃NL:Nat,(if leaf then nb else XS.2.1:Nat)=NL:=⟨_,rfl⟩;have HNL:=zz hNL;rw [hNL]at L13;have hnl:NL<=1000:=by rw [<-hNL];split<;>omega
        clear hNL;obtain⟨b2,o2,rfl,hb2⟩:=z6F L13.out.c0 hrl;have hga2:b2≠ga:=fun e=>hb2.2.2.2 (by simp [e])
        have hgag:gr≠ga:=Loc.ne (l:= []) L13.out rfl (y:=⟨gr,175,#[.bool XL.1,.int .i64 (XS.2.1:Int),.slice (some ⟨b2,o2,none⟩) rc.length cR3]⟩) (.inr (by simp));have hga13:=L13.out.b0;have hgr13:=L13.out.b2;simp only at hga13 hgr13;obtain⟨k1,hk1⟩:∃k1,(cellAt rc 0).1=k1:=⟨_,rfl⟩;have hkc:W13.cell? ⟨b2,o2,none⟩=some (.string (st k1)):=by
         rw [<-hk1,z1A hrl];have:=(Cs.get L13.out.c0 hrl).1;rw [ZY,YQ]at this;exact this
        have HK1:=zz hk1;rw [hk1]at HCE;obtain⟨pc,hpc⟩:∃pc,putC cu (k1,z0C nb)=pc:=⟨_,rfl⟩;have HPC:=zz hpc;have hcur:RisesP cu:=by
         have h1:=(POk.del HS.out.ok kb).1.asc;unfold z40 at h1;simp only at h1;rw [HCU.out]at h1;exact h1.rises
        have HCR:=zz hcur;have hpcl:pc.length<=1101:=by have:=z3h cu (k1,z0C nb);rw [hpc]at this;omega
        have HGA:=zz hga13;have HGR:=zz hgr13;have HKC:=zz hkc;have hgalt:ga<W13.heap.size:=hga13.lt;have hwsz13:=L13.out.size;have HCU3:=zz L13.out.c2;have v10:=z09 (x:=nb) (by unfold U64;omega);clear hb2 hga13 hgr13 hk1 hkc hpc hcur;go_upto_region 20 with(fail)
        refine z1z [⟨12,ga,175,0,3⟩] (by kernel_rfl) (by kernel_rfl) ?_;apply Exists.intro;apply And.intro
        .skip
         apply z0X rfl rfl
         .intro wg hwg _;have f0:wg.cell? ⟨ga,0,none⟩=some (.bool slf):=hwg.cell (HGA.out.cell 0) (zBb (by kernel_rfl) _ _);have f1:wg.cell? ⟨ga,1,none⟩=some (.int .i64 (sn:Int)):=hwg.cell (HGA.out.cell 1) (zBb (by kernel_rfl) _ _);have f2:wg.cell? ⟨ga,2,none⟩=some (.slice AU cu.length cU):=hwg.cell (HGA.out.cell 2) (zBb (by kernel_rfl) _ _);unfold z03;go_simp;exact z00 _ _
         intro K hK;go_simp;refine hK _ ?_;clear hK K
         iterate 6
          apply z0X rfl rfl
          .intro wg hwg _;replace hwg:=hwg.mono z4a;have f5:wg.cell? ⟨gr,2,none⟩=some (.slice (some ⟨b2,o2,none⟩) rc.length cR3):=hwg.cell (HGR.out.cell 2) (z0q hgag _);have f6:wg.cell? ⟨b2,o2,none⟩=some (.string (st k1)):=hwg.cell HKC.out (z0q hga2 _);unfold z03;go_simp;exact z00 _ _
          intro K hK;go_simp;refine hK _ ?_;clear hK K
         apply z0X (c:= .agg #[.string (st k1),.string (st (z0C nb))]) rfl rfl
         .intro wg hwg _;unfold z03;go_simp;exact⟨y7 _ _,(z2m k1 nb wg (by omega)).mono (fun e w' ⟨he,hb⟩=>⟨_,he,hb,rfl⟩)⟩
         intro K hK;go_simp;refine hK _ ?_;clear hK K;apply z1w (V:=VPt W13.heap.size (slf,sn,pc)) rfl rfl
         .intro wg hwg _;replace hwg:=hwg.mono z4a;have hsz8:=hwg.size;have HC9:=zz (Sl.grown HCU3.out (Kept.grown1 hwg) (fun b h=>h.2.1) (fun b h e=>h.2.2.2 (by injection e with e;simp [e])));unfold z03;go_simp;exact⟨y7 _ _,(z6M _ slf (sn:Int) _ cu k1 (z0C nb) wg (by omega) HC9.out HCR.out (by have:=HCE.out;omega)).mono (by rintro e w' ⟨vq,he,⟨A3,c3,e3,h3⟩,hb⟩;rw [HPC.out]at e3 h3;exact⟨_,he,hb,vq,rfl,A3,c3,e3,h3.more fun bb hbb=>⟨by omega,hbb.2⟩⟩)⟩
         intro xv hxv K hK;obtain⟨wx,_,vq,rfl,A3,c3,rfl,hcq⟩:=hxv;clear hcq;go_simp;refine hK _ ?_;clear hK K;apply z1w (V:=VPt W13.heap.size (slf,sn,pc)) rfl rfl
         .intro wg hwg hf;have h9:=zz (hf ⟨8,.data⟩ (by simp) rfl _ _ rfl);clear hf;unfold z03;go_simp;simp only [z0H];exact⟨y7 _ _,h9.out⟩
         intro xv hxv K hK;obtain⟨wx,_,vq,rfl,A4,c4,rfl,hcq⟩:=hxv;clear hcq;go_simp;refine hK _ ?_;clear hK K;apply z1w (V:=VPgs W13.heap.size (slf,sn,pc)) rfl rfl
         .intro wg hwg hf;have h9:=zz (hf ⟨9,.data⟩ (by simp) rfl _ _ rfl);clear hf;unfold z03;go_simp;simp only [z0H];obtain⟨vq,e,h10⟩:=h9.out;injection e with e
          injection e with e
          injection e with e _
          subst e;exact⟨y7 _ _,h10⟩
         intro xv hxv K hK;obtain⟨wx,_,A5,c5,rfl,hcq⟩:=hxv;clear hcq;go_simp;refine hK _ ?_;clear hK K
         iterate 1
          apply z0X rfl rfl
          .intro wg hwg _;unfold z03;go_simp;exact z00 _ _
          intro K hK;go_simp;refine hK _ ?_;clear hK K
         apply z4E (VPgs W13.heap.size (slf,sn,pc)) (#[.bool slf,.int .i64 (sn:Int),.slice A5 pc.length c5])
         .rfl
         .rfl
         rotate_left 4
         .exact HGA.out
         rotate_right 4
         .kernel_rfl
         .kernel_rfl
         .kernel_rfl
         .kernel_rfl
         .kernel_rfl
         .kernel_rfl
         .exact fun wg hwg hf=>hf ⟨10,.data⟩ (by simp) rfl _ _ rfl
         .exact fun p hp=>VPgs.pstays _ (by rw [hp];omega)
         intro K hK;go_simp;refine hK _ ?_;clear hK K;refine z4D (fun wf hE hf=> ?_);have g13:=hf 12 _ _ rfl;clear hf;obtain⟨-,cs9,b9,A6,c6,e9,h9⟩:=g13;injection e9 with e9
         subst e9;have L14:Hid (Loc F w wf g Z P c [⟨ga,175,#[.bool slf,.int .i64 (sn:Int),.slice A6 pc.length c6]⟩,⟨gj,175,#[.bool XL.1,.int .i64 (XS.2.1:Int),.slice AJ cj.length cJ]⟩,⟨gr,175,#[.bool XL.1,.int .i64 (XS.2.1:Int),.slice (some ⟨b2,o2,none⟩) rc.length cR3]⟩,⟨gl,175,#[.bool XL.1,.int .i64 (NL:Int),.slice AL2 lc.length cL2]⟩,⟨w.heap.size+1+1,175,#[.bool false,.int .i64 0,.slice none 0 0]⟩,⟨w.heap.size+1,175,#[.bool leaf,.int .i64 (n:Int),.slice A0 cs.length c0]⟩,⟨w.heap.size,177,#[.int .i64 sid,.int .i64 (sat:Int),.bool slf,.int .i64 (sn:Int),.slice (some ⟨b1,o1,none⟩) scs.length c1]⟩] [(.slice A6 pc.length c6,pc),(.slice (some ⟨b2,o2,none⟩) rc.length cR3,rc),(.slice AL2 lc.length cL2,lc),(.slice AU cu.length cU,cu),(.slice AJ cj.length cJ,cj),(.slice A0 cs.length c0,cs)]):=Loc.consN (Loc.keptB (l:= []) L13.out rfl hE b9) h9 hwsz13 (fun x hx=>by
          rcases y9.1 hx with rfl|hx
          .exact hgalt
          .exact L13.out.lt x (ym _ hx))
         clear hE b9 h9 L13 HGA HGR HKC HCU3;have t0:wf.cell? ⟨g,0,none⟩=some (.pointer (some ⟨Z.g,0,none⟩)):=L14.out.T.blk.cell 0;go_wp2_with fail
         refine(z3P Z P wf L14.out.T.pg).mono ?_;rintro e w15 ⟨v15,rfl,ho15,hb15⟩;obtain⟨A15,k15,c15,rfl⟩:=z0v ho15;obtain rfl:=z0h ho15;have hp90:P.pages.length<=90:=by unfold Pgr.pages;exact yD (YI _ _) (by simp)
         obtain⟨KP,hKP⟩:∃KP,P.pages.length=KP:=⟨_,rfl⟩;have HKP:=zz hKP;rw [z8M,hKP];rw [hKP]at hp90;have L15:=zz (L14.out.later hb15);obtain⟨LL,hway,hLL⟩:=HIN.out.dep;have HDEP:Hid (depF (P.pgD c)=LL.length):=by unfold depF;rw [Hid,hway];rfl
         have HWY:=zz hway;have ew3:IntKind.i64.wrap ((90:Int)-(KP:Int))=(90:Int)-(KP:Int):=z1C (by omega) (by omega);have ew4:IntKind.i64.wrap ((LL.length:Int)+2)=(LL.length:Int)+2:=z1C (by omega) (by omega);obtain⟨few,hfew⟩:∃few:Bool,decide (90<KP+(LL.length+2))=few:=⟨_,rfl⟩;have hf1:decide ((90:Int)-(KP:Int)<(LL.length:Int)+2)=few:=by rw [<-hfew,decide_eq_decide];omega
         have HFEW:=zz hfew;clear hKP hway ho15 hb15 t0 L14 hfew;go_wp2_with fail
         refine(zE7 g Z P c 100 LL w15 L15.out.T HWY.out (by omega)).mono ?_;rintro e w16 ⟨rfl,hb16⟩;have L16:=zz (L15.out.later hb16);have HMP:Hid (Mid pc):=by
          refine⟨by omega,fun x hx=> ?_⟩;rw [<-HPC.out]at hx;rcases z6J hx with rfl|hx
          .have:=HCE.out;simp only;omega
          .rw [<-HCU.out]at hx;have:=z11 none _ HS.out.ok.parts.2.1 x (z5I hx);omega
         have ha16:=L16.out.b0;simp only at ha16;have a0:(w16).cell? ⟨ga,0,none⟩=some (.bool slf):=ha16.cell 0;have a1:(w16).cell? ⟨ga,1,none⟩=some (.int .i64 (sn:Int)):=ha16.cell 1;have a2:(w16).cell? ⟨ga,2,none⟩=some (.slice A6 pc.length c6):=ha16.cell 2;have hsn:sn<=256:=(z0m HS.out.ok).2;clear hb16 L15 ha16;go_wp2_with fail
         refine(z3Q _ slf (sn:Int) _ pc w16 (by omega) HMP.out L16.out.c0).mono ?_;rintro e w17 ⟨rfl,hb17⟩;have L17:=zz (L16.out.later hb17);have HPAR:Hid (zDd (P.pgD c) ⟨sid,sat,slf,sn,scs⟩ (leaf,n,cs)=(slf,sn,pc)):=by
          unfold zDd;rw [Hid,HXA.out,HSR.out,HLB.out,HLK.out];unfold z15 z40;simp only [Yb];rw [HCU.out,HK1.out,HPC.out]
         obtain⟨ps,hps⟩:∃ps,z2v (sn:Int) pc=ps:=⟨_,rfl⟩;have HPS:Hid (szP (slf,sn,pc)=ps):=hps;have HST:Hid (z78 P (P.pgD c) ⟨sid,sat,slf,sn,scs⟩ (leaf,n,cs)↔2048<ps/\few=true/\(leaf=true∨1<cs.length)):=by
          unfold z78;rw [Hid,HPAR.out,HPS.out,HKP.out,HDEP.out,<-HFEW.out,yd]
         rw [hps];have hx17:=L17.out.b5;have hl17:=L17.out.b3;simp only at hx17 hl17;have x0:(w17).cell? ⟨w.heap.size+1,0,none⟩=some (.bool leaf):=hx17.cell 0;have x1:(w17).cell? ⟨w.heap.size+1,1,none⟩=some (.int .i64 (n:Int)):=hx17.cell 1;have x2:(w17).cell? ⟨w.heap.size+1,2,none⟩=some (.slice A0 cs.length c0):=hx17.cell 2;have d0:(w17).cell? ⟨gl,0,none⟩=some (.bool XL.1):=hl17.cell 0;have d1:(w17).cell? ⟨gl,1,none⟩=some (.int .i64 (NL:Int)):=hl17.cell 1;have d2:(w17).cell? ⟨gl,2,none⟩=some (.slice AL2 lc.length cL2):=hl17.cell 2;have hcs1:cs.length<=2000:=HX.out.n;have hn1:n<=1000:=HX.out.nx;clear hb17 L16 hps hx17 hl17 a0 a1 a2 ew3 ew4 hf1;by_cases hp2:2048<ps
         .have z2:decide ((2048:Int)<(ps:Int))=true:=yq (by omega);cases few with
          |false=>
           have hno:¬ (2048<ps/\false=true/\(leaf=true∨1<cs.length)):=fun h=>by cases h.2.1
           have HE:Hid (z0e P c ⟨sid,sat,slf,sn,scs⟩ id (leaf,n,cs)=((P.wp (z0F va) (XL.1,NL,lc)).wp (nb:Int) (XL.1,XS.2.1,rc),(slf,sn,pc))):=by
            have h1:¬z78 P (P.pgD c) ⟨sid,sat,slf,sn,scs⟩ (leaf,n,cs):=fun h=>hno (HST.out.1 h)
            unfold z0e;rw [Hid,HXA.out,yA HSZ.out,yA h1,HPAR.out,HSL.out,HSR.out,HLA.out,HLB.out];unfold z4b;simp only [Yb];rw [HNL.out]
           go_wp2_with fail
           refine(z0M g Z P c (z0F va) _ XL.1 NL _ lc w17 L17.out.T (z1X _) HML.out (by omega) L17.out.c2).mono ?_;rintro e w18 ⟨rfl,hd18⟩;have L18:=zz (L17.out.done hd18);have hr18:=L18.out.b2;simp only at hr18;clear hd18 x0 x1 x2 d0 d1 d2;have r0:(w18).cell? ⟨gr,0,none⟩=some (.bool XL.1):=hr18.cell 0;have r1:(w18).cell? ⟨gr,1,none⟩=some (.int .i64 (XS.2.1:Int)):=hr18.cell 1;have r2:(w18).cell? ⟨gr,2,none⟩=some (.slice (some ⟨b2,o2,none⟩) rc.length cR3):=hr18.cell 2;clear hr18;go_wp2_with fail
           refine(z0M g Z _ c (nb:Int) _ XL.1 XS.2.1 _ rc w18 L18.out.T (by unfold InI;omega) HMR.out (by omega) L18.out.c1).mono ?_;rintro e w19 ⟨rfl,hd19⟩;have L19:=zz (L18.out.done hd19);have ha19:=L19.out.b0;have hr19:=L19.out.b4;simp only at ha19 hr19;clear hd19 r0 r1 r2;have a0:(w19).cell? ⟨ga,0,none⟩=some (.bool slf):=ha19.cell 0;have a1:(w19).cell? ⟨ga,1,none⟩=some (.int .i64 (sn:Int)):=ha19.cell 1;have a2:(w19).cell? ⟨ga,2,none⟩=some (.slice A6 pc.length c6):=ha19.cell 2;have r0:(w19).cell? ⟨w.heap.size+1+1,0,none⟩=some (.bool false):=hr19.cell 0;have r1:(w19).cell? ⟨w.heap.size+1+1,1,none⟩=some (.int .i64 0):=hr19.cell 1;have r2:(w19).cell? ⟨w.heap.size+1+1,2,none⟩=some (.slice none 0 0):=hr19.cell 2;have rf0:(w19).frozen? ⟨w.heap.size+1+1,0,none⟩=false:=hr19.free 0;have rf1:(w19).frozen? ⟨w.heap.size+1+1,1,none⟩=false:=hr19.free 1;have rf2:(w19).frozen? ⟨w.heap.size+1+1,2,none⟩=false:=hr19.free 2;have HR19:=zz hr19;clear hr19 ha19;go_wp2_with fail
           have L20:=Loc.put3 (l:= [_,_,_,_]) L19.out rfl (.bool slf) (.int .i64 (sn:Int)) (.slice A6 pc.length c6);refine bodyPost_ret (z0V rfl _ _ (w.heap.size+1+1) rfl (HR19.out.put3 _ _ _) z1Q) rfl ?_;unfold z6Y;rw [HE.out];exact⟨A6,c6,rfl,L20.c0.more fun b hb=>⟨hb.1,hb.2.1,hb.2.2.1⟩,L20.fin⟩
          |true=>
           cases leaf with
           |true=>
            have hss:2048<ps/\true=true/\(true=true∨1<cs.length):=⟨hp2,rfl,.inl rfl⟩;have HE:Hid (z0e P c ⟨sid,sat,slf,sn,scs⟩ id (true,n,cs)=(P.wp id (true,n,cs),(slf,sn,scs))):=by
             have h1:=HST.out.2 hss;unfold z0e;rw [Hid,HXA.out,yA HSZ.out,yB h1]
            go_wp2_with fail
            refine(z0M g Z P c id _ true n _ cs w17 L17.out.T HI.out HX.out.mid (by omega) L17.out.c5).mono ?_;rintro e w18 ⟨rfl,hd18⟩;have L18:=zz (L17.out.done hd18);have hs18:=L18.out.b6;have hr18:=L18.out.b4;simp only at hs18 hr18;clear hd18 x0 x1 x2 d0 d1 d2;have s0:(w18).cell? ⟨w.heap.size,0,none⟩=some (.int .i64 sid):=hs18.cell 0;have s1:(w18).cell? ⟨w.heap.size,1,none⟩=some (.int .i64 (sat:Int)):=hs18.cell 1;have s2:(w18).cell? ⟨w.heap.size,2,none⟩=some (.bool slf):=hs18.cell 2;have s3:(w18).cell? ⟨w.heap.size,3,none⟩=some (.int .i64 (sn:Int)):=hs18.cell 3;have s4:(w18).cell? ⟨w.heap.size,4,none⟩=some (.slice (some ⟨b1,o1,none⟩) scs.length c1):=hs18.cell 4;have r0:(w18).cell? ⟨w.heap.size+1+1,0,none⟩=some (.bool false):=hr18.cell 0;have r1:(w18).cell? ⟨w.heap.size+1+1,1,none⟩=some (.int .i64 0):=hr18.cell 1;have r2:(w18).cell? ⟨w.heap.size+1+1,2,none⟩=some (.slice none 0 0):=hr18.cell 2;have rf0:(w18).frozen? ⟨w.heap.size+1+1,0,none⟩=false:=hr18.free 0;have rf1:(w18).frozen? ⟨w.heap.size+1+1,1,none⟩=false:=hr18.free 1;have rf2:(w18).frozen? ⟨w.heap.size+1+1,2,none⟩=false:=hr18.free 2;have HR18:=zz hr18;clear hr18 hs18;go_wp2_with fail
            have L19:=Loc.put3 (l:= [_,_,_,_]) L18.out rfl (.bool slf) (.int .i64 (sn:Int)) (.slice (some ⟨b1,o1,none⟩) scs.length c1);refine bodyPost_ret (z0V rfl _ _ (w.heap.size+1+1) rfl (HR18.out.put3 _ _ _) z1Q) rfl ?_;unfold z6Y;rw [HE.out];exact⟨some ⟨b1,o1,none⟩,c1,rfl,(Cs.ptp HS1.out L19.S HF.out).more fun b hb=>⟨.inl hb,yE (HF.out b hb).1 L19.size,(HF.out b hb).2⟩,L19.fin⟩
           |false=>
            by_cases hc1:1<cs.length
            .have z3:decide ((1:Int)<(cs.length:Int))=true:=yq (by omega);have hss:2048<ps/\true=true/\(false=true∨1<cs.length):=⟨hp2,rfl,.inr hc1⟩;have HE:Hid (z0e P c ⟨sid,sat,slf,sn,scs⟩ id (false,n,cs)=(P.wp id (false,n,cs),(slf,sn,scs))):=by
              have h1:=HST.out.2 hss;unfold z0e;rw [Hid,HXA.out,yA HSZ.out,yB h1]
             go_wp2_with fail
             refine(z0M g Z P c id _ false n _ cs w17 L17.out.T HI.out HX.out.mid (by omega) L17.out.c5).mono ?_;rintro e w18 ⟨rfl,hd18⟩;have L18:=zz (L17.out.done hd18);have hs18:=L18.out.b6;have hr18:=L18.out.b4;simp only at hs18 hr18;clear hd18 x0 x1 x2 d0 d1 d2;have s0:(w18).cell? ⟨w.heap.size,0,none⟩=some (.int .i64 sid):=hs18.cell 0;have s1:(w18).cell? ⟨w.heap.size,1,none⟩=some (.int .i64 (sat:Int)):=hs18.cell 1;have s2:(w18).cell? ⟨w.heap.size,2,none⟩=some (.bool slf):=hs18.cell 2;have s3:(w18).cell? ⟨w.heap.size,3,none⟩=some (.int .i64 (sn:Int)):=hs18.cell 3;have s4:(w18).cell? ⟨w.heap.size,4,none⟩=some (.slice (some ⟨b1,o1,none⟩) scs.length c1):=hs18.cell 4;have r0:(w18).cell? ⟨w.heap.size+1+1,0,none⟩=some (.bool false):=hr18.cell 0;have r1:(w18).cell? ⟨w.heap.size+1+1,1,none⟩=some (.int .i64 0):=hr18.cell 1;have r2:(w18).cell? ⟨w.heap.size+1+1,2,none⟩=some (.slice none 0 0):=hr18.cell 2;have rf0:(w18).frozen? ⟨w.heap.size+1+1,0,none⟩=false:=hr18.free 0;have rf1:(w18).frozen? ⟨w.heap.size+1+1,1,none⟩=false:=hr18.free 1;have rf2:(w18).frozen? ⟨w.heap.size+1+1,2,none⟩=false:=hr18.free 2;have HR18:=zz hr18;clear hr18 hs18;go_wp2_with fail
             have L19:=Loc.put3 (l:= [_,_,_,_]) L18.out rfl (.bool slf) (.int .i64 (sn:Int)) (.slice (some ⟨b1,o1,none⟩) scs.length c1);refine bodyPost_ret (z0V rfl _ _ (w.heap.size+1+1) rfl (HR18.out.put3 _ _ _) z1Q) rfl ?_;unfold z6Y;rw [HE.out];exact⟨some ⟨b1,o1,none⟩,c1,rfl,(Cs.ptp HS1.out L19.S HF.out).more fun b hb=>⟨.inl hb,yE (HF.out b hb).1 L19.size,(HF.out b hb).2⟩,L19.fin⟩
            .have z3:decide ((1:Int)<(cs.length:Int))=false:=yZ (by omega);have hno:¬ (2048<ps/\true=true/\(false=true∨1<cs.length)):=fun h=>by
              rcases h.2.2 with h3|h3
              .cases h3
              .exact hc1 h3
             have HE:Hid (z0e P c ⟨sid,sat,slf,sn,scs⟩ id (false,n,cs)=((P.wp (z0F va) (XL.1,NL,lc)).wp (nb:Int) (XL.1,XS.2.1,rc),(slf,sn,pc))):=by
              have h1:¬z78 P (P.pgD c) ⟨sid,sat,slf,sn,scs⟩ (false,n,cs):=fun h=>hno (HST.out.1 h)
              unfold z0e;rw [Hid,HXA.out,yA HSZ.out,yA h1,HPAR.out,HSL.out,HSR.out,HLA.out,HLB.out];unfold z4b;simp only [Yb];rw [HNL.out]
             go_wp2_with fail
             refine(z0M g Z P c (z0F va) _ XL.1 NL _ lc w17 L17.out.T (z1X _) HML.out (by omega) L17.out.c2).mono ?_;rintro e w18 ⟨rfl,hd18⟩;have L18:=zz (L17.out.done hd18);have hr18:=L18.out.b2;simp only at hr18;clear hd18 x0 x1 x2 d0 d1 d2;have r0:(w18).cell? ⟨gr,0,none⟩=some (.bool XL.1):=hr18.cell 0;have r1:(w18).cell? ⟨gr,1,none⟩=some (.int .i64 (XS.2.1:Int)):=hr18.cell 1;have r2:(w18).cell? ⟨gr,2,none⟩=some (.slice (some ⟨b2,o2,none⟩) rc.length cR3):=hr18.cell 2;clear hr18;go_wp2_with fail
             refine(z0M g Z _ c (nb:Int) _ XL.1 XS.2.1 _ rc w18 L18.out.T (by unfold InI;omega) HMR.out (by omega) L18.out.c1).mono ?_;rintro e w19 ⟨rfl,hd19⟩;have L19:=zz (L18.out.done hd19);have ha19:=L19.out.b0;have hr19:=L19.out.b4;simp only at ha19 hr19;clear hd19 r0 r1 r2;have a0:(w19).cell? ⟨ga,0,none⟩=some (.bool slf):=ha19.cell 0;have a1:(w19).cell? ⟨ga,1,none⟩=some (.int .i64 (sn:Int)):=ha19.cell 1;have a2:(w19).cell? ⟨ga,2,none⟩=some (.slice A6 pc.length c6):=ha19.cell 2;have r0:(w19).cell? ⟨w.heap.size+1+1,0,none⟩=some (.bool false):=hr19.cell 0;have r1:(w19).cell? ⟨w.heap.size+1+1,1,none⟩=some (.int .i64 0):=hr19.cell 1;have r2:(w19).cell? ⟨w.heap.size+1+1,2,none⟩=some (.slice none 0 0):=hr19.cell 2;have rf0:(w19).frozen? ⟨w.heap.size+1+1,0,none⟩=false:=hr19.free 0;have rf1:(w19).frozen? ⟨w.heap.size+1+1,1,none⟩=false:=hr19.free 1;have rf2:(w19).frozen? ⟨w.heap.size+1+1,2,none⟩=false:=hr19.free 2;have HR19:=zz hr19;clear hr19 ha19;go_wp2_with fail
             have L20:=Loc.put3 (l:= [_,_,_,_]) L19.out rfl (.bool slf) (.int .i64 (sn:Int)) (.slice A6 pc.length c6);refine bodyPost_ret (z0V rfl _ _ (w.heap.size+1+1) rfl (HR19.out.put3 _ _ _) z1Q) rfl ?_;unfold z6Y;rw [HE.out];exact⟨A6,c6,rfl,L20.c0.more fun b hb=>⟨hb.1,hb.2.1,hb.2.2.1⟩,L20.fin⟩
         .have z2:decide ((2048:Int)<(ps:Int))=false:=yZ (by omega);have hno:¬ (2048<ps/\few=true/\(leaf=true∨1<cs.length)):=fun h=>hp2 h.1
          have HE:Hid (z0e P c ⟨sid,sat,slf,sn,scs⟩ id (leaf,n,cs)=((P.wp (z0F va) (XL.1,NL,lc)).wp (nb:Int) (XL.1,XS.2.1,rc),(slf,sn,pc))):=by
           have h1:¬z78 P (P.pgD c) ⟨sid,sat,slf,sn,scs⟩ (leaf,n,cs):=fun h=>hno (HST.out.1 h)
           unfold z0e;rw [Hid,HXA.out,yA HSZ.out,yA h1,HPAR.out,HSL.out,HSR.out,HLA.out,HLB.out];unfold z4b;simp only [Yb];rw [HNL.out]
          go_wp2_with fail
          refine(z0M g Z P c (z0F va) _ XL.1 NL _ lc w17 L17.out.T (z1X _) HML.out (by omega) L17.out.c2).mono ?_;rintro e w18 ⟨rfl,hd18⟩;have L18:=zz (L17.out.done hd18);have hr18:=L18.out.b2;simp only at hr18;clear hd18 x0 x1 x2 d0 d1 d2;have r0:(w18).cell? ⟨gr,0,none⟩=some (.bool XL.1):=hr18.cell 0;have r1:(w18).cell? ⟨gr,1,none⟩=some (.int .i64 (XS.2.1:Int)):=hr18.cell 1;have r2:(w18).cell? ⟨gr,2,none⟩=some (.slice (some ⟨b2,o2,none⟩) rc.length cR3):=hr18.cell 2;clear hr18;go_wp2_with fail
          refine(z0M g Z _ c (nb:Int) _ XL.1 XS.2.1 _ rc w18 L18.out.T (by unfold InI;omega) HMR.out (by omega) L18.out.c1).mono ?_;rintro e w19 ⟨rfl,hd19⟩;have L19:=zz (L18.out.done hd19);have ha19:=L19.out.b0;have hr19:=L19.out.b4;simp only at ha19 hr19;clear hd19 r0 r1 r2;have a0:(w19).cell? ⟨ga,0,none⟩=some (.bool slf):=ha19.cell 0;have a1:(w19).cell? ⟨ga,1,none⟩=some (.int .i64 (sn:Int)):=ha19.cell 1;have a2:(w19).cell? ⟨ga,2,none⟩=some (.slice A6 pc.length c6):=ha19.cell 2;have r0:(w19).cell? ⟨w.heap.size+1+1,0,none⟩=some (.bool false):=hr19.cell 0;have r1:(w19).cell? ⟨w.heap.size+1+1,1,none⟩=some (.int .i64 0):=hr19.cell 1;have r2:(w19).cell? ⟨w.heap.size+1+1,2,none⟩=some (.slice none 0 0):=hr19.cell 2;have rf0:(w19).frozen? ⟨w.heap.size+1+1,0,none⟩=false:=hr19.free 0;have rf1:(w19).frozen? ⟨w.heap.size+1+1,1,none⟩=false:=hr19.free 1;have rf2:(w19).frozen? ⟨w.heap.size+1+1,2,none⟩=false:=hr19.free 2;have HR19:=zz hr19;clear hr19 ha19;go_wp2_with fail
          have L20:=Loc.put3 (l:= [_,_,_,_]) L19.out rfl (.bool slf) (.int .i64 (sn:Int)) (.slice A6 pc.length c6);refine bodyPost_ret (z0V rfl _ _ (w.heap.size+1+1) rfl (HR19.out.put3 _ _ _) z1Q) rfl ?_;unfold z6Y;rw [HE.out];exact⟨A6,c6,rfl,L20.c0.more fun b hb=>⟨hb.1,hb.2.1,hb.2.2.1⟩,L20.fin⟩
        .apply And.intro
         .repeat(first
           |exact trivial
           |(refine⟨okIs _ _ _ _,?_⟩)
           |(refine⟨⟨VPt.stays _ _,fun p hp _ _=>VPt.pstays _ (by simp only [y9,yH,yp]at hp;rw [hp];simp only;omega)⟩,?_⟩)
           |(refine⟨⟨VPgs.stays _ _,fun p hp _ _=>VPgs.pstays _ (by simp only [y9,yH,yp]at hp;rw [hp];simp only;omega)⟩,?_⟩)
           |(refine⟨⟨HasV.stays (VPgs.stays _ _),fun p hp hj _=>by simp only [y9,yH,yp]at hp;subst hp;exact absurd rfl hj⟩,?_⟩)
           )
         .rfl
 .apply And.intro
  .repeat(first|exact trivial|(refine⟨Stays.is _,?_⟩)|(refine⟨Stays.bs _,?_⟩)|(refine⟨Stays.pg _ _ _,?_⟩))
  .rfl
end
end Go.Proofs.YthnlcbamjehpdaaGreatDoor
