/- Part 36. -/
import Derived.Test.YthnlcbamjehpdaaGreatDoorViewCollectsJ29
namespace Go.Proofs.YthnlcbamjehpdaaGreatDoor
set_option linter.unusedVariables false
set_option maxHeartbeats 16000000
set_option maxRecDepth 100000
section
open Go Go.RowKit Tryz
theorem z6j{pf:Int->Pag}:∀ (m:Nat) (b b':Bool) (n:Nat) (cs cs':List Cel),(z0r pf m (b,n,cs)).isSome=(z0r pf m (b',n,cs')).isSome
 |0,_,_,_,_,_=>rfl
 |m+1,b,b',n,cs,cs'=>by
  rw [z0r,z0r];by_cases h:n=0
  .simp [h]
  .simp [h]
theorem zHb{P:Nat->Prop}:∀ (m:Nat),P m->∃k,P k/\∀j,j<k->¬P j:=by
 intro m
 induction m using Nat.strongRecOn with
 |_ m ih=>
  intro hm;by_cases h:∃j,j<m/\P j
  .obtain⟨j,h1,h2⟩:=h;exact ih j h1 h2
  .exact⟨m,hm,fun j hj hp=>h ⟨j,hj,hp⟩⟩
noncomputable def zJb(pf:Int->Pag)(n:Nat):Nat:=Classical.epsilon fun m=>(z0r pf m (true,n,[])).isSome=true/\∀j,j<m->¬ (z0r pf j (true,n,[])).isSome=true
theorem zAJ{pf:Int->Pag}{n m:Nat}(h:(z0r pf m (true,n,[])).isSome=true):(z0r pf (zJb pf n) (true,n,[])).isSome=true/\∀j,j<zJb pf n->¬ (z0r pf j (true,n,[])).isSome=true:=
 QC (p:=fun m=>(z0r pf m (true,n,[])).isSome=true/\∀j,j<m->¬ (z0r pf j (true,n,[])).isSome=true) (zHb m h)
theorem zFL{pf:Int->Pag}{n m:Nat}{b:Bool}{cs:List Cel}(h:(z0r pf m (b,n,cs)).isSome=true)(hn:n≠0):zJb pf (pf (n:Int)).2.1<zJb pf n:=by
 have h1:(z0r pf m (true,n,[])).isSome=true:=by rw [<-h];exact z6j _ _ _ _ _ _
 obtain⟨hM,_⟩:=zAJ h1;generalize hg:zJb pf n=M at*;cases M with
 |zero=>rw [z0r]at hM;cases hM
 |succ M=>
  rw [z0r]at hM;simp only [hn,yv,Option.isSome_map]at hM;have h2:(z0r pf M (true,(pf (n:Int)).2.1,[])).isSome=true:=by
   rw [<-hM];exact z6j _ _ _ _ _ _
  obtain⟨_,h4⟩:=zAJ h2;rcases Y5 (zJb pf (pf (n:Int)).2.1) (M+1)with h5|h5
  .exact h5
  .exact absurd h2 (h4 M (by omega))
def zEX(w:World)(g:Nat):Nat:=match w.cell? ⟨g,1,none⟩with
 |some v=>(intOf v).toNat
 |none=>0
structure Tak(f:FuncId)(cb:Array Value)(J:List Cel->(Nat->Prop)->World->Prop)(E:List Cel->Cel->World->Prop)(X:List Cel):Prop where
 ent:∀args w,(callFunc f args).run prog w= .ok (.enter f args) w
 call:∀T c R fp w,X=T++c::R->J T fp w->Calls prog f (#[.agg #[.string (st c.1),.string (st c.2)]]++cb) w fun e w'=>∃b fp',e= .returned (.bool b)/\Turn fp w w'/\(∀x,fp' x->fp x∨w.heap.size<=x)/\(∀x,fp' x->x<w'.heap.size)/\(b=true->J (T++ [c]) fp' w')/\(b=false->E T c w')
 stay:∀T fp w w',J T fp w->(∀b,fp b->w'.heap[b]? =w.heap[b]?)->w.heap.size<=w'.heap.size->J T fp w'
theorem z8D{pf:Int->Pag}{m:Nat}{x:Pag}{C:List Cel}(h:z0r pf m x=some C):∃rest,C=x.2.2++rest:=by
 cases m with
 |zero=>rw [z0r]at h;cases h
 |succ m=>
  rw [z0r]at h
  split at h
  .cases h;exact⟨[],by simp⟩
  .rw [YR]at h;obtain⟨r,_,rfl⟩:=h;exact⟨r,rfl⟩
structure FrSt(wB wr:World)(gx:Nat)(pf:Int->Pag)(J:List Cel->(Nat->Prop)->World->Prop)(X:List Cel)(b:Bool)(n:Nat)(cs:List Cel)(u:Value)(i:Nat)(T:List Cel)(fp:Nat->Prop):Prop where
 B:Below wB.heap.size wB wr
 box:Blk wr gx 175 #[.bool b,.int .i64 (n:Int),u]
 C:Cs (fun q=>q<wr.heap.size/\¬fp q) wr u cs
 nf:¬fp gx
 gB:wB.heap.size<=gx
 fpB:∀q,fp q->wB.heap.size<=q/\q<wr.heap.size
 J:J T fp wr
 ch:∃m rest,z0r pf m (b,n,cs)=some (cs++rest)/\X=T++(cs.drop i++rest)
 ok:POk (b,n,cs)
def zH6(wB:World)(J:List Cel->(Nat->Prop)->World->Prop)(E:List Cel->Cel->World->Prop)(X:List Cel)(e:Ending)(w':World):Prop:=
 e= .returned (.tuple #[])/\Below wB.heap.size wB w'/\((∃fp,J X fp w')∨∃T c R,X=T++c::R/\E T c w')
theorem zGJ(g:Nat)(Z:Pz)(P:Pgr)(c:Int->List UInt8)(key:List UInt8)(n0 m0:Nat)(l:List TStp)(s:TStp)(f:FuncId)(cb:Array Value)(J:List Cel->(Nat->Prop)->World->Prop)(E:List Cel->Cel->World->Prop)(C:List Cel)(fp:Nat->Prop)(wB w:World)
 (ht:Tg wB g Z P c) (hb:Below wB.heap.size wB w) (hw:z3E (P.pgD c) key n0 0=some (l++ [s])) (hL:l.length<=999) (hC:z0r (P.pgD c) m0 s.pg=some C)
 (hT:Tak f cb J E (C.drop (z05 s.pg.2.2 key))) (hJ:J [] fp w) (hfp:∀q,fp q->wB.heap.size<=q/\q<w.heap.size):
 Calls prog 86 #[.pointer (some ⟨g,0,none⟩),.string (st key),.func (Fn.func f) #[] cb] w (zH6 wB J E (C.drop (z05 s.pg.2.2 key))):=by
 have HTB:=zz ht;have HWO:=zz (WayOk.of hw);have HW:=zz hw;have HTK:=zz hT;have HJ:=zz hJ;have HFP:=zz hfp;have HCC:=zz hC;have HBB:=zz hb;have HT:=zz (ht.later hb);clear ht hb hw hT hJ hfp hC;go_enter func86,ntmps86
 go_wp2_with fail
 refine(z6S g Z P c key n0 (l++ [s]) w HT.out HW.out (by simp;omega)).mono ?_;rintro e w1 ⟨A,k1,c1,ls,rfl,hs,hm,hb1⟩;obtain⟨l',⟨s',u⟩,rfl⟩:=z5k (l:=ls) (fun e=>by rw [e]at hm;simp at hm);rw [Y6]at hm;obtain⟨hm1,hm2⟩:=Qi hm rfl;obtain rfl:s'=s:=by simpa using hm2
 subst hm1;obtain rfl:k1=l'.length+1:=by have:=hs.len;simpa using this
 obtain⟨hsp,b1,o1,rfl,hb1S,hcel,hc1,hc1m,hcs⟩:=hs.pop;obtain⟨sid,sat,slf,sn,scs⟩:=s';simp only at hcs HCC HTK ⊢;obtain⟨A2,c2,rfl,_⟩:=hcs.at;have e2:=hcel 2 _ rfl;have e3:=hcel 3 _ rfl;have e4:=hcel 4 _ rfl;have hll2:l'.length<=1000:=by simp at hL;omega
 have hn2:IntKind.i64.wrap (l'.length:Int)=(l'.length:Int):=z1C (by omega) (by omega);have HT1:=zz (HT.out.later hb1);have HQ1:=zz hb1;have HCS:=zz hcs;have hpo:=HWO.out.pg ⟨sid,sat,slf,sn,scs⟩ (by simp);have HPO:=zz hpo;have hcl:=z0m hpo.1;simp only at hcl;clear hsp hcs hcel hs hm hm2 hpo HW hL;go_upto_region 2 with(fail)
 have q2:=(y7 w1.heap.size w1).alloc (y5 _) (.cells #[.bool slf,.int .i64 (sn:Int),.slice A2 scs.length c2] 175);have b2:=Blk.new w1 175 #[.bool slf,.int .i64 (sn:Int),.slice A2 scs.length c2];have HQ2:=zz (HQ1.out.trans (q2.mono HQ1.out.size));have HB2:=zz b2;have hq1:w.heap.size<=w1.heap.size:=HQ1.out.size;have HCS2:Hid (Cs (fun b=>w.heap.size<=b/\b<w1.heap.size) (w1.alloc (.cells #[.bool slf,.int .i64 (sn:Int),.slice A2 scs.length c2] 175)) (.slice A2 scs.length c2) scs):=Sl.below HCS.out q2 fun b h=>h.2
 have hz1:=b2.lt;clear q2 b2 e2 e3 e4 HT1 HQ1 HCS hb1S hb1;generalize w1.alloc (.cells #[.bool slf,.int .i64 (sn:Int),.slice A2 scs.length c2] 175)=W2 at*;generalize w1.heap.size=gx at*;have x0:(W2).cell? ⟨gx,0,none⟩=some (.bool slf):=HB2.out.cell 0;have x1:(W2).cell? ⟨gx,1,none⟩=some (.int .i64 (sn:Int)):=HB2.out.cell 1;have x2:(W2).cell? ⟨gx,2,none⟩=some (.slice A2 scs.length c2):=HB2.out.cell 2;go_wp2_with fail
 refine(z46 _ slf (sn:Int) _ scs key W2 (by omega) HCS2.out HPO.out.1.asc.rises).mono ?_;rintro e w3 ⟨rfl,hb3⟩;have hK:=z1o scs key;have hxx:C.drop (z05 scs key)=C.drop (z05 scs key):=rfl;have HQ3:=zz (HQ2.out.trans (hb3.mono HQ2.out.size));have hz3:=hb3.size;have R0:Hid (FrSt wB w3 gx (P.pgD c) J (C.drop (z05 scs key)) slf sn scs (.slice A2 scs.length c2) (z05 scs key) [] fp):=by
  obtain⟨rest,hrest⟩:=z8D HCC.out;refine⟨HBB.out.trans (HQ3.out.mono HBB.out.size),HB2.out.later hb3,(Sl.below HCS2.out hb3 fun b h=>by omega).more fun b h=>⟨by omega,fun hf=>by have:=HFP.out b hf;omega⟩,fun hf=>by have:=HFP.out _ hf;omega,yD HBB.out.size hq1,fun q hq=>⟨(HFP.out q hq).1,by have:=(HFP.out q hq).2;have:=HQ3.out.size;omega⟩,HTK.out.stay _ _ _ _ HJ.out (fun b hf=>HQ3.out.block b (HFP.out b hf).2) HQ3.out.size,⟨m0,rest,by rw [HCC.out];exact congrArg some hrest,?_⟩,HPO.out.1⟩;rw [hrest,ZU hK];rfl
 generalize z05 scs key=K at*;have eg:=HTK.out.ent;clear hb3 x0 x1 x2 HB2 HCS2 hxx HJ HFP hcl HPO;go_wp2_with fail
 go_loopw [8] (fun iv wr=>∃ (i:Nat) (b:Bool) (n:Nat) (cs:List Cel) (A:Option Addr) (c':Nat) (T:List Cel) (fp:Nat->Prop),iv= .int .i64 (i:Int)/\i<=cs.length/\Hid (FrSt wB wr gx (P.pgD c) J (C.drop K) b n cs (.slice A cs.length c') i T fp)) (fun iv wr=>zJb (P.pgD c) (zEX wr gx))
 case atStart=>exact⟨K,slf,sn,scs,A2,c2,[],fp,rfl,hK,R0⟩
 case round=>
  clear R0 hK;obtain⟨i,b,n,cs,A,c',T,fp,rfl,hi,R⟩:=hrel;have hn0:Hid (zEX wr gx=n):=by
   unfold zEX Hid;rw [R.out.box.cell 1];simp [intOf]
  go_wp2_with fail
  go_loopw [8] (fun iv wr=>∃ (i:Nat) (T:List Cel) (fp:Nat->Prop),iv= .int .i64 (i:Int)/\i<=cs.length/\Hid (FrSt wB wr gx (P.pgD c) J (C.drop K) b n cs (.slice A cs.length c') i T fp)) (fun iv _=>cs.length-(intOf iv).toNat)
  case atStart=>exact⟨i,T,fp,rfl,hi,R⟩
  case round=>
   clear R hi;obtain⟨i,T,fp,rfl,hi,R⟩:=hrel;have hx2:wr.cell? ⟨gx,2,none⟩=some (.slice A cs.length c'):=R.out.box.cell 2;have hx1:wr.cell? ⟨gx,1,none⟩=some (.int .i64 (n:Int)):=R.out.box.cell 1;have hcl:=z0m R.out.ok;simp only at hcl;by_cases hlt:i<cs.length
   .obtain⟨ba,oa,rfl⟩:=Cs.some R.out.C (by omega);have hcg:=Cs.get R.out.C hlt;obtain⟨m,rest,hch,hX⟩:=R.out.ch;have hX2:C.drop K=T++cs[i]::(cs.drop (i+1)++rest):=by rw [hX,yL hlt];rfl
    have hcall:=HTK.out.call T cs[i] _ fp wr hX2 R.out.J;have hch2:z0r (P.pgD c) m (b,n,cs)=some (cs++rest):=hch;generalize hci:cs[i]=ci at*;obtain⟨ck,cv⟩:=ci;obtain⟨q0,q1⟩:=hcg;simp only at q0 q1;have HCALL:=zz hcall;have HX2:=zz hX2;have HCH:=zz hch2;have hi0:(0:Int)<=(i:Int):=by omega
    have hi1:(i:Int)<(cs.length:Int):=by omega
    have hwi:IntKind.i64.wrap ((i:Int)+1)=(i:Int)+1:=z1C (by omega) (by omega);clear hcall hX hX2 hch hch2 hci;go_wp2_with fail
    refine HCALL.out.mono ?_;rintro e w5 ⟨bb,fp',rfl,hT5,hf1,hf2,hJ5,hE5⟩;have hB5:Below wB.heap.size wB w5:=Turn.below R.out.B hT5 R.out.B.size (fun q hq=>(R.out.fpB q hq).1);cases bb with
    |false=>
     have HE:=zz (hE5 rfl);have HB5:=zz hB5;clear hT5 hf1 hf2 hJ5 hE5 hB5;go_wp2_with fail
     go_end0
     exact⟨rfl,HB5.out,.inr ⟨T,_,_,HX2.out,HE.out⟩⟩
    |true=>
     have R5:Hid (FrSt wB w5 gx (P.pgD c) J (C.drop K) b n cs (.slice (some ⟨ba,oa,none⟩) cs.length c') (i+1) (T++ [(ck,cv)]) fp'):=by
      have hlx:=R.out.box.lt;refine⟨hB5,(hT5.block gx hlx R.out.nf).trans R.out.box,(Sl.keep R.out.C fun q o hq=>yR (hT5.block q hq.1 hq.2)).more fun q hq=>⟨yE hq.1 hT5.size,fun hf=> ?_⟩,fun hf=> ?_,R.out.gB,fun q hq=>⟨?_,hf2 q hq⟩,hJ5 rfl,⟨m,rest,HCH.out,?_⟩,R.out.ok⟩
      .rcases hf1 q hf with h|h
       .exact hq.2 h
       .have:=hq.1;omega
      .rcases hf1 gx hf with h|h
       .exact R.out.nf h
       .omega
      .rcases hf1 q hq with h|h
       .exact(R.out.fpB q h).1
       .exact yD R.out.B.size h
      .rw [HX2.out,yM];rfl
     clear hT5 hf1 hf2 hJ5 hE5 hB5 R;go_wp2_with fail
     go_roundw
     case rel=>exact⟨i+1,T++ [(ck,cv)],fp',by go_num,by omega,R5⟩
     case measure=>simp [intOf];omega
   .obtain rfl:i=cs.length:=by omega
    obtain⟨m,rest,hch,hX⟩:=R.out.ch;rw [Zr,yz]at hX;by_cases hn:n=0
    .have hX0:C.drop K=T:=by
      rw [hX];cases m with
      |zero=>rw [z0r]at hch;cases hch
      |succ m=>
       rw [z0r]at hch;simp only [hn,YN,YH]at hch;have:rest= []:=by
        have:=congrArg List.length hch;simp at this;exact this
       rw [this,yf]
     have HX0:=zz hX0;subst hn;clear hX hch hX0;go_wp2_with fail
     go_end0
     exact⟨rfl,R.out.B,.inl ⟨fp,by rw [HX0.out];exact R.out.J⟩⟩
    .have hn1:((n:Int)==0)=false:=yV.2 (by omega);obtain⟨m',hm'⟩:∃m',m=m'+1:=by
      cases m with
      |zero=>rw [z0r]at hch;cases hch
      |succ m=>exact⟨m,rfl⟩
     subst hm';have hls:=zFL (pf:=P.pgD c) (by rw [hch];rfl:(z0r (P.pgD c) (m'+1) (b,n,cs)).isSome=true) hn;rw [z0r]at hch;simp only [hn,yv,YR]at hch;obtain⟨r2,hr2,hr3⟩:=hch;obtain rfl:r2=rest:=List.append_cancel_left hr3;have HLS:=zz hls;have HR2:=zz hr2;have HXX:=zz hX;have HTR:=zz (HTB.out.later R.out.B);clear hX hls hr2 hr3 hn;go_wp2_with fail
     refine(z2n g Z P c (n:Int) wr HTR.out (by unfold InI;omega)).mono ?_;rintro e w5 ⟨v,rfl,⟨A5,c5,rfl,hcs5⟩,hb5⟩;have hok5:=z7H P c (n:Int);obtain⟨b5,n5,cs5,hpd⟩:∃b5 n5 cs5,P.pgD c (n:Int)=(b5,n5,cs5):=⟨_,_,_,rfl⟩;have hls:=HLS.out;have hr2:=HR2.out;rw [hpd]at hcs5 hok5 hls hr2 ⊢;simp only at hcs5 hls ⊢;obtain⟨r5,hr5⟩:=z8D hr2;have hbx5:=R.out.box.later hb5;have y0:(w5).cell? ⟨gx,0,none⟩=some (.bool b):=hbx5.cell 0;have y1:(w5).cell? ⟨gx,1,none⟩=some (.int .i64 (n:Int)):=hbx5.cell 1;have y2:(w5).cell? ⟨gx,2,none⟩=some (.slice A cs.length c'):=hbx5.cell 2;have yf0:(w5).frozen? ⟨gx,0,none⟩=false:=hbx5.free 0;have yf1:(w5).frozen? ⟨gx,1,none⟩=false:=hbx5.free 1;have yf2:(w5).frozen? ⟨gx,2,none⟩=false:=hbx5.free 2;have hlx:=R.out.box.lt;have hz5:=hb5.size;have hsz3:(((w5.setCell ⟨gx,0,none⟩ (.bool b5)).setCell ⟨gx,1,none⟩ (.int .i64 (n5:Int))).setCell ⟨gx,2,none⟩ (.slice A5 cs5.length c5)).heap.size=w5.heap.size:=by simp
     have R6:Hid (FrSt wB (((w5.setCell ⟨gx,0,none⟩ (.bool b5)).setCell ⟨gx,1,none⟩ (.int .i64 (n5:Int))).setCell ⟨gx,2,none⟩ (.slice A5 cs5.length c5)) gx (P.pgD c) J (C.drop K) b5 n5 cs5 (.slice A5 cs5.length c5) 0 T fp):=by
      refine⟨z0Y (R.out.B.trans (hb5.mono R.out.B.size)) R.out.gB _ _ _,hbx5.put3 _ _ _,?_,R.out.nf,R.out.gB,fun q hq=>⟨(R.out.fpB q hq).1,by rw [hsz3];have:=(R.out.fpB q hq).2;omega⟩,HTK.out.stay _ _ _ _ R.out.J (fun q hq=> ?_) (by rw [hsz3];exact hz5),⟨m',r5,by rw [hr2,hr5],by rw [HXX.out,hr5];rfl⟩,hok5⟩
      .refine(Sl.setCell (Sl.setCell (Sl.setCell hcs5 (p:=⟨gx,0,none⟩) (by simp only;omega) _) (p:=⟨gx,1,none⟩) (by simp only;omega) _) (p:=⟨gx,2,none⟩) (by simp only;omega) _).more fun q hq=>⟨by rw [hsz3];exact hq.2,fun hf=>by have:=(R.out.fpB q hf).2;omega⟩
      .have hne:q≠gx:=fun e=>R.out.nf (e▸hq)
       exact(Yd _ ⟨gx,2,none⟩ _ q hne).trans ((Yd _ ⟨gx,1,none⟩ _ q hne).trans ((Yd _ ⟨gx,0,none⟩ _ q hne).trans (hb5.block q (R.out.fpB q hq).2)))
     have HLS5:=zz hls;clear hcs5 hok5 hpd hls hr2 hr5 HLS HR2 hbx5 hb5 hsz3 R;go_wp2_with fail
     go_roundw
     case rel=>exact⟨0,b5,n5,cs5,A5,c5,T,fp,rfl,yU _,R6⟩
     case measure=>
      have e1:zEX (((w5.setCell ⟨gx,0,none⟩ (.bool b5)).setCell ⟨gx,1,none⟩ (.int .i64 (n5:Int))).setCell ⟨gx,2,none⟩ (.slice A5 cs5.length c5)) gx=n5:=by
       unfold zEX;rw [R6.out.box.cell 1];simp [intOf]
      have e2:=hn0.out;have e3:=HLS5.out;rw [e1,e2];exact e3
end
end Go.Proofs.YthnlcbamjehpdaaGreatDoor
