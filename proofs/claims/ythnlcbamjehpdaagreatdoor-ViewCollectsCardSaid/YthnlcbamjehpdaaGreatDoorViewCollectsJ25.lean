/- Part 25. -/
import Derived.Test.YthnlcbamjehpdaaGreatDoorViewCollectsJ11
import Derived.Test.YthnlcbamjehpdaaGreatDoorViewCollectsJ24
import Derived.Deep.CutBlock
namespace Go.Proofs.YthnlcbamjehpdaaGreatDoor
set_option linter.unusedVariables false
set_option maxHeartbeats 16000000
set_option maxRecDepth 100000
section
open Go Tryz
theorem Kin.level(P:Pgr)(c:Int->List UInt8)(s:TStp)(id:Int)(x:Pag):Kin P (z0e P c s id x).1:=by
 unfold z0e
 split
 .exact(Kin.wp _ _ _).trans (Kin.free _ _)
 .split
  .exact Kin.wp _ _ _
  .exact(Kin.wp _ _ _).trans (Kin.wp _ _ _)
theorem Kin.finP(P:Pgr)(c:Int->List UInt8)(id:Int)(x:Pag):Kin P (finP P c id x):=by
 unfold Go.Proofs.YthnlcbamjehpdaaGreatDoor.finP
 split
 .exact(Kin.free _ _).trans (Kin.wp _ _ _)
 .exact Kin.wp _ _ _
theorem Kin.down(c:Int->List UInt8):∀ (ws:List TStp) (P:Pgr) (id:Int) (x:Pag),Kin P (z2t c P ws id x)
 | [],P,id,x=>by rw [z2t];exact Kin.finP _ _ _ _
 |s::r,P,id,x=>by
  rw [z2t]
  split
  .split
   .exact(Kin.level P c s id x).trans (Kin.up _ _ _ _)
   .exact(Kin.level P c s id x).trans (Kin.down c r _ _ _)
  .exact Kin.finP _ _ _ _
def zIc(Q:Prm)(D:Nat):Prop:=Q.a=1/\Q.m=2/\Q.K<=139/\D<=3
def z5c(D:Nat):Nat:=if D<=2 then 1 else 0
structure DnR(Q:Prm)(P':Pgr)(c:Int->List UInt8)(D:Nat)(cs:List Cel)(D':Nat)(t':Ct D'):Prop where
 tree:Tree Q P' c D' t'
 cells:Ct.cells D' t'=cs
 d0:D<=D'+1
 d1:D'<=D+1
 weak:zIc Q D->D'<=3/\1+(Ct.subs D' t').length+z5c D'<=90
section
variable {Q:Prm} {c:Int->List UInt8}
theorem zKE(hQ:Q.Ok){P:Pgr}{j D:Nat}{cx:Cx (j+2) D}{h:Nat}{t:Ct (j+2)}{st:Pag}(hw:zIc Q D)(u:UpI Q P c cx h t st)(hn:cx.need Q<=Ct.n (j+2) t)(h26:szP (Ct.page (j+2) t)<=2600)(hs:2048<szP (Ct.page (j+2) t))(hf:z2s cx h t+z5c D+1<=90):
 ∃D' t',DnR Q (upP P (cx.steps h) (h:Int) (Ct.page (j+2) t)) c D (cx.cl++Ct.cells (j+2) t++cx.cr) D' t':=by
 obtain⟨w1,w2,w3,w4⟩:=hw;have no3:∀ {j D:Nat} {cx:Cx (j+3) D} {h:Nat} {t:Ct (j+3)} {st:Pag} {P:Pgr},UpI Q P c cx h t st->2048<szP (Ct.page (j+3) t)->szP (Ct.page (j+3) t)<=2600->False:=by
  intro j D cx h t st P u hs h26;obtain⟨lo,hi,_,v2⟩:=u.wf;obtain⟨s,H⟩:=z6H hQ v2 u.big u.one u.fl hs h26;obtain⟨k1,k2,k3⟩:=H.n7 (by omega) w3;have h1:=z6Q hQ (j:=j+2) t u.fl (by omega);have e:(Ct.subs (j+3) t).length=(z0B t).length:=rfl;have e2:Ct.n (j+3) t=List.length t:=rfl;have h2:=u.rep.le90;rw [y6,y8]at h2;omega
 rcases j with _|j
 .cases cx with
  |top=>
   have hd:z5c (0+2)=1:=rfl;obtain⟨a,b,s,r1,lo,hi,H⟩:=u.rootS hQ hs h26 (by omega);have e0:h=0:=u.root;have e:upP P (Cx.steps (Cx.top (D:=0+2)) h) (h:Int) (Ct.page (0+2) t)=z9T P (Ct.page (0+2) t):=by rw [Cx.steps,upP,yA (by omega),yB (by omega)]
   rw [e];refine⟨_,_,r1,by rw [z8h];simp [Cx.cl,Cx.cr],by omega,by omega,fun _=>⟨by omega,?_⟩⟩;rw [zAg];have h1:z5c (0+2+1)=0:=rfl;unfold z2s at hf;have hf:0+1+(Ct.subs 2 t).length+1+1<=90:=hf;have h3:(Ct.subs (0+2) t).length=(Ct.subs 2 t).length:=rfl;have h4:z5c (0+2+1)=0:=rfl;omega
  |step id l k r up=>
   have e0:¬ (h:Int)=0:=by have:=u.root.1;omega
   have e:upP P (Cx.steps (Cx.step id l k r up) h) (h:Int) (Ct.page (0+2) t)=upP (z1t P (h:Int) (Ct.page (0+2) t) ⟨(id:Int),l.length,z08 l k h r⟩).1 (up.steps id) (id:Int) (z1t P (h:Int) (Ct.page (0+2) t) ⟨(id:Int),l.length,z08 l k h r⟩).2:=by
    rw [Cx.steps,upP,yA (by omega),yA e0]
   rw [e];obtain⟨o,s,e2,u2,⟨lo,hi,H⟩,z2,c2,n2⟩:=u.split hQ hs h26 (by omega);rw [e2];have hz:szP (Ct.page (0+2+1) (z4z l k h t r o (z0c (Ct.page (0+2) t).2.2) s))<=2048:=by
    rcases Y5 2048 (szP (Ct.page (0+2+1) (z4z l k h t r o (z0c (Ct.page (0+2) t).2.2) s)))with h1|h1
    .exact absurd (no3 u2 h1 z2) (fun h=>h)
    .exact h1
   have hD:=up.depth;have e3:upP (z1t P (h:Int) (Ct.page (0+2) t) ⟨(id:Int),l.length,z08 l k h r⟩).1 (up.steps id) (id:Int) (Ct.page (0+2+1) (z4z l k h t r o (z0c (Ct.page (0+2) t).2.2) s))=
    (z1t P (h:Int) (Ct.page (0+2) t) ⟨(id:Int),l.length,z08 l k h r⟩).1.wp (id:Int) (Ct.page (0+2+1) (z4z l k h t r o (z0c (Ct.page (0+2) t).2.2) s)):=by
    cases hst:up.steps id with
    |nil=>rw [upP,yB hz]
    |cons s r=>rw [upP,yB hz]
   rw [e3];refine⟨_,_,u2.fin n2 hz,?_,by omega,by omega,fun _=>⟨w4,?_⟩⟩
   .rw [z29,zCy (id:=id)]
   .rw [z57 _ _ _ u2.root,c2];have:z5c D=0:=by unfold z5c;rw [yA (by omega)]
    omega
 .exact absurd (no3 (j:=j) u hs h26) fun h=>h
def Reg(Q:Prm){j D:Nat}(cx:Cx j D)(h:Nat)(t:Ct j):Prop:=
 z2s cx h t+D+3<=90∨(zIc Q D/\z2s cx h t+z5c D<=90/\(0<j->Ct.n j t<cx.need Q->z2s cx h t+z5c D+1<=90))
theorem zAP(hQ:Q.Ok){P:Pgr}{j D:Nat}{cx:Cx j D}{h:Nat}{t:Ct j}{st:Pag}(u:UpI Q P c cx h t st)(hs:512<=szP (Ct.page j t)):z7p Q j<=Ct.n j t:=by
 have hn:=Ct.n_page j t;have hz:=u.big.sz;cases j with
 |zero=>
  have h1:=z2E (M:=484) (cs:=(Ct.page 0 t).2.2) fun c hc=>z2Y (u.big.small c hc)
  have h2:=hQ.a2;simp only [z7p];omega
 |succ j=>
  have hK:=hQ.K;have h1:=z2E (M:=Q.K+4) (cs:=(Ct.page (j+1) t).2.2) fun c hc=>by
   obtain⟨k,hk,rfl⟩:=yP.1 (show c∈z0E (j:=j) t from hc);exact z54 (u.big.key.2 _ hc) hK (u.i90 (k.2.1,Ct.page j k.2.2) (YO _ (zIp (ks:=t) hk)))
  have h2:=hQ.low;simp only [z7p];rcases Y5 (Ct.n (j+1) t) Q.m with h3|h3
  .exfalso;have h4:(Ct.n (j+1) t+1)*(Q.K+4)<=Q.m*(Q.K+4):=YP _ h3;rw [Nat.succ_mul]at h4;rw [hn,QS]at h1;omega
  .exact h3
theorem zBD(hQ:Q.Ok):∀ {j D:Nat} (cx:Cx j D) (h:Nat) (t:Ct j) (st:Pag) (P:Pgr),DnI Q P c cx h t st->szP (Ct.page j t)<=2048->cx.need Q<=Ct.n j t+1->Reg Q cx h t->D<=90->
 ∃D' t',DnR Q (z2t c P (cx.steps h) (h:Int) (Ct.page j t)) c D (cx.cl++Ct.cells j t++cx.cr) D' t'
 |j,_,.top,h,t,st,P,u,hs,hn,hreg,hD=>by
  have e:z2t c P (Cx.steps (Cx.top (D:=j)) h) (h:Int) (Ct.page j t)=finP P c (h:Int) (Ct.page j t):=by rw [Cx.steps,z2t]
  rw [e];obtain rfl:h=0:=u.root;have hcn:z2s (Cx.top (D:=j)) 0 t=1+(Ct.subs j t).length:=by unfold z2s;show 0+1+_=_;omega
  have hcells:Cx.cl (Cx.top (D:=j))++Ct.cells j t++Cx.cr (Cx.top (D:=j))=Ct.cells j t:=by simp [Cx.cl,Cx.cr]
  rw [hcells];by_cases hc:(Ct.page j t).1=false/\(Ct.page j t).2.2.length=1
  .
   obtain⟨j',rfl⟩:∃j',j=j'+1:=by
    cases j with
    |zero=>cases hc.1
    |succ j=>exact⟨j,rfl⟩
   have h1:List.length (α:=Kid j') t=1:=by rw [<-hc.2,Ct.n_page];rfl
   obtain⟨⟨k,i,t'⟩,ht⟩:∃x:Kid j',t=([x]:List (Kid j')):=QE.1 h1;subst ht;have hsub:Ct.subs (j'+1) ([(k,(i,t'))]:List (Kid j'))=(i,Ct.page j' t')::Ct.subs j' t':=by
    show z0B [(k,(i,t'))]=_;rw [z04];simp [z0B]
   have rep:=u.rep;rw [hsub]at rep;have rep:RepP P c ((0,st)::(i,Ct.page j' t')::Ct.subs j' t'):=rep;have hnd:=rep.rep.nodup;have hi9:=rep.rep.lt (i,Ct.page j' t') (by simp);have hi0:0<i:=by
    rw [yy,YA]at hnd;rcases Y3 i with h1|h1
    .exact absurd (by simp [h1]) hnd.1
    .exact h1
   have hch:z0F (cellAt (Ct.page (j'+1) ([(k,(i,t'))]:List (Kid j'))).2.2 0).2=(i:Int):=z2e hi0 hi9;have hpg:P.pgD c (i:Int)=Ct.page j' t':=rep.pgD (by simp);have hok:=u.ok (i,Ct.page j' t') (by rw [hsub];simp);have e2:finP P c ((0:Nat):Int) (Ct.page (j'+1) ([(k,(i,t'))]:List (Kid j')))=(P.free (i:Int)).wp ((0:Nat):Int) (Ct.page j' t'):=by
    unfold finP;rw [yB ⟨rfl,hc⟩,hch,hpg]
   rw [e2];have q1:=(rep.perm (List.Perm.swap _ _ _)).free;have q2:=q1.wp hok.1;obtain⟨lo,hi,⟨rfl,rfl⟩,w2⟩:=u.wf;obtain⟨w3,w4,_,_⟩:=w2;obtain rfl:k= []:=by injection w3
   have hfl:FlT Q j' t':=(z0l (j:=j')).1 u.fl |>.1;have hf2:=(z1S Q j' t').1 hfl;have hm2:=hQ.m2;have T:Tree Q ((P.free (i:Int)).wp ((0:Nat):Int) (Ct.page j' t')) c j' t':=by
    refine⟨q2,w4,fun q hq=> ?_,?_,hf2.2,?_⟩
    .rcases y9.1 hq with rfl|hq
     .exact hok
     .exact u.ok q (by rw [hsub];simp [hq])
    .have hch:=u.ch;simp only [Cx.ll,Cx.lr,yz,yf]at hch;have e3:Ct.lvs (j'+1) 0 ([([],(i,t'))]:List (Kid j'))=Ct.lvs j' i t':=by
      show z4x [([],(i,t'))]=_;rw [z1U];simp [z4x]
     rw [e3]at hch;exact zFR j' t' i 0 0 hch
    .cases j' with
     |zero=>exact yU _
     |succ j'=>exact yD hm2 hf2.1
   refine⟨_,_,T,?_,by omega,by omega,fun hw=>⟨by have:=hw.2.2.2;omega,?_⟩⟩
   .show _=z0d [([],(i,t'))];rw [z0g];simp [z0d]
   .unfold Reg at hreg;rw [hcn,hsub,y8]at hreg;have h2:z5c j'<=1:=by unfold z5c;split<;>omega
    rcases hreg with h3|⟨_,h3,_⟩<;>omega
  .have e2:finP P c ((0:Nat):Int) (Ct.page j t)=P.wp ((0:Nat):Int) (Ct.page j t):=by
    unfold finP;rw [yA (fun h=>hc h.2)]
   rw [e2];have hneed:Cx.need Q (Cx.top (D:=j))<=Ct.n j t:=by
    rw [Ct.n_page]at hc;show z9S j<=_;have hn:z9S j<=Ct.n j t+1:=hn;cases j with
    |zero=>exact yU _
    |succ j=>
     simp only [z9S]at hn ⊢;have:¬Ct.n (j+1) t=1:=fun h=>hc ⟨rfl,h⟩
     omega
   refine⟨_,_,u.toUpI.fin hneed hs,?_,by omega,by omega,fun hw=>⟨hw.2.2.2,?_⟩⟩
   .rw [z29];simp [Cx.cl,Cx.cr]
   .rw [z57 _ _ _ u.root];have h2:z5c j<=1:=by unfold z5c;split<;>omega
    rcases hreg with h3|⟨_,h3,_⟩<;>omega
 |j,D,.step id l k r up,h,t,st,P,u,hs,hn,hreg,hD=>by
  have e0:¬ (h:Int)=0:=by have:=u.root.1;omega
  by_cases h5:szP (Ct.page j t)<512
  .have hreg':(Q.a=1/\Q.m=2)∨z2s (Cx.step id l k r up) h t+D+3<=90:=by
    rcases hreg with h1|⟨h1,_⟩
    .exact .inr h1
    .exact .inl ⟨h1.1,h1.2.1⟩
   obtain⟨t',R⟩:=zCY hQ u h5 hn hreg' hD;have e:z2t c P (Cx.steps (Cx.step id l k r up) h) (h:Int) (Ct.page j t)=if 2048<szP (z0e P c ⟨(id:Int),l.length,z08 l k h r⟩ (h:Int) (Ct.page j t)).2
    then upP (z0e P c ⟨(id:Int),l.length,z08 l k h r⟩ (h:Int) (Ct.page j t)).1 (up.steps id) (id:Int) (z0e P c ⟨(id:Int),l.length,z08 l k h r⟩ (h:Int) (Ct.page j t)).2
    else z2t c (z0e P c ⟨(id:Int),l.length,z08 l k h r⟩ (h:Int) (Ct.page j t)).1 (up.steps id) (id:Int) (z0e P c ⟨(id:Int),l.length,z08 l k h r⟩ (h:Int) (Ct.page j t)).2:=by
    rw [Cx.steps,z2t,yB h5]
   rw [e];generalize z0e P c ⟨(id:Int),l.length,z08 l k h r⟩ (h:Int) (Ct.page j t)=X at R ⊢;obtain⟨P1,x1⟩:=X;have hpg:x1=Ct.page (j+1) t':=R.page;subst hpg;have hcells:=R.cells;have hcok:up.need Q<=l.length+1+r.length:=u.cok;rcases R.cases_ with⟨k1,k2,k3⟩|⟨k1,k2,k3⟩|⟨k1,k2,k3,k4⟩
   .simp only at k1 ⊢;rw [yA (by omega)];have hreg2:Reg Q up id t':=by
     rcases hreg with h1|⟨h1,h2,h3⟩
     .exact .inl (by omega)
     .exact .inr ⟨h1,by omega,fun _ _=>by omega⟩
    obtain⟨D',t'',R2⟩:=zBD hQ up id t' _ P1 R.dn k1 (by omega) hreg2 hD;rw [hcells]at R2;exact⟨D',t'',R2⟩
   .simp only at k1 ⊢;rw [yA (by omega)];have hreg2:Reg Q up id t':=by
     rcases hreg with h1|⟨h1,h2,h3⟩
     .exact .inl (by omega)
     .exact .inr ⟨h1,by omega,fun _ h4=>by omega⟩
    obtain⟨D',t'',R2⟩:=zBD hQ up id t' _ P1 R.dn k1 (by omega) hreg2 hD;rw [hcells]at R2;exact⟨D',t'',R2⟩
   .simp only at k1 ⊢;rw [yB k1];by_cases hfew:z2s (Cx.step id l k r up) h t+D+3<=90
    .have hdp:=up.depth;obtain⟨D',t'',R2,_⟩:=zKD hQ up id t' _ P1 R.dn.toUpI (by omega) R.dn.small (by omega);rw [hcells]at R2;refine⟨D',t'',R2.tree,R2.cells,by have:=R2.d0;omega,R2.d1,fun hw=>⟨?_,?_⟩⟩
     .have h1:=R2.d3 hw.2.2.1;have h2:=hw.2.2.2;have h3:=R2.d1;omega
     .have h1:=R2.cnt;have h2:z5c D'<=1:=by unfold z5c;split<;>omega
      omega
    .rcases k4 with k4|⟨k4,k5⟩
     .exact absurd k4 hfew
     .rcases hreg with h1|⟨h1,h2,h3⟩
      .exact absurd h1 hfew
      .obtain⟨j',rfl⟩:∃j',j=j'+1:=⟨j-1,by omega⟩;have hm:z7p Q (j'+1)=2:=h1.2.1;have h4:=h3 (by omega) (show Ct.n (j'+1) t<z7p Q (j'+1) by omega);obtain⟨D',t'',R2⟩:=zKE hQ (j:=j') h1 R.dn.toUpI (show up.need Q<=Ct.n (j'+1+1) t' by omega) R.dn.small k1 (show z2s up id t'+z5c D+1<=90 by omega);rw [hcells]at R2;exact⟨D',t'',R2⟩
  .have e:z2t c P (Cx.steps (Cx.step id l k r up) h) (h:Int) (Ct.page j t)=P.wp (h:Int) (Ct.page j t):=by
    rw [Cx.steps,z2t,yA h5];unfold finP;rw [yA (fun h=>e0 h.1)]
   rw [e];refine⟨_,_,u.toUpI.fin (zAP hQ u.toUpI (by omega)) hs,?_,by omega,by omega,fun hw=>⟨hw.2.2.2,?_⟩⟩
   .rw [z29]
   .rw [z57 _ _ _ u.root];have h2:z5c D<=1:=by unfold z5c;split<;>omega
    rcases hreg with h3|⟨_,h3,_⟩<;>omega
theorem zCt:∀ (j:Nat) (t:Ct j),FlIn ⟨1,1,0⟩ j t->(0<j->0<Ct.n j t)->j<=(Ct.subs j t).length
 |0,_,_,_=>yU _
 |j+1,t,hf,hn=>by
  obtain⟨⟨k,i,t'⟩,r,rfl⟩:∃k r,t=(k::r:List (Kid j)):=by
   cases t with
   |nil=>exact absurd (hn (by omega)) (by simp [Ct.n])
   |cons k r=>exact⟨k,r,rfl⟩
  have h1:=(z1S _ j t').1 (z0l (j:=j).1 hf).1;have:=zCt j t' h1.2 fun h=>by have:=h1.1;cases j with
   |zero=>omega
   |succ j=>exact this
  have e:Ct.subs (j+1) ((k,(i,t'))::r:List (Kid j))=(i,Ct.page j t')::Ct.subs j t'++z0B r:=z04 r (k,(i,t'));rw [e,y6,y8];omega
theorem Tree.deep(hQ:Q.Ok){P:Pgr}{D:Nat}{t:Ct D}(T:Tree Q P c D t):D<=89:=by
 have h1:=zCt D t (T.fl.weak hQ) fun h0=>by
  have:=T.root;obtain⟨D',rfl⟩:∃D',D=D'+1:=⟨D-1,by omega⟩;simp only [z9S]at this;omega
 have h2:=T.rep.le90;unfold z8q at h2;rw [y8]at h2;omega
theorem zIh(hQ:Q.Ok){P:Pgr}{D:Nat}{t:Ct D}(T:Tree Q P c D t){k:Key}(hk:isK (Ct.cells D t) k=true)(hreg:1+(Ct.subs D t).length+D+3<=90∨(zIc Q D/\1+(Ct.subs D t).length+z5c D<=90)):
 ∃w,z3E (P.pgD c) k (D+1) 0=some w/\w.length=D+1/\(deleteT P c w k).2=0/\Kin P (deleteT P c w k).1/\
  ∃D' t',DnR Q (deleteT P c w k).1 c D (delC (Ct.cells D t) k) D' t':=by
 obtain⟨w,n,cs,h,cx,h1,h2,h3,a⟩:=T.way k;obtain⟨c1,c2,c3⟩:=a.cells;have hkc:isK cs k=true:=by rw [<-z5G c2 c3,<-c1];exact hk
 have e:deleteT P c w k=(z2t c P (cx.steps h) (h:Int) (z40 (true,n,cs) k),0):=by
  unfold deleteT;rw [h3];simp only;rw [yB hkc]
 have hw:t=cx.plug h (show Ct 0 from(n,cs)):=eq_of_heq (ZL a.whole).2;have hp:=z32 cx h (show Ct 0 from(n,cs)) a.root;rw [<-hw]at hp;have hmem:(h,((true,n,cs):Pag))∈z8q D t:=hp.mem_iff.2 (YO _ (by exact YJ));have hleaf:=T.ok _ hmem;have hd:=hleaf.1.del k;have hb:=hd.1.big (hleaf.2.del k);have u:=a.upi T (cs':=delC cs k) hb fun lo hi h4 h5 y hy=>h5 y (z5I hy)
 have hlen:=z94 cs k;unfold z4g at hlen;rw [hkc,yB rfl]at hlen;have hneed:cx.need Q<=Ct.n 0 (show Ct 0 from(n,delC cs k))+1:=by
  have h4:=a.need;have h5:Ct.n 0 (show Ct 0 from(n,cs))=cs.length:=rfl;have h6:Ct.n 0 (show Ct 0 from(n,delC cs k))=(delC cs k).length:=rfl;omega
 have hcnt:z2s cx h (show Ct 0 from(n,delC cs k))=1+(Ct.subs D t).length:=by
  rw [<-u.pages,T.rep.len];unfold z8q;rw [y8];omega
 have hl:z50 (P.pgD c) (0+1) h:=by
  refine⟨[⟨(h:Int),0,(true,n,cs)⟩],?_,rfl⟩;have:=T.rep.pgD hmem;rw [z3E,this,yB (.inl rfl)]
 have hD:=T.deep hQ;obtain⟨D',t',R⟩:=zBD hQ cx h _ _ P ⟨u,hl,by have:=hd.1.parts.2.2;exact yD this (by omega)⟩ hd.1.parts.2.2 hneed (by
  rcases hreg with h4|⟨h4,h5⟩
  .exact .inl (by omega)
  .exact .inr ⟨h4,by omega,fun h0=>by omega⟩) (by omega)
 refine⟨w,h1,h2,by rw [e],by rw [e];exact Kin.down _ _ _ _ _,D',t',?_⟩;rw [e,c1,zDO c2 c3];exact R
end
theorem zG8{j:Nat}{f g:Ct j->Nat}(m:Nat):∀ {l:List (Kid j)},(∀k∈l,m*f k.2.2<=g k.2.2)->m*z1f f l<=z1f g l
 | [],_=>by simp [z1f]
 |k::l,h=>by
  have h1:=h k (by simp);have h2:=zG8 m (l:=l) fun x hx=>h x (by simp [hx])
  show m*(f k.2.2+z1f f l)<=g k.2.2+z1f g l;rw [Qp];omega
theorem zIm{Q:Prm}(hQ:Q.Ok):∀ (j:Nat) (t:Ct j),FlIn Q j t->22*wS z4V j t<=1+(Ct.subs j t).length
 |0,t,_=>by
  have:wS z4V 0 t=0:=rfl;omega
 |j+1,ks,hf=>by
  have hall:FlL Q (j:=j) ks:=hf;have hs:z1f (wS (fun _ _=>1) j) ks=(z0B (j:=j) ks).length:=by
   have:=z5t (j+1) ks;have e1:wS (fun _ _=>1) (j+1) ks=1+z1f (wS (fun _ _=>1) j) ks:=rfl;have e2:(Ct.subs (j+1) ks).length=(z0B (j:=j) ks).length:=rfl;omega
  have e:wS z4V (j+1) ks=z4V (j+1) (List.length (α:=Kid j) ks)+z1f (wS z4V j) ks:=rfl;have e2:(Ct.subs (j+1) ks).length=(z0B (j:=j) ks).length:=rfl;rw [e,e2];by_cases hj:j+1=2/\7<=List.length (α:=Kid j) ks
  .obtain⟨h1,h2⟩:=hj;obtain rfl:j=1:=by omega
   have h3:z1f (wS z4V 1) ks=0:=by
    have:∀l:List (Kid 1),z1f (wS z4V 1) l=0:=fun l=>by
     induction l with
     |nil=>rfl
     |cons k l il=>
      have h5:wS z4V 1 k.2.2=0:=by
       have h6:∀l:List (Kid 0),z1f (wS z4V 0) l=0:=fun l=>by
        induction l with
        |nil=>rfl
        |cons k l il=>
         show 0+z1f (wS z4V 0) l=0;omega
       show z4V 1 (List.length (α:=Kid 0) k.2.2)+z1f (wS z4V 0) k.2.2=0;rw [h6];rfl
      show wS z4V 1 k.2.2+z1f (wS z4V 1) l=0;omega
    exact this ks
   have h4:3*List.length (α:=Kid 1) ks<=(z0B (j:=1) ks).length:=by
    have:∀l:List (Kid 1),FlL Q l->3*l.length<=(z0B l).length:=fun l=>by
     induction l with
     |nil=>intro _;simp
     |cons k l il=>
      intro h;rw [z04,y6,y8,y8,Qk];have h5:=il (z0l.1 h).2;have h6:=(z9f hQ 1 k.2.2 (z0l.1 h).1).1 (by omega);omega
    exact this ks hall
   have h5:z4V (1+1) (List.length (α:=Kid 1) ks)<=1:=by unfold z4V;split<;>omega
   omega
  .have h1:z4V (j+1) (List.length (α:=Kid j) ks)=0:=by unfold z4V;rw [yA hj]
   have h2:=zG8 22 (f:=wS z4V j) (g:=wS (fun _ _=>1) j) (l:=ks) fun k hk=>by
    rw [z5t];exact zIm hQ j k.2.2 (((z1S Q j k.2.2).1 (hall k hk)).2)
   omega
noncomputable def putW(P:Pgr)(c:Int->List UInt8)(x:Cel):Pgr×Nat:=putT P ((z3E (P.pgD c) x.1 100 0).getD []) x
theorem zFq{P:Pgr}{c:Int->List UInt8}{x:Cel}{n:Nat}{w:List TStp}(h:z3E (P.pgD c) x.1 n 0=some w)(hn:n<=100):putW P c x=putT P w x:=by
 unfold putW;rw [z2r h hn];rfl
noncomputable def zKN(P:Pgr)(c:Int->List UInt8)(k:Key):Pgr×Nat:=deleteT P c ((z3E (P.pgD c) k 100 0).getD []) k
theorem zEt{P:Pgr}{c:Int->List UInt8}{k:Key}{n:Nat}{w:List TStp}(h:z3E (P.pgD c) k n 0=some w)(hn:n<=100):zKN P c k=deleteT P c w k:=by
 unfold zKN;rw [z2r h hn];rfl
noncomputable def putsW(c:Int->List UInt8):Pgr->List Cel->Pgr
 |P,[]=>P
 |P,x::xs=>putsW c (putW P c x).1 xs
section
variable {Q:Prm} {c:Int->List UInt8}
structure Bat(Q:Prm)(P:Pgr)(c:Int->List UInt8)(D0 l0 h0 f0 k:Nat)(L:List Cel)(D:Nat)(t:Ct D):Prop where
 tree:Tree Q P c D t
 cells:Ct.cells D t=L
 d3:D<=3
 d0:D0<=D
 d1:D<=D0+1
 rn:D=D0+1->Ct.n D t<=2+k
 low:wS z9m D t<=l0+2*k
 quo:wS wHi D t+f0+D0<=h0+wS z4V D t+D
theorem Bat.room{P:Pgr}{D0 l0 h0 f0 k:Nat}{L:List Cel}{D:Nat}{t:Ct D}(hQ:Q.Ok)(b:Bat Q P c D0 l0 h0 f0 k L D t){n:Nat}(hk:k<n)(hr:l0+h0+8+2*n<=90):1+(Ct.subs D t).length+D+3<=90:=by
 have h1:=zFb D t;have h2:=zIm hQ D t b.tree.fl;have h3:=b.low;have h4:=b.quo;have h5:=b.d3;have h6:=b.d1;have h7:=b.d0;omega
theorem Bat.put{P:Pgr}{D0 l0 h0 f0 k:Nat}{L:List Cel}{D:Nat}{t:Ct D}(hQ:Q.Ok)(hK:Q.K<=139)(b:Bat Q P c D0 l0 h0 f0 k L D t){n:Nat}(hk:k<n)(hn:n<=11)(hr:l0+h0+8+2*n<=90){x:Cel}(hxk:x.1.length<=Q.K)(hx:x.1.length+x.2.length<=480):
 (putW P c x).2=0/\Kin P (putW P c x).1/\(∃w,z3E (P.pgD c) x.1 (D+1) 0=some w/\w.length=D+1)/\∃D' t',Bat Q (putW P c x).1 c D0 l0 h0 f0 (k+1) (putC L x) D' t'/\1+(Ct.subs D' t').length<=1+(Ct.subs D t).length+D+2:=by
 have hroom:=b.room hQ hk hr;obtain⟨w,w1,w2,w3,w4,D',t',R⟩:=zGM hQ b.tree hxk hx hroom;have hd:=b.tree.deep hQ;have e:=zFq w1 (by have:=b.d3;omega);rw [e];refine⟨w3,w4,⟨w,w1,w2⟩,D',t',?_,R.cnt⟩;have h1:=b.d0;have h2:=b.d1;have h3:=b.d3;have h4:=R.d0;have h5:=R.d1;have h6:=R.d3 hK;have hgrow:D'=D+1->D=D0:=fun h=>by
  rcases Y5 D0 D with h7|h7
  .exfalso;have h8:=b.rn (by omega);have h9:=(R.rt1 h).2 hK (by omega);omega
  .omega
 refine⟨R.tree,by rw [R.cells,b.cells],?_,by omega,?_,fun h=> ?_,?_,?_⟩
 .rcases Y5 D 3 with h7|h7
  .omega
  .have:=h6 h7;omega
 .rcases Y5 D D' with h7|h7
  .have:=hgrow (by omega);omega
  .omega
 .rcases Y5 D D' with h7|h7
  .have:=(R.rt1 (by omega)).1;omega
  .have h8:=R.rt0 (by omega);have h9:=b.rn (by omega);omega
 .have h7:=R.low;have h8:=b.low;omega
 .have h7:=R.quo hK;have h8:=b.quo;omega
theorem z9w{P:Pgr}{D:Nat}{t:Ct D}(T:Tree Q P c D t)(hd:D<=3):Bat Q P c D (wS z9m D t) (wS wHi D t) (wS z4V D t) 0 (Ct.cells D t) D t:=
 ⟨T,rfl,hd,y5 _,by omega,fun h=>by omega,by omega,by omega⟩
end
def z3r(h _:Nat):Nat:=if h=0 then 1 else 0
def zBx(h _:Nat):Nat:=if h=0 then 0 else 1
theorem zEF(D:Nat)(t:Ct D):wS z3r D t+wS zBx D t=1+(Ct.subs D t).length:=by
 rw [<-z5t];refine zD3 _ _ _ (fun h n=> ?_) D t;unfold z3r zBx
 split<;>rfl
theorem zGA{Q:Prm}{j:Nat}(ih:∀t:Ct j,FlT Q j t->(Q.m-1)*wS zBx j t+1<=wS z3r j t/\Q.a*wS z3r j t<=(Ct.cells j t).length):
 ∀l:List (Kid j),FlL Q l->(Q.m-1)*z1f (wS zBx j) l+l.length<=z1f (wS z3r j) l/\Q.a*z1f (wS z3r j) l<=(z0d l).length
 | [],_=>by simp [z1f,z0d]
 |k::l,h=>by
  obtain⟨h1,h2⟩:=z0l.1 h;obtain⟨a1,a2⟩:=ih k.2.2 h1;obtain⟨b1,b2⟩:=zGA ih l h2;rw [z0g,y6,y8];show(Q.m-1)*(wS zBx j k.2.2+z1f (wS zBx j) l)+(l.length+1)<=wS z3r j k.2.2+z1f (wS z3r j) l/\Q.a*(wS z3r j k.2.2+z1f (wS z3r j) l)<=_;rw [Qp,Qp];omega
theorem zFK{Q:Prm}(hm:1<=Q.m):∀ (j:Nat) (t:Ct j),FlT Q j t->(Q.m-1)*wS zBx j t+1<=wS z3r j t/\Q.a*wS z3r j t<=(Ct.cells j t).length
 |0,t,h=>by
  have e1:wS zBx 0 t=0:=rfl;have e2:wS z3r 0 t=1:=rfl;have e3:Ct.cells 0 t=t.2:=rfl;rw [e1,e2,e3];have:Q.a<=t.2.length:=h;simp;exact this
 |j+1,ks,h=>by
  obtain⟨h1,h2⟩:=(z1S Q (j+1) ks).1 h;obtain⟨a1,a2⟩:=zGA (fun t=>zFK hm j t) ks h2;have hn:Q.m<=List.length (α:=Kid j) ks:=h1;have e1:wS zBx (j+1) ks=1+z1f (wS zBx j) ks:=rfl;have e2:wS z3r (j+1) ks=0+z1f (wS z3r j) ks:=rfl;have e3:Ct.cells (j+1) ks=z0d ks:=rfl;rw [e1,e2,e3,Qp,Nat.mul_one];rw [Y4];omega
theorem Tree.bound{Q:Prm}{P:Pgr}{c:Int->List UInt8}{D:Nat}{t:Ct (D+1)}(hm:1<=Q.m)(T:Tree Q P c (D+1) t):
 ∃leaves inner,leaves+inner=1+(Ct.subs (D+1) t).length/\1<=inner/\(Q.m-1)*(inner-1)+2<=leaves/\Q.a*leaves<=(Ct.cells (D+1) t).length:=by
 obtain⟨a1,a2⟩:=zGA (fun t=>zFK hm D t) t T.fl;have hr:2<=List.length (α:=Kid D) t:=T.root;have e1:wS zBx (D+1) t=1+z1f (wS zBx D) t:=rfl;have e2:wS z3r (D+1) t=0+z1f (wS z3r D) t:=rfl;refine⟨wS z3r (D+1) t,wS zBx (D+1) t,zEF (D+1) t,by omega,?_,?_⟩
 .rw [e1,e2,show 1+z1f (wS zBx D) t-1=z1f (wS zBx D) t by omega];omega
 .rw [e2,Y4];exact a2
theorem z8F(v:List UInt8):z0F v= -1∨(1<=z0F v/\z0F v<90):=by
 unfold z0F
 split
 .split
  .exact .inl rfl
  .right;omega
 .exact .inl rfl
end
section
open Go Go.RowKit Tryz
structure Pr(P:Pgr)(c:Int->List UInt8):Prop where
 ok:P.D.Ok
 stored:z5v P.D P.a P.tb c
 wlen:∀x b,P.wr x=some b->b.length<=2048
 a0:0<=P.a
 a1:P.a<=65536
theorem Kin.pr{P P':Pgr}{c:Int->List UInt8}(k:Kin P P')(h:Pr P c):Pr P' c:=
 ⟨by rw [k.D];exact h.ok,by rw [k.D,k.a,k.tb];exact h.stored,k.wlen h.wlen,by rw [k.a];exact h.a0,by rw [k.a];exact h.a1⟩
structure Tg(w:World)(g:Nat)(Z:Pz)(P:Pgr)(c:Int->List UInt8):Prop where
 pg:Pg w Z P
 blk:Blk w g 202 #[.pointer (some ⟨Z.g,0,none⟩)]
 pr:Pr P c
 bits:BitsOk w
 z0:¬Z.has 0
section
variable {w w':World} {g:Nat} {Z:Pz} {P P':Pgr} {c:Int->List UInt8}
theorem Tg.later(t:Tg w g Z P c)(hb:Below w.heap.size w w'):Tg w' g Z P c:=⟨t.pg.later hb,t.blk.later hb,t.pr,t.bits.later hb,t.z0⟩
theorem Pz.not_kind{b:Nat}{ty:TypeId}(p:Pg w Z P)(hk:z0G w b=some (some ty))(h1:ty≠199)(h2:ty≠246)(h3:ty≠145)(h4:ty≠288):¬Z.has b:=by
 intro hb;have:=p.kinds hb;rw [hk]at this;simp only [YH,reduceCtorEq,false_or]at this;rcases this with h|h|h|h
 .exact h1 h
 .exact h2 h
 .exact h3 h
 .exact h4 h
theorem Tg.nz(t:Tg w g Z P c):¬Z.has g:=Pz.not_kind t.pg (z0I t.blk) (by decide) (by decide) (by decide) (by decide)
theorem zES(h:BitsOk w)(z0:¬Z.has 0)(s:Ptp Z w Z w'):BitsOk w':=fun i hi=>by
 have hb:=s.turn.block 0 h.pos z0;rw [<-h i hi];unfold World.cell?;rw [hb]
theorem Tg.done(t:Tg w g Z P c)(d:z6Z Z P' w w')(k:Kin P P'):Tg w' g Z P' c:=
 ⟨d.1,(d.2.turn.block g t.blk.lt t.nz).trans t.blk,k.pr t.pr,zES t.bits t.z0 d.2,t.z0⟩
def z1O(g:Nat)(Z:Pz)(P':Pgr)(c:Int->List UInt8)(w w':World):Prop:=Tg w' g Z P' c/\Ptp Z w Z w'
theorem Cs.ptp{S:Nat->Prop}{v:Value}{cs:List Cel}(h:Cs S w v cs)(s:Ptp Z w Z w')(hS:∀b,S b->b<w.heap.size/\¬Z.has b):Cs S w' v cs:=
 Sl.keep h fun b o hb=>yR (s.turn.block b (hS b hb).1 (hS b hb).2)
end
theorem zFU{x:Pag}(h:POk x):Mid x.2.2:=⟨by have:=zAj (x:=x);have:=h.parts.2.2;omega,fun c hc=>by have:=z11 none _ h.parts.2.1 c hc;omega⟩
theorem zCS:∀ (l:List UInt8) (i v er:Nat),z7o i v l= .error er->er=10∨er=12
 | [],i,v,er,h=>by rw [z7o]at h;injection h with h;exact .inl h.symm
 |b::r,i,v,er,h=>by
  rw [z7o]at h
  split at h
  .injection h with h;exact .inr h.symm
  .split at h
   .cases h
   .exact zCS r _ _ er h
theorem zBK{l:List UInt8}{er:Nat}(h:z0o l= .error er):er=10∨er=12:=zCS l 0 0 er h
theorem zHl{l:List UInt8}{x:Pag}(h:z3O l=some x):POk x:=by
 unfold z3O at h
 split at h
 .cases h
 .unfold zKO at h
  split at h
  split at h
  split at h
  split at h
  split at h
  .rename_i hc;cases h
   exact hc.2
  .cases h
theorem pg_ok{P:Pgr}{c:Int->List UInt8}{i:Int}{x:Pag}(h:P.pg c i=some x):POk x:=by
 unfold Pgr.pg at h;rw [Option.bind_eq_some_iff]at h;obtain⟨b,_,h⟩:=h;exact zHl h
theorem POk.no:POk noPg:=by
 refine POk.mk' (by decide) rfl ?_;have:=z5K (next:=0) (cs:= []) (by omega) (by simp);show z2v ((0:Nat):Int) []<=2048;simp [z07]at this;simp;omega
theorem z7H(P:Pgr)(c:Int->List UInt8)(i:Int):POk (P.pgD c i):=by
 unfold Pgr.pgD;cases h:P.pg c i with
 |none=>exact POk.no
 |some x=>exact pg_ok h
theorem z3S(k v:List UInt8)(w:World)(hv:v.length<=1000000):
 Calls prog 126 #[.agg #[.string (st k),.string (st v)]] w fun e w'=>e= .returned (.int .i64 (z0F v))/\Below w.heap.size w w':=by
 have hml:v.length<=maxLen:=by simp only [maxLen];omega
 have q0:=(y7 w.heap.size w).alloc (y5 _) (.cells #[.string (st k),.string (st v)] 94);have b0:Blk (w.alloc (.cells #[.string (st k),.string (st v)] 94)) w.heap.size 94 #[.string (st k),.string (st v)]:=Blk.new _ _ _;have c1:(w.alloc (.cells #[.string (st k),.string (st v)] 94)).cell? ⟨w.heap.size,1,none⟩=some (.string (st v)):=b0.cell 1;have hsz:=b0.lt;have HQ:=zz q0;clear b0 q0;go_enter func126,ntmps126
 generalize hW:w.alloc (.cells #[.string (st k),.string (st v)] 94)=W at*;go_wp2_with (refine z1v _ rfl (.tmp 8) rfl tS tB tU hml rfl ?_;intro A1 c1 w1 hbs1 hbl1 hsz1)
 have HB1:=zz (HQ.out.trans (hbl1.mono HQ.out.size));refine(z4L _ _ v w1 (by omega) hbs1).mono ?_;rintro e w2 ⟨hok,herr⟩;cases hg:z0o v with
 |error er=>
  obtain⟨rfl,hb2⟩:=herr er hg;have hc:Hid (z0F v= -1):=by unfold z0F;rw [Hid,hg]
  have her:¬ ((er:Int)=0):=by
   have:=zBK hg;omega
  clear hok herr hg;go_wp2_with fail
  go_ret
  exact⟨by rw [hc.out];rfl,HB1.out.trans (hb2.mono HB1.out.size)⟩
 |ok x=>
  obtain⟨x,n⟩:=x;obtain⟨A,k',c',rfl,hown,hb2⟩:=hok x n hg;have hx:=(z2R hg).1;have HX:Hid (x<U64):=hx;have hc:Hid (z0F v=if x=0∨90<=x then-1 else(x:Int)):=by unfold z0F;rw [Hid,hg]
  have HB2:=zz (HB1.out.trans (hb2.mono HB1.out.size));clear hok herr hg hown hx;by_cases h0:x=0
  .subst h0;rw [yB (.inl rfl)]at hc;go_wp2_with fail
   go_ret
   exact⟨by rw [hc.out];rfl,HB2.out⟩
  .by_cases h9:90<=x
   .rw [yB (.inr h9)]at hc;have g0:¬ (x:Int)=0:=by omega
    have g9:(90:Int)<=(x:Int):=by omega
    go_wp2_with fail
    go_ret
    exact⟨by rw [hc.out];rfl,HB2.out⟩
   .rw [yA (by omega)]at hc;have g0:((x:Int)==0)=false:=yV.2 (by omega);have g9:decide ((90:Int)<=(x:Int))=false:=yZ (by omega);have gw:IntKind.i64.wrap (x:Int)=(x:Int):=z1C (by omega) (by omega);go_wp2_with fail
    go_ret
    exact⟨by rw [hc.out];rfl,HB2.out⟩
theorem cellTy:z1W prog 94 2:=⟨⟨_,underlying94⟩,by kernel_rfl⟩
theorem zDH{B:Nat}{w0 w:World}{g:Nat}(h:Below B w0 w)(hg:B<=g)(x y:Value):Below B w0 ((w.setCell ⟨g,0,none⟩ x).setCell ⟨g,1,none⟩ y):=
 (h.setCell (p:=⟨g,0,none⟩) hg x).setCell (p:=⟨g,1,none⟩) hg y
theorem z2m(k:List UInt8)(i:Nat)(w:World)(hi:i<1000000):
 Calls prog 183 #[.string (st k),.int .i64 (i:Int)] w fun e w'=>e= .returned (.agg #[.string (st k),.string (st (z0C i))])/\Below w.heap.size w w':=by
 have b0:Blk (w.alloc (.cells #[.string ⟨#[]⟩,.string ⟨#[]⟩] 94)) w.heap.size 94 #[.string ⟨#[]⟩,.string ⟨#[]⟩]:=Blk.new _ _ _;have HQ:=zz ((y7 w.heap.size w).alloc (y5 _) (.cells #[.string ⟨#[]⟩,.string ⟨#[]⟩] 94));have HB:=zz b0;have gw:IntKind.u64.wrap (i:Int)=(i:Int):=z1a (by omega) (by unfold U64;omega);have hl:(z0C i).length<=10:=z09 (by unfold U64;omega);clear b0;go_enter func183,ntmps183
 go_wp2_with fail
 generalize hW:w.alloc (.cells #[.string ⟨#[]⟩,.string ⟨#[]⟩] 94)=W at*;clear hW;refine(z8a (fun _=>True) _ [] i W (by unfold U64;omega) (by rw [yz];omega) (Bs.nilv _ _)).mono ?_;rintro e w2 ⟨A,k2,c2,rfl,hob,hb2⟩;rw [yz]at hob;have hbs:=hob.bs;have K2:=zz (HB.out.later hb2);have k20:w2.cell? ⟨w.heap.size,0,none⟩=some (.string ⟨#[]⟩):=K2.out.cell 0;have k21:w2.cell? ⟨w.heap.size,1,none⟩=some (.string ⟨#[]⟩):=K2.out.cell 1;have j20:=K2.out.free 0;have j21:=K2.out.free 1;have HQ2:=zz (HQ.out.trans (hb2.mono HQ.out.size));clear hob hb2;generalize hV:z0C i=V at*;have HV:=zz hV;clear hV;go_wp2_with (refine z1H _ rfl (.tmp 8) rfl tB tU tS hbs rfl ?_)
 exact bodyPost_ret (z0V rfl _ _ w.heap.size rfl (K2.out.put2 _ _) cellTy) rfl ⟨by rw [HV.out],zDH HQ2.out (y5 _) _ _⟩
theorem PgIs.no(B:Nat)(w:World):PgIs B w (.agg #[.bool false,.int .i64 0,.slice none 0 0]) false 0 []:=⟨none,0,rfl,Sl.nil⟩
theorem z2n(g:Nat)(Z:Pz)(P:Pgr)(c:Int->List UInt8)(i:Int)(w:World)(ht:Tg w g Z P c)(hi:InI i):
 Calls prog 125 #[.pointer (some ⟨g,0,none⟩),.int .i64 i] w fun e w'=>∃v,e= .returned (.tuple #[v,.bool (P.pg c i).isSome])/\PgIs w.heap.size w' v (P.pgD c i).1 ((P.pgD c i).2.1:Int) (P.pgD c i).2.2/\Below w.heap.size w w':=by
 have HT:=zz ht;have HI:=zz hi;have hb0:Blk (w.alloc (.cells #[.bool false,.int .i64 0,.slice none 0 0] 175)) w.heap.size 175 #[.bool false,.int .i64 0,.slice none 0 0]:=Blk.new _ _ _;have HB0:=zz hb0;have HQ0:=zz ((y7 w.heap.size w).alloc (y5 _) (.cells #[.bool false,.int .i64 0,.slice none 0 0] 175));have e0:(w.alloc (.cells #[.bool false,.int .i64 0,.slice none 0 0] 175)).cell? ⟨g,0,none⟩=some (.pointer (some ⟨Z.g,0,none⟩)):=(ht.blk.later HQ0.out).cell 0;have HT0:=zz (ht.later HQ0.out);clear ht hi hb0;go_enter func125,ntmps125
 go_wp2_with fail
 generalize hW:w.alloc (.cells #[.bool false,.int .i64 0,.slice none 0 0] 175)=W at*;clear hW;refine(zFn Z P c i W HT0.out.pg HT0.out.pr.ok HT0.out.pr.stored HT0.out.pr.wlen HT0.out.pr.a0 HT0.out.pr.a1 HI.out).mono ?_;rintro e w1 ⟨A,n,c1,rfl,hob,hb1⟩;have HB1:=zz (HB0.out.later hb1);have HQ1:=zz (HQ0.out.trans (hb1.mono HQ0.out.size));have hz1:=HB1.out.lt;have k0:w1.cell? ⟨w.heap.size,0,none⟩=some (.bool false):=HB1.out.cell 0;have k1:w1.cell? ⟨w.heap.size,1,none⟩=some (.int .i64 0):=HB1.out.cell 1;have k2:w1.cell? ⟨w.heap.size,2,none⟩=some (.slice none 0 0):=HB1.out.cell 2;have j0:=HB1.out.free 0;have j1:=HB1.out.free 1;have j2:=HB1.out.free 2;have HOB:=zz hob;have hln:n=((P.page c i).getD []).length:=hob.len;subst hln;clear hob hb1 e0;cases hh:P.has i with
 |false=>
  have hpg:P.pg c i=none:=by unfold Pgr.pg Pgr.page;rw [hh];rfl
  have HPD:Hid (P.pgD c i=noPg):=by unfold Pgr.pgD;rw [Hid,hpg];rfl
  have HPG:=zz hpg;clear hpg hh;go_wp2_with fail
  exact bodyPost_ret (z0L rfl _ _ w.heap.size rfl (HB1.out.put3 _ _ _) z1Q) rfl ⟨_,by rw [HPG.out];rfl,by rw [HPD.out];exact PgIs.no _ _,z0Y HQ1.out (y5 _) _ _ _⟩
 |true=>
  have hpage:P.page c i=some ((P.wr i).getD (c i)):=by unfold Pgr.page;rw [hh];rfl
  have hpg:P.pg c i=z3O ((P.page c i).getD []):=by unfold Pgr.pg;rw [hpage];rfl
  have HPG:=zz hpg;have hlen:((P.page c i).getD []).length<=2048:=by
   rw [hpage];simp only [Yl];cases hw:P.wr i with
   |some b=>exact HT0.out.pr.wlen i b hw
   |none=>
    have:(P.tb i).isSome=true:=by
     unfold Pgr.has at hh;rw [hw]at hh;simp only [ZB,QJ,Y9]at hh;exact hh.1
    obtain⟨⟨p,l⟩,hpl⟩:=ZN.1 this;obtain⟨_,h2,h3,_⟩:=HT0.out.pr.stored i p l hpl;simp only [Option.getD_none];omega
  generalize (P.page c i).getD []=L at*;clear hpage hpg hh;go_wp2_with fail
  refine(zHn _ _ L w1 (by omega) HOB.out.bs).mono ?_;rintro e w2 ⟨hsome,hnone,hb2⟩;have HB2:=zz (HB1.out.later hb2);have HQ2:=zz (HQ1.out.trans (hb2.mono HQ1.out.size));have hz2:=hb2.size;have hlt2:w.heap.size<w2.heap.size:=by omega
  have hn1:¬w.heap.size=w2.heap.size:=by omega
  have hn2:¬w2.heap.size=w.heap.size:=by omega
  have k0:w2.cell? ⟨w.heap.size,0,none⟩=some (.bool false):=HB2.out.cell 0;have k1:w2.cell? ⟨w.heap.size,1,none⟩=some (.int .i64 0):=HB2.out.cell 1;have k2:w2.cell? ⟨w.heap.size,2,none⟩=some (.slice none 0 0):=HB2.out.cell 2;have j0:=HB2.out.free 0;have j1:=HB2.out.free 1;have j2:=HB2.out.free 2;cases ho:z3O L with
  |none=>
   obtain rfl:=hnone ho;have HPG2:Hid (P.pg c i=none):=HPG.out.trans ho;have HPD:Hid (P.pgD c i=noPg):=by unfold Pgr.pgD;rw [Hid,HPG2.out];rfl
   clear hsome hnone hb2 ho;go_wp2_with fail
   exact bodyPost_ret (z0L rfl _ _ w.heap.size rfl ((HB2.out.put3 _ _ _).alloc _) z1Q) rfl ⟨_,by rw [HPG2.out];rfl,by rw [HPD.out];exact PgIs.no _ _,(z0Y HQ2.out (y5 _) _ _ _).alloc (by simp;omega) _⟩
  |some x=>
   obtain⟨b,m,cs⟩:=x;obtain⟨v,rfl,A2,c2,rfl,hcs⟩:=hsome b m cs ho;have HPG2:Hid (P.pg c i=some (b,m,cs)):=HPG.out.trans ho;have HPD:Hid (P.pgD c i=(b,m,cs)):=by unfold Pgr.pgD;rw [Hid,HPG2.out];rfl
   have HCS:=zz hcs;clear hsome hnone hb2 ho hcs;go_wp2_with fail
   refine bodyPost_ret (z0L rfl _ _ w.heap.size rfl ((HB2.out.put3 _ _ _).alloc _) z1Q) rfl ⟨_,by rw [HPG2.out];rfl,?_,(z0Y HQ2.out (y5 _) _ _ _).alloc (by simp;omega) _⟩;rw [HPD.out];refine⟨A2,c2,rfl,?_⟩;have h3:=Cs.put3 (L:=w1.heap.size) (B:=w.heap.size) HCS.out (fun b h=>h) hz1 (Nat.le_of_lt hz1) (.bool b) (.int .i64 (m:Int)) (.slice A2 cs.length c2);exact(Sl.alloc h3 (fun b h=>h.2) _).more fun b h=>⟨h.1,by simp at h ⊢;omega⟩
theorem zFe(x:Pag):(pgB x).length<=2048:=by
 by_cases h:POk x
 .exact h.bytes.1
 .unfold pgB;unfold POk at h;rw [yA h];simp
theorem z0M(g:Nat)(Z:Pz)(P:Pgr)(c:Int->List UInt8)(i:Int)(S:Nat->Prop)(leaf:Bool)(n:Nat)(v0:Value)(cs:List Cel)(w:World)(ht:Tg w g Z P c)(hi:InI i)(hm:Mid cs)(hn:n<=1000000)(hr:Cs S w v0 cs):
 Calls prog 105 #[.pointer (some ⟨g,0,none⟩),.int .i64 i,.agg #[.bool leaf,.int .i64 (n:Int),v0]] w fun e w'=>e= .returned (.tuple #[])/\z1O g Z (P.wp i (leaf,n,cs)) c w w':=by
 have HT:=zz ht;have HI:=zz hi;have HR:=zz hr.lt;obtain⟨A,c1,rfl,_⟩:=hr.at;have HQ0:=zz ((y7 w.heap.size w).alloc (y5 _) (.cells #[.bool leaf,.int .i64 (n:Int),.slice A cs.length c1] 175));have hb0:Blk (w.alloc (.cells #[.bool leaf,.int .i64 (n:Int),.slice A cs.length c1] 175)) w.heap.size 175 #[.bool leaf,.int .i64 (n:Int),.slice A cs.length c1]:=Blk.new _ _ _;have HT0:=zz (ht.later HQ0.out);have HR0:=zz (HR.out.up HQ0.out);clear ht hi hr;have d0:(w.alloc (.cells #[.bool leaf,.int .i64 (n:Int),.slice A cs.length c1] 175)).cell? ⟨w.heap.size,0,none⟩=some (.bool leaf):=hb0.cell 0;have d1:(w.alloc (.cells #[.bool leaf,.int .i64 (n:Int),.slice A cs.length c1] 175)).cell? ⟨w.heap.size,1,none⟩=some (.int .i64 (n:Int)):=hb0.cell 1;have d2:(w.alloc (.cells #[.bool leaf,.int .i64 (n:Int),.slice A cs.length c1] 175)).cell? ⟨w.heap.size,2,none⟩=some (.slice A cs.length c1):=hb0.cell 2;clear hb0;go_enter func105,ntmps105
 generalize hW:w.alloc (.cells #[.bool leaf,.int .i64 (n:Int),.slice A cs.length c1] 175)=W at*;go_wp2_with fail
 refine(z7I _ leaf (n:Int) _ cs W HT0.out.bits (by omega) hm HR0.out).mono ?_;rintro e w1 ⟨hok,hno,hb1⟩;have HT1:=zz (HT0.out.later hb1);have HQ1:=zz (HQ0.out.trans (hb1.mono HQ0.out.size));have e0:w1.cell? ⟨g,0,none⟩=some (.pointer (some ⟨Z.g,0,none⟩)):=HT1.out.blk.cell 0;have HPB:Hid (pgB (leaf,n,cs)=if z1I (n:Int) cs=0 then z7Y (pgF leaf (n:Int) cs)else []):=rfl;have HL:=zFe (leaf,n,cs);have HWP:Hid (P.wp i (leaf,n,cs)=P.write i (pgB (leaf,n,cs))):=rfl;generalize pgB (leaf,n,cs)=b at*;have fin:∀ (w2:World),z6Z Z (P.write i b) w1 w2->z1O g Z (P.wp i (leaf,n,cs)) c w w2:=fun w2 hd=>by
  rw [HWP.out];exact⟨HT1.out.done hd (Kin.write P i b),(Ptp.below HQ1.out).trans hd.2⟩
 have FIN:=zz fin;clear fin;by_cases hc:z1I (n:Int) cs=0
 .obtain⟨A2,k2,c2,rfl,hob⟩:=hok hc;rw [yB hc]at HPB;have HB:=HPB.out;subst HB;have HOB:=zz hob;clear hok hno hb1 hob hc;go_wp2_with fail
  refine(z5g Z P i _ _ _ w1 HT1.out.pg HI.out HOB.out.bs (by omega)).mono ?_;rintro e w2 ⟨rfl,hd⟩;go_wp2_with fail
  go_end0
  exact⟨rfl,FIN.out w2 hd⟩
 .obtain rfl:=hno hc;rw [yA hc]at HPB;have HB:=HPB.out;subst HB;clear hok hno hb1 hc;go_wp2_with fail
  refine(z5g Z P i (fun _=>True) _ [] w1 HT1.out.pg HI.out (Bs.nilv _ _) (by simp)).mono ?_;rintro e w2 ⟨rfl,hd⟩;go_wp2_with fail
  go_end0
  exact⟨rfl,FIN.out w2 hd⟩
theorem z3R(g:Nat)(Z:Pz)(P:Pgr)(c:Int->List UInt8)(S:Nat->Prop)(leaf:Bool)(n:Nat)(v0:Value)(cs:List Cel)(w:World)(ht:Tg w g Z P c)(hm:Mid cs)(hn:n<=1000000)(hr:Cs S w v0 cs):
 Calls prog 182 #[.pointer (some ⟨g,0,none⟩),.agg #[.bool leaf,.int .i64 (n:Int),v0]] w fun e w'=>e= .returned (.int .i64 ((P.al (leaf,n,cs)).2:Int))/\z1O g Z (P.al (leaf,n,cs)).1 c w w':=by
 have HT:=zz ht;have HR:=zz hr.lt;obtain⟨A,c1,rfl,_⟩:=hr.at;have HQ0:=zz ((y7 w.heap.size w).alloc (y5 _) (.cells #[.bool leaf,.int .i64 (n:Int),.slice A cs.length c1] 175));have hb0:Blk (w.alloc (.cells #[.bool leaf,.int .i64 (n:Int),.slice A cs.length c1] 175)) w.heap.size 175 #[.bool leaf,.int .i64 (n:Int),.slice A cs.length c1]:=Blk.new _ _ _;have HT0:=zz (ht.later HQ0.out);have HR0:=zz (HR.out.up HQ0.out);clear ht hr;have d0:(w.alloc (.cells #[.bool leaf,.int .i64 (n:Int),.slice A cs.length c1] 175)).cell? ⟨w.heap.size,0,none⟩=some (.bool leaf):=hb0.cell 0;have d1:(w.alloc (.cells #[.bool leaf,.int .i64 (n:Int),.slice A cs.length c1] 175)).cell? ⟨w.heap.size,1,none⟩=some (.int .i64 (n:Int)):=hb0.cell 1;have d2:(w.alloc (.cells #[.bool leaf,.int .i64 (n:Int),.slice A cs.length c1] 175)).cell? ⟨w.heap.size,2,none⟩=some (.slice A cs.length c1):=hb0.cell 2;clear hb0;go_enter func182,ntmps182
 generalize hW:w.alloc (.cells #[.bool leaf,.int .i64 (n:Int),.slice A cs.length c1] 175)=W at*;go_wp2_with fail
 refine(z7I _ leaf (n:Int) _ cs W HT0.out.bits (by omega) hm HR0.out).mono ?_;rintro e w1 ⟨hok,hno,hb1⟩;have HT1:=zz (HT0.out.later hb1);have HQ1:=zz (HQ0.out.trans (hb1.mono HQ0.out.size));have e0:w1.cell? ⟨g,0,none⟩=some (.pointer (some ⟨Z.g,0,none⟩)):=HT1.out.blk.cell 0;have HPB:Hid (pgB (leaf,n,cs)=if z1I (n:Int) cs=0 then z7Y (pgF leaf (n:Int) cs)else []):=rfl;have HL:=zFe (leaf,n,cs);have HWP:Hid (P.al (leaf,n,cs)=((P.alloc (pgB (leaf,n,cs))).1,(P.alloc (pgB (leaf,n,cs))).2.1)):=rfl;generalize pgB (leaf,n,cs)=b at*;have fin:∀ (w2:World),z6Z Z (P.alloc b).1 w1 w2->z1O g Z (P.al (leaf,n,cs)).1 c w w2:=fun w2 hd=>by
  rw [HWP.out];exact⟨HT1.out.done hd (Kin.alloc P b),(Ptp.below HQ1.out).trans hd.2⟩
 have FIN:=zz fin;clear fin;by_cases hc:z1I (n:Int) cs=0
 .obtain⟨A2,k2,c2,rfl,hob⟩:=hok hc;rw [yB hc]at HPB;have HB:=HPB.out;subst HB;have HOB:=zz hob;clear hok hno hb1 hob hc;go_wp2_with fail
  refine(z8V Z P _ _ _ w1 HT1.out.pg HOB.out.bs (by omega)).mono ?_;rintro e w2 ⟨rfl,hd⟩;go_wp2_with fail
  go_ret
  exact⟨by rw [HWP.out];rfl,FIN.out w2 hd⟩
 .obtain rfl:=hno hc;rw [yA hc]at HPB;have HB:=HPB.out;subst HB;clear hok hno hb1 hc;go_wp2_with fail
  refine(z8V Z P (fun _=>True) _ [] w1 HT1.out.pg (Bs.nilv _ _) (by simp)).mono ?_;rintro e w2 ⟨rfl,hd⟩;go_wp2_with fail
  go_ret
  exact⟨by rw [HWP.out];rfl,FIN.out w2 hd⟩
theorem zE6(S:Nat->Prop)(leaf:Bool)(n:Nat)(v0:Value)(cs:List Cel)(key:List UInt8)(w:World)(hl:cs.length<=100000)(hr:Cs S w v0 cs)(hri:RisesP cs):
 Calls prog 128 #[.agg #[.bool leaf,.int .i64 (n:Int),v0],.string (st key)] w fun e w'=>e= .returned (.int .i64 (z23 cs key:Int))/\Below w.heap.size w w':=by
 have HR:=zz hr.lt;obtain⟨A,c1,rfl,_⟩:=hr.at;have HQ0:=zz ((y7 w.heap.size w).alloc (y5 _) (.cells #[.bool leaf,.int .i64 (n:Int),.slice A cs.length c1] 175));have hb0:Blk (w.alloc (.cells #[.bool leaf,.int .i64 (n:Int),.slice A cs.length c1] 175)) w.heap.size 175 #[.bool leaf,.int .i64 (n:Int),.slice A cs.length c1]:=Blk.new _ _ _;have HR0:=zz (HR.out.up HQ0.out);clear hr;have d0:(w.alloc (.cells #[.bool leaf,.int .i64 (n:Int),.slice A cs.length c1] 175)).cell? ⟨w.heap.size,0,none⟩=some (.bool leaf):=hb0.cell 0;have d1:(w.alloc (.cells #[.bool leaf,.int .i64 (n:Int),.slice A cs.length c1] 175)).cell? ⟨w.heap.size,1,none⟩=some (.int .i64 (n:Int)):=hb0.cell 1;have d2:(w.alloc (.cells #[.bool leaf,.int .i64 (n:Int),.slice A cs.length c1] 175)).cell? ⟨w.heap.size,2,none⟩=some (.slice A cs.length c1):=hb0.cell 2;clear hb0;go_enter func128,ntmps128
 generalize hW:w.alloc (.cells #[.bool leaf,.int .i64 (n:Int),.slice A cs.length c1] 175)=W at*;go_wp2_with fail
 refine(z46 _ leaf (n:Int) _ cs key W (by omega) HR0.out hri).mono ?_;rintro e w1 ⟨rfl,hb1⟩;have HQ1:=zz (HQ0.out.trans (hb1.mono HQ0.out.size));have hK:=z1o cs key;have HBN:Hid (z23 cs key=if isK cs key then z05 cs key else z05 cs key-1):=rfl;generalize z05 cs key=K at*;clear hb1 hri;cases hk:isK cs key with
 |true=>
  rw [hk,yB rfl]at HBN;have h1:(if(K:Int)<0 then(0:Int)else(K:Int))=(K:Int):=yA (by omega);go_wp2_with fail
  go_ret
  exact⟨by rw [HBN.out];rfl,HQ1.out⟩
 |false=>
  rw [hk]at HBN;simp only [yu,yv]at HBN;have h2:IntKind.i64.wrap ((K:Int)-1)=(K:Int)-1:=z1C (by omega) (by omega);go_wp2_with fail
  go_ret
  have h3:max ((K:Int)-1) 0=((K-1:Nat):Int):=by omega
  exact⟨by rw [HBN.out,<-h3];rfl,HQ1.out⟩
def stC(s:TStp)(v:Value):List Value:= [.int .i64 s.id,.int .i64 (s.at_:Int),.bool s.pg.1,.int .i64 (s.pg.2.1:Int),v]
abbrev z7q:=List (TStp×Value)
def wsC(l:z7q):List Value:=l.flatMap fun x=>stC x.1 x.2
theorem zC5(a b:z7q):wsC (a++b)=wsC a++wsC b:=by simp [wsC]
theorem zH0(s:TStp)(v:Value):wsC [(s,v)]=stC s v:=by simp [wsC]
theorem zC6(l:z7q):(wsC l).length=l.length*5:=by
 induction l with
 |nil=>rfl
 |cons x l ih=>
  have e:wsC (x::l)=stC x.1 x.2++wsC l:=by simp [wsC]
  rw [e,y6,ih,y8];simp [stC];omega
theorem z96:Elem prog 172 177 (.agg #[.int .i64 0,.int .i64 0,.bool false,.int .i64 0,.slice none 0 0]) 5 56:=Elem.mk' underlying172 (by kernel_rfl) rfl (by omega)
theorem Sl.newb{S:Nat->Prop}(w:World)(e:TypeId)(cs:List Value){g:Nat}(hg:g=w.heap.size)(hS:S g):Sl S (w.alloc (.cells cs.toArray e)) cs.length (.slice (some ⟨g,0,none⟩) 1 1) 1 cs:=by
 subst hg;refine⟨by simp,_,1,rfl,by omega,by simp [maxLen],(fun h=>by cases h),fun _=>⟨_,0,rfl,hS,fun j u hu=> ?_⟩⟩;rw [Y4];have:=(Blk.new w e cs.toArray).cell j;rw [this,Zf];exact hu
structure Wy(w:World)(B:Nat)(v:Value)(l:z7q):Prop where
 own:w.ownsRow B 177 5 v l.length (wsC l)
 cs:∀x∈l,Cs (fun b=>B<=b/\b<w.heap.size/\v.ownBlock≠some b) w x.2 x.1.pg.2.2
structure Wsl(S:Nat->Prop)(w:World)(v:Value)(l:z7q):Prop where
 sl:Sl S w 5 v l.length (wsC l)
 cs:∀x∈l,Cs S w x.2 x.1.pg.2.2
section
variable {w w':World} {B:Nat} {v:Value} {l:z7q}
theorem z17{e:TypeId}{size n:Nat}{xs:List Value}(h:w.ownsRow B e size v n xs)(hb:Below w.heap.size w w'):w'.ownsRow B e size v n xs:=by
 obtain⟨h1,h2⟩:=h;refine⟨h1,?_⟩;rcases h2 with h2|⟨g,cap,cur,hv,hg,hh,r⟩
 .exact .inl h2
 .exact .inr ⟨g,cap,cur,hv,hg,(hb.block g (lt_of_block hh)).trans hh,r⟩
theorem Wy.nil(w:World)(B:Nat):Wy w B (.slice none 0 0) []:=⟨Ya w B _ 5,fun x hx=>by cases hx⟩
theorem Wy.later(h:Wy w B v l)(hb:Below w.heap.size w w'):Wy w' B v l:=
 ⟨z17 h.own hb,fun x hx=>(Sl.below (h.cs x hx) hb fun b h=>h.2.1).more fun b h=>⟨h.1,yE h.2.1 hb.size,h.2.2⟩⟩
theorem Wy.push{w2:World}{v':Value}(h:Wy w B v l){s:TStp}{u:Value}(hown:w2.ownsRow B 177 5 v' (l.length+1) (wsC l++stC s u))(hg:w.grownBy w2 v.ownBlock)(hat:v'.ownBlock=v.ownBlock∨v'.ownBlock=some w.heap.size)
 (hu:Cs (fun b=>B<=b/\b<w.heap.size/\v.ownBlock≠some b) w u s.pg.2.2):Wy w2 B v' (l++ [(s,u)]):=by
 have keep:∀ {u:Value} {cs:List Cel},Cs (fun b=>B<=b/\b<w.heap.size/\v.ownBlock≠some b) w u cs->Cs (fun b=>B<=b/\b<w2.heap.size/\v'.ownBlock≠some b) w2 u cs:=fun h=>
  (Sl.grown h hg (fun b h=>h.2.1) (fun b h e=>h.2.2 e.symm)).more fun b h=>⟨h.1,yE h.2.1 hg.size,fun e=>by
    rcases hat with h5|h5
    .exact h.2.2 (h5▸e)
    .rw [h5]at e;injection e with e
     have:=h.2.1;omega⟩
 refine⟨?_,fun x hx=> ?_⟩
 .rw [y6,zC5,zH0];exact hown
 .rcases yF.1 hx with hx|hx
  .exact keep (h.cs x hx)
  .obtain rfl:=yJ.1 hx;exact keep hu
theorem Wy.step{w0 w3:World}{v':Value}(h:Wy w w0.heap.size v l)(hB:Below w0.heap.size w0 w){o:Obj}{s:TStp}{u:Value}(hown:w3.ownsRow w0.heap.size 177 5 v' (l.length+1) (wsC l++stC s u))(hg:(w.alloc o).grownBy w3 v.ownBlock)
 (hat:v'.ownBlock=v.ownBlock∨v'.ownBlock=some (w.alloc o).heap.size) (hu:Cs (fun b=>w0.heap.size<=b/\b<w.heap.size/\v.ownBlock≠some b) w u s.pg.2.2):Wy w3 w0.heap.size v' (l++ [(s,u)])/\Below w0.heap.size w0 w3:=by
 have q:=(y7 w.heap.size w).alloc (y5 _) o;have h2:=h.later q;have hB2:=hB.alloc hB.size o;refine⟨h2.push hown hg hat ((Sl.below hu q fun b h=>h.2.1).more fun b h=>⟨h.1,yE h.2.1 q.size,h.2.2⟩),z01 hB2 h2.own hg hB2.size⟩
theorem Wy.wsl(h:Wy w B v l):Wsl (fun b=>B<=b/\b<w.heap.size) w v l:=⟨Sl.of_own (by omega) h.own,fun x hx=>(h.cs x hx).more fun b h=>⟨h.1,h.2.1⟩⟩
end
def sLen:Value->Nat| .slice _ n _=>n|_=>0
structure WaySt(w wr:World)(pf:Int->Pag)(key:List UInt8)(L:List TStp)(v:Value)(done:z7q)(rest:List TStp)(i:Int)(n:Nat):Prop where
 own:Wy wr w.heap.size v done
 way:z3E pf key n i=some rest
 all:done.map (·.1)++rest=L
 below:Below w.heap.size w wr
 ini:InI i
theorem z1X(v:List UInt8):InI (z0F v):=by
 rcases z8F v with h|h
 .rw [h];unfold InI;omega
 .unfold InI;omega
theorem z0m{x:Pag}(h:POk x):x.2.2.length<=1100/\x.2.1<=256:=by
 have h1:=zAj (x:=x);have h2:=h.parts;omega
theorem Cs.get{S:Nat->Prop}{w:World}{b o c:Nat}{cs:List Cel}(h:Cs S w (.slice (some ⟨b,o,none⟩) cs.length c) cs){j:Nat}(hj:j<cs.length):
 w.cell? ⟨b,o+j*2,none⟩=some (.string (st cs[j].1))/\w.cell? ⟨b,o+j*2+1,none⟩=some (.string (st cs[j].2)):=by
 obtain⟨A,c',hv,_,_,_,hA⟩:=h.at;injection hv with hv _ _
 obtain⟨b',o',hb,_,hc⟩:=hA (by omega);rw [<-hv]at hb;injection hb with hb
 injection hb with h1 h2
 subst h1 h2;exact hc j hj
theorem Cs.some{S:Nat->Prop}{w:World}{A:Option Addr}{n c:Nat}{cs:List Cel}(h:Cs S w (.slice A n c) cs)(h0:0<cs.length):∃b o,A=some ⟨b,o,none⟩:=by
 obtain⟨A',c',hv,_,_,_,hA⟩:=h.at;injection hv with hv _ _
 obtain⟨b',o',hb,_,hc⟩:=hA h0;exact⟨b',o',hv.trans hb⟩
theorem z1A{cs:List Cel}{j:Nat}(h:j<cs.length):cellAt cs j=cs[j]:=by
 unfold cellAt;rw [yK h];rfl
def zJB(L:List TStp)(w:World)(e:Ending)(w':World):Prop:=
 ∃A k c' ls,e= .returned (.slice A k c')/\Wsl (fun b=>w.heap.size<=b/\b<w'.heap.size) w' (.slice A k c') ls/\ls.map (·.1)=L/\Below w.heap.size w w'
theorem z6S(g:Nat)(Z:Pz)(P:Pgr)(c:Int->List UInt8)(key:List UInt8)(n0:Nat)(L:List TStp)(w:World)(ht:Tg w g Z P c)(hw:z3E (P.pgD c) key n0 0=some L)(hL:L.length<=100000):
 Calls prog 91 #[.pointer (some ⟨g,0,none⟩),.string (st key)] w (zJB L w):=by
 have HT:=zz ht;have R0:Hid (WaySt w w (P.pgD c) key L (.slice none 0 0) [] L 0 n0):=⟨Wy.nil _ _,hw,rfl,y7 _ _,by unfold InI;omega⟩;clear ht hw;go_enter func91,ntmps91
 go_wp2_with fail
 go_loopw [5,6] (fun lv iv wr=>∃ (A:Option Addr) (k c':Nat) (done:z7q) (rest:List TStp) (i:Int) (n:Nat),lv= .slice A k c'/\iv= .int .i64 i/\Hid (WaySt w wr (P.pgD c) key L (.slice A k c') done rest i n)) (fun lv _ _=>L.length-sLen lv)
 case atStart=>exact⟨none,0,0,[],L,0,n0,rfl,rfl,R0⟩
 case round=>
  clear R0;obtain⟨A,k,c',done,rest,i,n,rfl,rfl,R⟩:=hrel;have HTR:=zz (HT.out.later R.out.below);have hk:k=done.length:=z0h R.out.own.own;subst hk;go_wp2_with fail
  refine(z2n g Z P c i wr HTR.out R.out.ini).mono ?_;rintro e w1 ⟨v,rfl,⟨A1,c1,rfl,hcs⟩,hb1⟩;have hok:=z7H P c i;have hlen:=z0m hok;have hstep:(((P.pgD c i).1=true∨(P.pgD c i).2.2= [])/\rest= [⟨i,0,P.pgD c i⟩])∨(¬ ((P.pgD c i).1=true∨(P.pgD c i).2.2= [])/\∃n' rest',z3E (P.pgD c) key n' (z0F (cellAt (P.pgD c i).2.2 (z23 (P.pgD c i).2.2 key)).2)=some rest'/\rest=⟨i,z23 (P.pgD c i).2.2 key,P.pgD c i⟩::rest'):=by
   have h:=R.out.way;rcases n with _|n
   .cases h
   .rw [z3E]at h
    split at h
    .rename_i hc;injection h with h
     exact .inl ⟨hc,h.symm⟩
    .rename_i hc;rw [YR]at h;obtain⟨r,h1,h2⟩:=h;exact .inr ⟨hc,n,r,h1,h2.symm⟩
  have HSTEP:=zz hstep;have HOK:=zz hok;have HI:=zz R.out.ini;have HQ1:=zz (R.out.below.trans (hb1.mono R.out.below.size));have HY1:=zz (R.out.own.later hb1);have HALL:=zz R.out.all;have hwr:=R.out.below.size;have HCS:Hid (Cs (fun b=>w.heap.size<=b/\b<w1.heap.size/\(Value.slice A done.length c').ownBlock≠some b) w1 (.slice A1 (P.pgD c i).2.2.length c1) (P.pgD c i).2.2):=hcs.more fun b h=>⟨by omega,h.2,fun e=>by have:=R.out.own.own.lt b e;omega⟩
  have hz1:=hb1.size;clear hok hstep hcs hb1 R HTR;have hdl:done.length<=L.length:=by rw [<-HALL.out];simp
  generalize P.pgD c i=X at*;obtain⟨leaf,nx,cs⟩:=X;simp only at HCS hlen ⊢;have hb0:Blk (w1.alloc (.cells #[.bool leaf,.int .i64 (nx:Int),.slice A1 cs.length c1] 175)) w1.heap.size 175 #[.bool leaf,.int .i64 (nx:Int),.slice A1 cs.length c1]:=Blk.new _ _ _;have d0:(w1.alloc (.cells #[.bool leaf,.int .i64 (nx:Int),.slice A1 cs.length c1] 175)).cell? ⟨w1.heap.size,0,none⟩=some (.bool leaf):=hb0.cell 0;have d1:(w1.alloc (.cells #[.bool leaf,.int .i64 (nx:Int),.slice A1 cs.length c1] 175)).cell? ⟨w1.heap.size,1,none⟩=some (.int .i64 (nx:Int)):=hb0.cell 1;have d2:(w1.alloc (.cells #[.bool leaf,.int .i64 (nx:Int),.slice A1 cs.length c1] 175)).cell? ⟨w1.heap.size,2,none⟩=some (.slice A1 cs.length c1):=hb0.cell 2;have QA:=(y7 w1.heap.size w1).alloc (y5 _) (.cells #[.bool leaf,.int .i64 (nx:Int),.slice A1 cs.length c1] 175);have HQA:=zz QA;have HB0:=zz hb0;have HYA:=zz (HY1.out.later QA);have HCSA:Hid (Cs (fun b=>w.heap.size<=b/\b<(w1.alloc (.cells #[.bool leaf,.int .i64 (nx:Int),.slice A1 cs.length c1] 175)).heap.size/\(Value.slice A done.length c').ownBlock≠some b) (w1.alloc (.cells #[.bool leaf,.int .i64 (nx:Int),.slice A1 cs.length c1] 175)) (.slice A1 cs.length c1) cs):=
   (Sl.below HCS.out QA fun b h=>h.2.1).more fun b h=>⟨h.1,by have:=h.2.1;simp;omega,h.2.2⟩
  have HQ2:=zz (HQ1.out.trans (QA.mono HQ1.out.size));clear hb0 QA HY1 HCS HQ1;by_cases hend:leaf=true∨cs= []
  .have hrest:rest= [⟨i,0,(leaf,nx,cs)⟩]:=by
    rcases HSTEP.out with h|h
    .exact h.2
    .exact absurd hend h.1
   subst hrest;have HF:Hid (done.map (·.1)++ [⟨i,0,(leaf,nx,cs)⟩]=L):=HALL.out;clear HSTEP HALL;cases leaf with
   |true=>
    go_wp2_with (at_builtin;refine z0A _ rfl (.tmp 24) (.tmp 28) z96 rfl (z17 HYA.out.own ((y7 _ _).alloc (y5 _) _)) (Sl.newb (S:=fun _=>True) _ _ (stC ⟨i,0,(true,nx,cs)⟩ (.slice A1 cs.length c1)) (by simp) trivial) rfl rfl (by intro y hy;simp [stC]at hy;rcases hy with rfl|rfl|rfl|rfl|rfl<;>rfl) (by simp only [maxLen];omega) (by omega) (by simp;omega) ?_;intro A3 k3 c3 w3 hown3 hg3 hat3)
    obtain⟨y1,y2⟩:=HYA.out.step HQ2.out hown3 hg3 hat3 HCSA.out;go_ret
    exact⟨A3,k3,c3,_,rfl,y1.wsl,by rw [<-HF.out];simp,y2⟩
   |false=>
    have hcs0:cs= []:=hend.resolve_left (by simp);have hcl0:((cs.length:Int)==0)=true:=by rw [hcs0];rfl
    clear hcs0 hend;go_wp2_with (at_builtin;refine z0A _ rfl (.tmp 24) (.tmp 28) z96 rfl (z17 HYA.out.own ((y7 _ _).alloc (y5 _) _)) (Sl.newb (S:=fun _=>True) _ _ (stC ⟨i,0,(false,nx,cs)⟩ (.slice A1 cs.length c1)) (by simp) trivial) rfl rfl (by intro y hy;simp [stC]at hy;rcases hy with rfl|rfl|rfl|rfl|rfl<;>rfl) (by simp only [maxLen];omega) (by omega) (by simp;omega) ?_;intro A3 k3 c3 w3 hown3 hg3 hat3)
    obtain⟨y1,y2⟩:=HYA.out.step HQ2.out hown3 hg3 hat3 HCSA.out;go_ret
    exact⟨A3,k3,c3,_,rfl,y1.wsl,by rw [<-HF.out];simp,y2⟩
  .obtain⟨n',rest',hwf,hrest⟩:∃n' rest',z3E (P.pgD c) key n' (z0F (cellAt cs (z23 cs key)).2)=some rest'/\rest=⟨i,z23 cs key,(leaf,nx,cs)⟩::rest':=by
    rcases HSTEP.out with h|h
    .exact absurd h.1 hend
    .exact h.2
   subst hrest;have HWF:=zz hwf;have HF:Hid (done.map (·.1)++⟨i,z23 cs key,(leaf,nx,cs)⟩::rest'=L):=HALL.out;have hlf:leaf=false:=by cases leaf with
    |true=>exact absurd (.inl rfl) hend
    |false=>rfl
   subst hlf;have hcl:0<cs.length:=ZO.2 fun e=>hend (.inr e)
   have hcl0:¬ (cs.length:Int)=0:=by omega
   clear HSTEP HALL hend hwf;go_wp2_with fail
   generalize hW1:w1.alloc (.cells #[.bool false,.int .i64 (nx:Int),.slice A1 cs.length c1] 175)=W1 at*;refine(zE6 _ false nx _ cs key W1 (by omega) HCSA.out HOK.out.asc.rises).mono ?_;rintro e w2 ⟨rfl,hb2⟩;have HY2:=zz (HYA.out.later hb2);have HQ3:=zz (HQ2.out.trans (hb2.mono HQ2.out.size));have HCS2:Hid (Cs (fun b=>w.heap.size<=b/\b<w2.heap.size/\(Value.slice A done.length c').ownBlock≠some b) w2 (.slice A1 cs.length c1) cs):=(Sl.below HCSA.out hb2 fun b h=>h.2.1).more fun b h=>⟨h.1,yE h.2.1 hb2.size,h.2.2⟩
   have hb0:=HB0.out.later hb2;have d0:w2.cell? ⟨w1.heap.size,0,none⟩=some (.bool false):=hb0.cell 0;have d1:w2.cell? ⟨w1.heap.size,1,none⟩=some (.int .i64 (nx:Int)):=hb0.cell 1;have d2:w2.cell? ⟨w1.heap.size,2,none⟩=some (.slice A1 cs.length c1):=hb0.cell 2;have hz2:=hb0.lt;have HB2:=zz hb0;have hbn:z23 cs key<cs.length:=by
    have:=z1o cs key;unfold z23
    split
    .rename_i h;exact z8N h
    .omega
   clear hb0 hb2 HCSA HYA HQ2;generalize hN:z23 cs key=N at*;have hN0:(0:Int)<=(N:Int):=by omega
   have hN1:(N:Int)<(cs.length:Int):=by omega
   have hcell:=z1A hbn;have HCEL:=zz hcell;obtain⟨bb,oo,rfl⟩:=HCS2.out.some hcl;have hsm:=z11 none _ HOK.out.parts.2.1 _ (yQ hbn);clear hcell;go_wp2_with (at_builtin;refine z0A _ rfl (.tmp 33) (.tmp 38) z96 rfl (z17 HY2.out.own ((y7 _ _).alloc (y5 _) _)) (Sl.newb (S:=fun _=>True) _ _ (stC ⟨i,N,(false,nx,cs)⟩ (.slice (some ⟨bb,oo,none⟩) cs.length c1)) (by simp) trivial) rfl rfl (by intro y hy;simp [stC]at hy;rcases hy with rfl|rfl|rfl|rfl|rfl<;>rfl) (by simp only [maxLen];omega) (by omega) (by simp;omega) ?_;intro A3 k3 c3 w3 hown3 hg3 hat3;have hb3:=Blk.kept (HB2.out.alloc _) (z17 HY2.out.own ((y7 _ _).alloc (y5 _) _)) hg3 (by decide);have e2:w3.cell? ⟨w1.heap.size,2,none⟩=some (.slice (some ⟨bb,oo,none⟩) cs.length c1):=hb3.cell 2;obtain⟨y1,y2⟩:=HY2.out.step HQ3.out hown3 hg3 hat3 HCS2.out;have hc3:=Cs.get (y1.cs (⟨i,N,(false,nx,cs)⟩,.slice (some ⟨bb,oo,none⟩) cs.length c1) (by simp)) hbn;have f1:=hc3.1;have f2:=hc3.2;have Y1:=zz y1;have Y2:=zz y2;clear hb3 y1 y2 hc3 hown3 hg3 hat3)
   refine(z3S _ _ w3 (by omega)).mono ?_;rintro e w4 ⟨rfl,hb4⟩;have R4:Hid (WaySt w w4 (P.pgD c) key L (.slice A3 k3 c3) (done++ [(⟨i,N,(false,nx,cs)⟩,.slice (some ⟨bb,oo,none⟩) cs.length c1)]) rest' (z0F cs[N].2) n'):=by
    refine⟨Y1.out.later hb4,?_,?_,Y2.out.trans (hb4.mono Y2.out.size),z1X _⟩
    .have:=HWF.out;rw [HCEL.out]at this;exact this
    .rw [Y6,yM];exact HF.out
   obtain rfl:k3=done.length+1:=by have:=z0h R4.out.own.own;simpa using this
   have hll:done.length+1<=L.length:=by rw [<-HF.out];simp
   clear hb4 Y1 Y2;go_wp2_with fail
   go_roundw
   case rel=>exact⟨A3,done.length+1,c3,_,rest',_,n',rfl,rfl,R4⟩
   case measure=>simp [sLen];omega
theorem zE7(g:Nat)(Z:Pz)(P:Pgr)(c:Int->List UInt8)(n0:Nat)(L:List TStp)(w:World)(ht:Tg w g Z P c)(hw:z3E (P.pgD c) [] n0 0=some L)(hL:L.length<=100000):
 Calls prog 191 #[.pointer (some ⟨g,0,none⟩)] w fun e w'=>e= .returned (.int .i64 (L.length:Int))/\Below w.heap.size w w':=by
 have HT:=zz ht;have HW:=zz hw;clear ht hw;go_enter func191,ntmps191
 go_wp2_with fail
 refine(z6S g Z P c [] n0 L w HT.out HW.out hL).mono ?_;rintro e w1 ⟨A,k,c',ls,rfl,hs,hm,hb⟩;have hk:k=L.length:=by
  have:=hs.sl;obtain⟨_,A',c2,hv,_⟩:=this;injection hv with _ h2 _
  rw [h2,<-hm,yw]
 subst hk;go_wp2_with fail
 go_ret
 exact⟨rfl,hb⟩
def undV(u:Und):Value:= .agg #[.int .i64 u.id,.int .i64 (u.depth:Int),.string (st u.from_),.string (st u.to_),.bool u.open_]
def FiPost(b:Bool)(w:World)(e:Ending)(w':World):Prop:=e= .returned (.bool b)/\Below w.heap.size w w'
def unC(u:Und):List Value:= [.int .i64 u.id,.int .i64 (u.depth:Int),.string (st u.from_),.string (st u.to_),.bool u.open_]
def zEI(l:List Und):List Value:=l.flatMap unC
theorem zIK(a b:List Und):zEI (a++b)=zEI a++zEI b:=by simp [zEI]
theorem zIM(u:Und):zEI [u]=unC u:=by simp [zEI]
theorem zIL(l:List Und):(zEI l).length=l.length*5:=by
 induction l with
 |nil=>rfl
 |cons x l ih=>
  have e:zEI (x::l)=unC x++zEI l:=by simp [zEI]
  rw [e,y6,ih,y8];simp [unC];omega
def lfC(l:List ((Int×Pag)×Value)):List Value:=l.flatMap fun x=> [.bool x.1.2.1,.int .i64 (x.1.2.2.1:Int),x.2]
theorem zFN(a b:List ((Int×Pag)×Value)):lfC (a++b)=lfC a++lfC b:=by simp [lfC]
theorem zFO(l:List ((Int×Pag)×Value)):(lfC l).length=l.length*3:=by
 induction l with
 |nil=>rfl
 |cons x l ih=>
  have e:lfC (x::l)= [.bool x.1.2.1,.int .i64 (x.1.2.2.1:Int),x.2]++lfC l:=by simp [lfC]
  rw [e,y6,ih,y8];simp;omega
def idC(l:List (Int×Pag)):List Value:=l.map fun x=> .int .i64 x.1
theorem elemIntT:Elem prog 203 3 (.int .i64 0) 1 8:=Elem.mk' underlying203 (by kernel_rfl) rfl (by omega)
theorem zIi:Elem prog 259 175 (.agg #[.bool false,.int .i64 0,.slice none 0 0]) 3 40:=Elem.mk' underlying259 (by kernel_rfl) rfl (by omega)
theorem z9U{w:World}{B B':Nat}{e e':TypeId}{size size' n n':Nat}{v v':Value}{xs xs':List Value}(h:w.ownsRow B e size v n xs)(h':w.ownsRow B' e' size' v' n' xs')(hne:e≠e'):∀g,v.ownBlock=some g->v'.ownBlock≠some g:=by
 intro g hg hg';rcases h.2 with⟨rfl,_⟩|⟨g1,cap,cur,rfl,_,hh,_⟩
 .simp [Value.ownBlock]at hg
 .rcases h'.2 with⟨rfl,_⟩|⟨g2,cap',cur',rfl,_,hh',_⟩
  .simp [Value.ownBlock]at hg'
  .simp [Value.ownBlock]at hg hg';subst hg;subst hg';rw [hh]at hh';simp at hh';exact hne hh'.2
theorem zBT{w w':World}{B b:Nat}{e:TypeId}{size n:Nat}{v:Value}{xs:List Value}(h:w.ownsRow B e size v n xs)(hk:z0G w b=some none)(hg:w.mapTurned w' b):w'.ownsRow B e size v n xs:=by
 refine h.kept hg.grown ?_;rcases h.2 with⟨rfl,_⟩|⟨g,cap,cur,rfl,_,hh,_⟩
 .exact .inl rfl
 .refine .inr fun e=> ?_
  simp [Value.ownBlock]at e;subst e;unfold z0G at hk;rw [hh]at hk;simp at hk
theorem zJs{w:World}{B:Nat}{e:TypeId}{size n c:Nat}{A:Option Addr}{xs ys:List Value}(h:w.ownsRow B e size (.slice A (n+1) c) (n+1) (xs++ys))(hx:xs.length=n*size)(hy:ys.length=size):
 w.ownsRow B e size (.slice A n c) n xs/\∃g,A=some ⟨g,0,none⟩/\B<=g/\g<w.heap.size/\n+1<=c/\c<=maxLen/\∀j u,ys[j]? =some u->w.cell? ⟨g,n*size+j,none⟩=some u:=by
 have h0:=h;rcases h.2 with⟨_,h0⟩|⟨g,cap,cur,hv,hB,hh,hcap,hm,hsz,ht⟩
 .omega
 .injection hv with e1 _ e3
  subst e1 e3;refine⟨⟨hx,.inr ⟨g,c,cur,rfl,hB,hh,by omega,hm,hsz,?_⟩⟩,g,rfl,hB,(YM.1 hh).1,hcap,hm,fun j u hu=> ?_⟩
  .have h1:(cur.toList.take ((n+1)*size)).take (n*size)=(xs++ys).take (n*size):=by rw [ht]
   rw [Q9,Ye (YP _ (by omega)),<-hx,ZG rfl]at h1;rw [<-hx];exact h1
  .have:=h0.cells (g:=g) rfl (n*size+j) u (by rw [yx (by omega),hx,YU];exact hu);have e:((⟨g,0,none⟩:Addr).add (n*size+j))=⟨g,n*size+j,none⟩:=by rw [z0U];simp
   rw [e]at this;exact this
theorem z4Q{w:World}{B n c g j:Nat}{e:TypeId}{size:Nat}{xs:List Value}{u:Value}(h:w.ownsRow B e size (.slice (some ⟨g,0,none⟩) n c) n xs)(hj:xs[j]? =some u):w.cell? ⟨g,j,none⟩=some u:=by
 have:=h.cells (g:=g) rfl j u hj;have e:((⟨g,0,none⟩:Addr).add j)=⟨g,j,none⟩:=by rw [z0U];simp
 rw [e]at this;exact this
theorem zIw{w:World}{B n:Nat}{e:TypeId}{size:Nat}{v:Value}{xs:List Value}(h:w.ownsRow B e size v n xs)(h0:0<n):∃g c,v= .slice (some ⟨g,0,none⟩) n c/\∀j u,xs[j]? =some u->w.cell? ⟨g,j,none⟩=some u:=by
 have h1:=h;rcases h.2 with⟨_,hn⟩|⟨g,cap,cur,rfl,_⟩
 .omega
 .exact⟨g,cap,rfl,fun j u hj=>z4Q h1 hj⟩
theorem z7E(w:World)(B:Nat)(e:TypeId)(cs:List Value){g:Nat}(hg:g=w.heap.size)(hB:B<=w.heap.size):(w.alloc (.cells cs.toArray e)).ownsRow B e cs.length (.slice (some ⟨g,0,none⟩) 1 1) 1 cs:=by
 subst hg;exact⟨by simp,.inr ⟨w.heap.size,1,cs.toArray,rfl,hB,heap_alloc_new w _,y5 _,by simp [maxLen],by simp,by simp⟩⟩
theorem zAQ(w:World)(u0:Value)(t:TypeId):∀j u,([u0]:List Value)[j]? =some u->(w.alloc (.cells #[u0] t)).cell? ((⟨w.heap.size,0,none⟩:Addr).add j)=some u:=by
 intro j u hj;have e:((⟨w.heap.size,0,none⟩:Addr).add j)=⟨w.heap.size,j,none⟩:=by rw [z0U];simp
 rw [e,(Blk.new w t #[u0]).cell j,<-hj];simp
theorem zAU{w:World}{o:Obj}{b:Addr}{xs:List Value}(h:∀j u,xs[j]? =some u->w.cell? (b.add j)=some u):∀b',some b=some b'->∀j u,xs[j]? =some u->(w.alloc o).cell? (b'.add j)=some u:=by
 intro b' hb j u hj;obtain rfl:=YF hb;have h1:=h j u hj;have hl:=Yc w _ h1;exact(yR (QH w o _ hl)).trans h1
theorem z3V{P:Program}(w:World){ops:Array Oper}{rest:List Oper}{o:Oper}{a:Act}{Q:Exit->Act->World->Prop}(hgd:o.guard=none)(x lo hi mx:Operand){t e:TypeId}{z:Value}{bytes:Nat}(E:Elem P t e z 1 bytes)
 (ho:o.op= .slice t x (some lo) (some hi) (some mx)) {g N c:Nat} {xs:List Value} (hx:a.eval x= .slice (some ⟨g,0,none⟩) N c) (hlo:a.eval lo= .int .i64 1) (hhi:a.eval hi= .int .i64 (N:Int)) (hmx:a.eval mx= .int .i64 (N:Int)) (h1:1<=N) (hc:N<=c)
 (hl:xs.length=N) (hr:∀j u,xs[j]? =some u->w.cell? ⟨g,j,none⟩=some u)
 (h:∀b:Addr,(∀j u,(xs.drop 1)[j]? =some u->w.cell? (b.add j)=some u)->wpList P ops Q rest (a.put o.dst (.slice (some b) (N-1) (N-1))) w):wpList P ops Q (o::rest) a w:=by
 refine wpList_plain hgd fun K hK=> ?_
 obtain⟨i,hi0,hz,hs,hby⟩:=E.info;have key:∀b:Addr,(b=if N=1 then⟨g,0,none⟩else⟨g,1,none⟩)->∀j u,(xs.drop 1)[j]? =some u->w.cell? (b.add j)=some u:=by
  intro b hb j u hj;rw [Yj]at hj;by_cases hN:N=1
  .obtain⟨h2,_⟩:=yg.1 hj;omega
  .rw [yA hN]at hb;subst hb;have e:((⟨g,1,none⟩:Addr).add j)=⟨g,1+j,none⟩:=by rw [z0U]
   rw [e];exact hr _ _ hj
 unfold Oper.wp;have hrun:(Instr.sliceAt t (.slice (some ⟨g,0,none⟩) N c) (some (.int .i64 1)) (some (.int .i64 (N:Int))) (some (.int .i64 (N:Int)))).run P w= .ok (.slice (some (if N=1 then⟨g,0,none⟩else⟨g,1,none⟩)) (N-1) (N-1)) w:=by
  by_cases hN:N=1
  .subst hN;simp [Instr.sliceAt,Instr.slice,Instr.sliceBounds,Instr.sliceBound,run_underlying E.under,sizeOf,typeInfo,hi0,asIntOf,hs];intro h;omega
  .simp [Instr.sliceAt,Instr.slice,Instr.sliceBounds,Instr.sliceBound,run_underlying E.under,sizeOf,typeInfo,hi0,asIntOf,hs,hN,hc,z0U];intro h;omega
 simp [execOp,ho,hx,hlo,hhi,hmx,hrun,Result.andThen];exact hK _ _ (h _ (key _ rfl))
structure CkSt(w wr:World)(bm:Nat)(tv lv iv:Value)(td:List Und)(s:ChT):Prop where
 todo:wr.ownsRow w.heap.size 257 5 tv td.length (zEI td.reverse)
 lv:∃us:List Value,us.length=s.leaves.length/\wr.ownsRow w.heap.size 175 3 lv s.leaves.length (lfC (s.leaves.zip us))/\∀u∈us,∃A k c,u= .slice A k c
 ids:wr.ownsRow w.heap.size 3 1 iv s.leaves.length (idC s.leaves)
 seen:∃f,MpV prog 3 wr bm f s.seen.length/\∀a,InI a->(f a).isSome=s.seen.contains a
 below:Below w.heap.size w wr
section
variable {w wr w':World} {bm:Nat} {tv lv iv:Value} {td:List Und} {s:ChT}
theorem CkSt.later(h:CkSt w wr bm tv lv iv td s)(hb:Below wr.heap.size wr w'):CkSt w w' bm tv lv iv td s:=by
 obtain⟨us,h1,h2,h3⟩:=h.lv;obtain⟨f,h4,h5⟩:=h.seen;exact⟨z17 h.todo hb,⟨us,h1,z17 h2 hb,h3⟩,z17 h.ids hb,⟨f,h4.later hb,h5⟩,h.below.trans (hb.mono h.below.size)⟩
theorem CkSt.cut(h:CkSt w wr bm tv lv iv td s){tv':Value}{td':List Und}(ho:wr.ownsRow w.heap.size 257 5 tv' td'.length (zEI td'.reverse)):CkSt w wr bm tv' lv iv td' s:=⟨ho,h.lv,h.ids,h.seen,h.below⟩
theorem CkSt.mark(h:CkSt w wr bm tv lv iv td s){f:Int->Option Value}{n:Nat}{a:Int}(hm:MpV prog 3 w' bm f n)(hg:wr.mapTurned w' bm)(hk:z0G wr bm=some none)(hbm:w.heap.size<=bm)(hn:n=s.seen.length+1)(hf:∀x,InI x->(f x).isSome=(a::s.seen).contains x):
 CkSt w w' bm tv lv iv td ⟨s.leaves,a::s.seen,s.depth⟩:=by
 obtain⟨us,h1,h2,h3⟩:=h.lv;refine⟨zBT h.todo hk hg,⟨us,h1,zBT h2 hk hg,h3⟩,zBT h.ids hk hg,⟨f,by subst hn;exact hm,hf⟩,?_⟩;exact h.below.grown hg.grown h.below.size (fun k hk=>by injection hk with hk;omega)
end
structure CkOk(pf:PF)(td:List Und)(s:ChT)(k:Nat)(F:Option ChT):Prop where
 run:z25 pf k td s=F
 fuel:s.seen.length+k=91
 nod:s.seen.Nodup
 pgs:∀a∈s.seen,0<=a/\a<90
 und:∀u∈td,InI u.id/\u.depth<=s.seen.length
 len:td.length<=1+1100*s.seen.length
 dep:s.depth<=91
 lvs:∀x∈s.leaves,InI x.1/\POk x.2
 lvn:s.leaves.length<=s.seen.length
theorem z9Z{l:List Int}(hn:l.Nodup)(h:∀a∈l,0<=a/\a<90):l.length<=90:=by
 have:=z7B (l:=l) (l':=(List.range 90).map fun i:Nat=>(i:Int)) hn fun a ha=>by
  obtain⟨h0,h1⟩:=h a ha;rw [yP];exact⟨a.toNat,by rw [yt];omega,by omega⟩
 simpa using this
theorem CkOk.start(pf:PF):CkOk pf [zGX] ⟨[],[],0⟩ 91 (z25 pf 91 [zGX] ⟨[],[],0⟩):=
 ⟨rfl,rfl,List.nodup_nil,fun _ h=>(by cases h),fun u hu=>(by obtain rfl:=yJ.1 hu;exact⟨by unfold InI zGX;simp,by unfold zGX;simp⟩),by simp,by simp,fun _ h=>(by cases h),by simp⟩
theorem CkOk.done{pf:PF}{s:ChT}{k:Nat}{F:Option ChT}(h:CkOk pf [] s k F):F=some s:=by
 rw [<-h.run];cases k<;>rfl
theorem CkOk.step{pf:PF}{u:Und}{td:List Und}{s:ChT}{k:Nat}{F:Option ChT}(h:CkOk pf (u::td) s k F):
 ∃k',k=k'+1/\F=match pf u.id with
 |none=>none
 |some x=>
  if s.seen.contains u.id|| !z99 u x then none
  else if x.1 then
   if s.leaves≠ []/\s.depth≠u.depth then none
   else z25 pf k' td ⟨s.leaves++ [(u.id,x)],u.id::s.seen,u.depth⟩
  else z25 pf k' (zJX u x.2.2++td) ⟨s.leaves,u.id::s.seen,s.depth⟩:=by
 have h9:=z9Z h.nod h.pgs;have hf:=h.fuel;obtain⟨k',rfl⟩:∃k',k=k'+1:=⟨k-1,by omega⟩;refine⟨k',rfl,?_⟩;rw [<-h.run]
 conv=>lhs;rw [z25]
 rfl
theorem CkOk.leaf{pf:PF}{u:Und}{td:List Und}{s:ChT}{k:Nat}{F:Option ChT}(h:CkOk pf (u::td) s (k+1) F){x:Pag}(hx:0<=u.id/\u.id<90/\POk x)(hs:s.seen.contains u.id=false)
 (hF:F=z25 pf k td ⟨s.leaves++ [(u.id,x)],u.id::s.seen,u.depth⟩):CkOk pf td ⟨s.leaves++ [(u.id,x)],u.id::s.seen,u.depth⟩ k F:=by
 have hu:=h.und u (YJ ..);have hns:u.id∉s.seen:=fun e=>by rw [List.contains_iff_mem.2 e]at hs;cases hs
 have h9:=z9Z h.nod h.pgs;have hf:=h.fuel;refine⟨hF.symm,by simp only [y8];omega,YA.2 ⟨hns,h.nod⟩,fun a ha=> ?_,fun v hv=> ?_,?_,by simp only;omega,fun y hy=> ?_,?_⟩
 .rcases y9.1 ha with rfl|ha
  .exact⟨hx.1,hx.2.1⟩
  .exact h.pgs a ha
 .have:=h.und v (ym _ hv);exact⟨this.1,by simp only [y8];omega⟩
 .have:=h.len;simp only [y8]at this ⊢;omega
 .rcases yF.1 hy with hy|hy
  .exact h.lvs y hy
  .obtain rfl:=yJ.1 hy;exact⟨hu.1,hx.2.2⟩
 .have:=h.lvn;simp only [y6,y8,yW];omega
theorem zJT{l:List (Int×Pag)}{i:Nat}(h:i<l.length):((idC l).drop 1++([.int .i64 0]:List Value))[i]? =some (.int .i64 ((((l.map (·.1)).drop 1++ [0])[i]?).getD 0)):=by
 have e:((idC l).drop 1++([.int .i64 0]:List Value))=(((l.map fun x:Int×Pag=>x.1).drop 1++ [0]:List Int)).map (fun z:Int=>Value.int .i64 z):=by
  unfold idC;rw [Y6,List.map_drop,List.map_map];rfl
 rw [e,Zj];have hl:i<(((l.map fun x:Int×Pag=>x.1).drop 1++ [0]:List Int)).length:=by simp;omega
 rw [yK hl];rfl
def z8T(l:List (Int×Pag))(i:Nat):Prop:=∀x,l[i]? =some x->(x.2.2.1:Int)=(((l.map (·.1)).drop 1++ [0])[i]?).getD 0
theorem z4m:∀l:List (Int×Pag),z2d l=true↔∀i,i<l.length->z8T l i
 | []=>by simp [z2d]
 | [(j,x)]=>by
   simp only [z2d,yd];constructor
   .intro h i hi y hy;obtain rfl:i=0:=by simp at hi;omega
    simp at hy;subst hy;simp [h]
   .intro h;have:=h 0 (by simp) (j,x) (by simp);simp at this;omega
 |(j,x)::(k,y)::r=>by
  rw [z2d,Y9,z4m ((k,y)::r),yd];constructor
  .rintro⟨h1,h2⟩ i hi z hz;cases i with
   |zero=>
    simp at hz;subst hz;simpa using h1
   |succ i=>
    have:=h2 i (by simpa using hi) z (by simpa using hz);simpa using this
  .intro h;refine⟨?_,fun i hi z hz=> ?_⟩
   .have:=h 0 (by simp) (j,x) (by simp);simpa using this
   .have:=h (i+1) (by simpa using hi) z (by simpa using hz);simpa using this
set_option linter.unusedSimpArgs false
section
variable {P:Program} {ops:Array Oper}
abbrev DP:=(Nat->Value)->VP
def yOf(env:List (Value×VP)):Nat->Value:=fun i=>((env[i]?).map (·.1)).getD undef
def z4p(Ds:List DP)(j:Nat):DP:=Ds.getD j fun _ _ _=>True
def zDQ(Ds:List DP)(y:Nat->Value)(k:Nat):List (Value×VP):=(List.range k).map fun j=>(y j,z4p Ds j y)
theorem zCP(Ds:List DP)(y:Nat->Value)(k:Nat):(zDQ Ds y k).length=k:=by simp [zDQ]
theorem z97{Ds:List DP}{y:Nat->Value}{k j:Nat}{x:Value}{W:VP}(h:(zDQ Ds y k)[j]? =some (x,W)):j<k/\x=y j/\W=z4p Ds j y:=by
 unfold zDQ at h;rw [Zj,YR]at h;obtain⟨i,hi,h2⟩:=h;obtain⟨h3,h4⟩:=yg.1 hi;rw [ZZ]at h4;subst h4;simp only [ZJ]at h3;injection h2 with h5 h6
 exact⟨h3,h5.symm,h6.symm⟩
theorem zIY{Ds:List DP}{y:Nat->Value}{k i:Nat}(hi:i<k):yOf (zDQ Ds y k) i=y i:=by
 unfold yOf zDQ;rw [Zj,List.getElem?_range hi];rfl
def z21(P:Program)(ops:Array Oper)(R:RegFr)(Q:Act->World->Prop):List Oper->List DP->List (Value×VP)->Act->Prop
 |o::rest,D::Ds,env,a=>
  (if Region.wanted o (yielded ops a.tmps)then ∀w,R.C env.length w->(∀e∈o.after,Region.binds .any e=true->∀ (x:Value) (W:VP),env[e.on]? =some (x,W)->W x w)->steps P o a w (R.S env.length) (D (yOf env))else ∀w,R.C env.length w->D (yOf env) undef w)/\
  ∀x,(∃w,R.E w/\D (yOf env) x w)->z21 P ops R Q rest Ds (env++ [(x,D (yOf env))]) (a.put o.dst x)
 | [],[],env,a=>∀w,R.E w->(∀ (j:Nat) (x:Value) (W:VP),env[j]? =some (x,W)->W x w)->Q a w
 |_,_,_,_=>False
structure RegFr.OkD(R:RegFr)(ops:Array Oper)(Ds:List DP):Prop where
 V:∀i j,i<ops.size->j<ops.size->i≠j->z0t ops j i=false->∀y x w w',R.S i w w'->z4p Ds j y x w->z4p Ds j y x w'
 C:∀i j,i<ops.size->j<ops.size->i≠j->z0t ops i j=false->∀w w',R.S i w w'->R.C j w->R.C j w'
 E:∀i,i<ops.size->∀w w',R.S i w w'->R.E w->R.E w'
 D:∀j,j<ops.size->∀y y':Nat->Value,(∀i,z0t ops j i=true->y i=y' i)->z4p Ds j y=z4p Ds j y'
theorem zCN{R:RegFr}{Ds:List DP}(hg:z3C ops=true)(hR:R.OkD ops Ds){y:Nat->Value}{k:Nat}(hk:k<ops.size):z4p Ds k (yOf (zDQ Ds y k))=z4p Ds k y:=
 hR.D k hk _ _ fun i hi=>zIY (z3l hg hk hi)
variable {R:RegFr} {Q:Act->World->Prop} {Ds:List DP} {a0:Act}
theorem z6W(hg:z3C ops=true)(hR:R.OkD ops Ds)(hlen:Ds.length=ops.size)(h0:z21 P ops R Q ops.toList Ds [] a0)(y:Nat->Value):∀k,k<=ops.size->(∀j,j<k->∃w,R.E w/\z4p Ds j y (y j) w)->
 z21 P ops R Q (ops.toList.drop k) (Ds.drop k) (zDQ Ds y k) (z5b ops a0 y k)
 |0,_,_=>by simpa [zDQ,z5b]using h0
 |k+1,hk,hy=>by
  have ih:=z6W hg hR hlen h0 y k (by omega) fun j hj=>hy j (by omega)
  have hk1:k<ops.toList.length:=by rw [ye];omega
  have hk2:k<Ds.length:=by omega
  rw [yL (l:=ops.toList) hk1,yL (l:=Ds) hk2]at ih;have h2:=ih.2 (y k) (by
   obtain⟨w,hw,hv⟩:=hy k (by omega);refine⟨w,hw,?_⟩;have e:z4p Ds k=Ds[k]'(by omega):=by unfold z4p;simp [List.getD,yK (show k<Ds.length by omega)]
   rw [<-zCN hg hR (by omega),e]at hv;exact hv)
  have e1:zDQ Ds y (k+1)=zDQ Ds y k++ [(y k,(Ds[k]'(by omega)) (yOf (zDQ Ds y k)))]:=by
   have e:z4p Ds k=Ds[k]'(by omega):=by unfold z4p;simp [List.getD,yK (show k<Ds.length by omega)]
   rw [<-e,zCN hg hR (by omega)];simp [zDQ,Zb]
  have e2:z5b ops a0 y (k+1)=(z5b ops a0 y k).put (ops.toList[k]'(by rw [ye];omega)).dst (y k):=by
   rw [z5b]
   congr 1
   simp [z2J,yG (show k<ops.size by omega)]
  rw [e1,e2];exact h2
theorem z8e(hg:z3C ops=true)(hR:R.OkD ops Ds)(hlen:Ds.length=ops.size)
 (h0:z21 P ops R Q ops.toList Ds [] a0) {w:World} (hE:R.E w) {L:Nat->Bool} {x:Nat->Value} (hx:∀j,j<ops.size->L j=true->z4p Ds j x (x j) w) (hcl:∀ (i:Nat) (o:Oper),ops[i]? =some o->L i=true->∀e∈o.after,Region.binds .any e=true->L e.on=true) (hC:∀j,j<ops.size->L j=false->R.C j w):
 ∀k,k<=ops.size->∃ (y:Nat->Value) (w':World),R.E w'/\(∀j,L j=true->y j=x j)/\(∀j,j<ops.size->L j=true∨j<k->z4p Ds j y (y j) w')/\∀j,j<ops.size->L j=false->k<=j->R.C j w'
 |0,_=>⟨x,w,hE,fun _ _=>rfl,fun j hj h=>h.elim (hx j hj) (fun h=>by omega),fun j hj hl _=>hC j hj hl⟩
 |k+1,hk=>by
  obtain⟨y,w',hE',hyx,hy,hC'⟩:=z8e hg hR hlen h0 hE hx hcl hC k (by omega);by_cases hL:L k=true
  .refine⟨y,w',hE',hyx,fun j hj h=>hy j hj ?_,fun j hj hl hkj=>hC' j hj hl (by omega)⟩;rcases h with h|h
   .exact .inl h
   .by_cases hjk:j=k
    .subst hjk;exact .inl hL
    .exact .inr (by omega)
  .have hL':L k=false:=by simpa using hL
   have hcw:=hC' k (by omega) hL' (y5 _);have hat:=z6W hg hR hlen h0 y k (by omega) fun j hj=>⟨w',hE',hy j (by omega) (.inr hj)⟩
   have hk1:k<ops.toList.length:=by rw [ye];omega
   have hk2:k<Ds.length:=by omega
   rw [yL (l:=ops.toList) hk1,yL (l:=Ds) hk2]at hat;have e:z4p Ds k=Ds[k]'(by omega):=by unfold z4p;simp [List.getD,yK (show k<Ds.length by omega)]
   have dep:=zCN (y:=y) hg hR (show k<ops.size by omega);have hex:∃v w'',(w''=w'∨R.S k w' w'')/\z4p Ds k y v w'':=by
    have h1:=hat.1;rw [zCP]at h1
    split at h1
    .obtain⟨v,w'',hbb,hv⟩:=z41 (h1 w' hcw fun e he hbd x W hxW=>by
      obtain⟨hlt,rfl,rfl⟩:=z97 hxW;exact hy _ (by omega) (.inr hlt))
     exact⟨v,w'',.inr hbb,by rw [<-dep,e];exact hv⟩
    .exact⟨undef,w',.inl rfl,by rw [<-dep,e];exact h1 w' hcw⟩
   obtain⟨v,w'',hst,hv⟩:=hex;have ed:∀j,j<ops.size->z0t ops j k=false->z4p Ds j (fun j=>if j=k then v else y j)=z4p Ds j y:=fun j hj hw=>hR.D j hj _ _ fun i hi=>by
    have:i≠k:=fun e=>by subst e;rw [hw]at hi;cases hi
    simp [this]
   refine⟨fun j=>if j=k then v else y j,w'',?_,fun j hj=> ?_,fun j hj h=> ?_,fun j hj hl hkj=> ?_⟩
   .rcases hst with rfl|hst
    .exact hE'
    .exact hR.E k (by omega) _ _ hst hE'
   .have hne:j≠k:=by rintro rfl;exact hL hj
    simp only [hne,yv];exact hyx j hj
   .by_cases hjk:j=k
    .subst hjk;rw [ed j hj (by
      cases hwt:z0t ops j j with
      |false=>rfl
      |true=>exact absurd (z3l hg hj hwt) (by omega))]
     simpa using hv
    .have hwt:z0t ops j k=false:=by
      cases hwt:z0t ops j k with
      |false=>rfl
      |true=>
       have hkj:=z3l hg hj hwt;rcases h with h|h
       .obtain⟨e,he,he2,hbd⟩:=(z0z (yG hj)).1 hwt;have:=hcl j _ (yG hj) h e he hbd;rw [he2,hL']at this;cases this
       .omega
     rw [ed j hj hwt];simp only [hjk,yv];have h4:=hy j hj (h.elim .inl fun h=> .inr (by omega));rcases hst with rfl|hst
     .exact h4
     .exact hR.V k j (by omega) hj (fun e=>hjk e.symm) hwt _ _ _ _ hst h4
   .have h4:=hC' j hj hl (by omega);rcases hst with rfl|hst
    .exact h4
    .refine hR.C k j (by omega) hj (by omega) ?_ _ _ hst h4;cases hwt:z0t ops k j with
     |false=>rfl
     |true=>exact absurd (z3l hg (by omega) hwt) (by omega)
theorem zGt(hg:z3C ops=true)(hR:R.OkD ops Ds)(hlen:Ds.length=ops.size)
 (h0:z21 P ops R Q ops.toList Ds [] a0) {Q':Exit->Act->World->Prop} (hQ:∀a w,Q a w->Q' .normal a w):
 ∀ (fuel:Nat) (listed:Array Bool) (a:Act) (w:World) (x:Nat->Value),listed.size=ops.size->R.E w->(∀j,j<ops.size->listed.getD j false=false->R.C j w)->Laid ops a0 (fun j=>if listed.getD j false then some (x j)else none) a->
   (∀j,j<ops.size->listed.getD j false=true->z4p Ds j x (x j) w)->(∀ (i:Nat) (o:Oper),ops[i]? =some o->listed.getD i false=true->∀e∈o.after,Region.binds .any e=true->listed.getD e.on false=true)->
   unl ops.size listed<=fuel->wpAny P .any ops Q' fuel listed a w:=by
 obtain⟨hs1,hs2,hs3,hs4⟩:=z3J hg;have hlt:∀ {i:Nat} {o:Oper},ops[i]? =some o->i<ops.size:=fun ho=>(YM.1 ho).1
 have hend:∀ (listed:Array Bool) (a:Act) (w:World) (x:Nat->Value),listed.size=ops.size->R.E w->Laid ops a0 (fun j=>if listed.getD j false then some (x j)else none) a->
  (∀j,j<ops.size->listed.getD j false=true->z4p Ds j x (x j) w)->Region.ready .any ops listed= []->Q' .normal a w:=by
  intro listed a w x hsz hw hL hx hr;have hall:∀n,∀j,j<n->j<ops.size->listed.getD j false=true:=by
   intro n
   induction n with
   |zero=>intro j hj;omega
   |succ n ih=>
    intro j hj hjs;rcases Y5 j n with hjn|hjn
    .exact ih j hjn hjs
    .obtain rfl:j=n:=by omega
     cases hlj:listed.getD j false with
     |true=>rfl
     |false=>
      exfalso;have:j∈Region.ready .any ops listed:=mem_ready.2 ⟨by
       have hj':j<listed.size:=by omega
       simpa [Array.getD,hj']using hlj,ops[j],yG hjs,fun e he hb=>ih e.on (hs1 j _ (yG hjs) e he hb) (by have:=hs1 j _ (yG hjs) e he hb;omega)⟩
      rw [hr]at this;cases this
  have hat:=z6W hg hR hlen h0 x ops.size (y5 _) fun j hj=>⟨w,hw,hx j hj (hall _ j hj hj)⟩
  rw [Yg (by simp),Yg (by omega)]at hat;have hq:=hat w hw fun j x' W hxW=>by
   obtain⟨hj,rfl,rfl⟩:=z97 hxW;exact hx j hj (hall _ j hj hj)
  have he:a=z5b ops a0 x ops.size:=Laid.same hL ((z2i hg a0 x ops.size (y5 _)).congr fun j hj=>by simp only [hj,YN,hall _ j hj hj]);rw [he];exact hQ _ _ hq
 intro fuel
 induction fuel with
 |zero=>
  intro listed a w x hsz hw hC hL hx hcl hf;have hr:Region.ready .any ops listed= []:=by
   rw [ZP];intro i hi;obtain⟨h1,o,ho,_⟩:=mem_ready.1 hi;have:i∈(List.range ops.size).filter fun j=> !listed.getD j true:=YD.2 ⟨yt.2 (hlt ho),by rw [h1];rfl⟩
   have hz:((List.range ops.size).filter fun j=> !listed.getD j true)= []:=yX (by unfold unl at hf;omega);rw [hz]at this;cases this
  exact⟨hr,hend listed a w x hsz hw hL hx hr⟩
 |succ fuel ih=>
  intro listed a w x hsz hw hC hL hx hcl hf;refine⟨fun hr=>hend listed a w x hsz hw hL hx hr,fun i hi=> ?_⟩;obtain⟨hi1,o,ho,hdeps⟩:=mem_ready.1 hi;have hin:=hlt ho;have hi2:=zBJ hi1;have eV:z4p Ds i=Ds[i]'(by omega):=by unfold z4p;simp [List.getD,yK (show i<Ds.length by omega)]
  obtain⟨y,w',hE',hyx,hy,_⟩:=z8e hg hR hlen h0 hw (L:=fun j=>listed.getD j false) hx hcl hC i (by omega);have hat:=z6W hg hR hlen h0 y i (by omega) fun j hj=>⟨w',hE',hy j (by omega) (.inr hj)⟩
  have hk1:i<ops.toList.length:=by rw [ye];omega
  have hk2:i<Ds.length:=by omega
  rw [yL (l:=ops.toList) hk1,yL (l:=Ds) hk2]at hat;have eo:ops.toList[i]'(by simpa using hin)=o:=by
   have:=yG hin;rw [ho]at this;simpa using (YF this).symm
  rw [eo,<-eV]at hat;have dep:=zCN (y:=y) hg hR (show i<ops.size from hin);have dep2:z4p Ds i y=z4p Ds i x:=hR.D i hin _ _ fun j hj=>by
   obtain⟨e,he,rfl,hbd⟩:=(z0z ho).1 hj;exact hyx _ (hdeps e he hbd)
  have hlex:=z2i hg a0 y i (by omega);have hag:∀t∈o.looksAt ops,a.tmps[t]? =(z5b ops a0 y i).tmps[t]? :=by
   intro t ht;by_cases hj:∃j,j<ops.size/\z2J ops j=some t
   .obtain⟨j,hjn,hjd⟩:=hj;have only:∀j',j'<ops.size->z2J ops j'=some t->j'=j:=fun j' h1 h2=>hs2 j' j t h1 hjn h2 hjd
    have hother:(listed.getD j false=false)->i<=j->a.tmps[t]? =(z5b ops a0 y i).tmps[t]? :=fun h1 h2=>by
     rw [hL.off t fun j' hj' hd'=>by rw [only j' hj' hd',h1];rfl,hlex.off t fun j' hj' hd'=>by
      rw [only j' hj' hd'];have:¬j<i:=by omega
      simp [this]]
    rcases hs3 i j o t ho hjn hjd ht with h|h|h
    .obtain⟨e,he,rfl,hbd⟩:=(z0z ho).1 h;have hl:=hdeps e he hbd;have hji:=hs1 i o ho e he hbd;rw [hL.put e.on t (x e.on) hjn hjd (by rw [hl];rfl),hlex.put e.on t (y e.on) hjn hjd (by simp [hji]),hyx e.on hl]
    .obtain⟨e,he,rfl,hbd⟩:=(z0z (yG hjn)).1 h;have hlt2:=hs1 j _ (yG hjn) e he hbd;refine hother ?_ (by omega);cases hlj:listed.getD j false with
     |false=>rfl
     |true=>
      have:=hcl j _ (yG hjn) hlj e he hbd;rw [hi2]at this;cases this
    .subst h;exact hother hi2 (y5 _)
   .rw [hL.off t fun j hjn hjd=>absurd ⟨j,hjn,hjd⟩ hj,hlex.off t fun j hjn hjd=>absurd ⟨j,hjn,hjd⟩ hj]
  obtain⟨hex,hwant⟩:=z5Z (ops:=ops) (hs4 i o · · ho) hag;have hnext:∀v w2,(w2=w∨R.S i w w2)->z4p Ds i x v w2->wpAny P .any ops Q' fuel (listed.setIfInBounds i true) (a.put o.dst v) w2:=by
   intro v w2 hst hv;have hset:∀j,(listed.setIfInBounds i true).getD j false=if j=i then true else listed.getD j false:=fun j=>by
    by_cases hji:j=i
    .subst hji;have:j<listed.size:=by omega
     simp [Array.getD,this]
    .rw [getD_set_ne false (fun e=>hji e.symm)];simp [hji]
   refine ih _ _ _ (fun j=>if j=i then v else x j) (by simpa using hsz) ?_ ?_ ?_ ?_ ?_ ?_
   .rcases hst with rfl|hst
    .exact hw
    .exact hR.E i hin _ _ hst hw
   .intro j hj hlj;rw [hset]at hlj;by_cases hji:j=i
    .simp [hji]at hlj
    .simp only [hji,yv]at hlj;have h4:=hC j hj hlj;rcases hst with rfl|hst
     .exact h4
     .refine hR.C i j hin hj (fun e=>hji e.symm) ?_ _ _ hst h4;cases hwt:z0t ops i j with
      |false=>rfl
      |true=>
       obtain⟨e,he,rfl,hbd⟩:=(z0z ho).1 hwt;have:=hdeps e he hbd;rw [hlj]at this;cases this
   .refine(hL.next hg ho (by rw [hi2];rfl) v).congr fun j hj=> ?_
    rw [hset];by_cases hji:j=i<;>simp [hji]
   .intro j hj hlj;rw [hset]at hlj;have ed:z0t ops j i=false->z4p Ds j (fun j=>if j=i then v else x j)=z4p Ds j x:=fun hw=>hR.D j hj _ _ fun q hq=>by
     have:q≠i:=fun e=>by subst e;rw [hw]at hq;cases hq
     simp [this]
    by_cases hji:j=i
    .subst hji;rw [ed (by
      cases hwt:z0t ops j j with
      |false=>rfl
      |true=>exact absurd (z3l hg hj hwt) (by omega))]
     simpa using hv
    .simp only [hji,yv]at hlj;have hwt:z0t ops j i=false:=by
      cases hwt:z0t ops j i with
      |false=>rfl
      |true=>
       obtain⟨e,he,he2,hbd⟩:=(z0z (yG hj)).1 hwt;have:=hcl j _ (yG hj) hlj e he hbd;rw [he2,hi2]at this;cases this
     rw [ed hwt];simp only [hji,yv];have h4:=hx j hj hlj;rcases hst with rfl|hst
     .exact h4
     .exact hR.V i j hin hj (fun e=>hji e.symm) hwt _ _ _ _ hst h4
   .intro k ok hok hlk e he hbd;rw [hset]at hlk ⊢;by_cases hki:k=i
    .subst hki;obtain rfl:ok=o:=by rw [ho]at hok;exact(YF hok).symm
     have:=hdeps e he hbd;by_cases h':e.on=k<;>simp [h',this]
    .simp only [hki,yv]at hlk;have:=hcl k ok hok hlk e he hbd;by_cases h':e.on=i<;>simp [h',this]
   .have:unl ops.size (listed.setIfInBounds i true)<unl ops.size listed:=by
     refine z2U (List.range ops.size) (fun j _ hq=> ?_) i (yt.2 hin) (by rw [hi1];rfl) ?_
     .by_cases hji:j=i
      .subst hji;rw [hi1];rfl
      .rwa [getD_set_ne true (fun e=>hji e.symm)]at hq
     .have:i<listed.size:=by omega
      simp [Array.getD,this]
    omega
  unfold wpOp;simp only [ho];rw [hwant];have h1:=hat.1;rw [zCP]at h1;have hci:=hC i hin hi2
  split
  .rename_i hwt;rw [yB hwt]at h1;refine .inl (z7n (S:=R.S i) (V:=z4p Ds i x) ?_ fun v w2 hb2 hv=>hnext v w2 (.inr hb2) hv);unfold steps;rw [hex,<-dep2,<-dep];exact h1 w hci fun e he hbd x' W hxW=>by
    obtain⟨hlt2,rfl,rfl⟩:=z97 hxW;have hl:=hdeps e he hbd;rw [hyx _ hl,hR.D e.on (by omega) y x fun q hq=>by
     obtain⟨e',he',rfl,hbd'⟩:=(z0z (yG (show e.on<ops.size by omega))).1 hq;exact hyx _ (hcl _ _ (yG (show e.on<ops.size by omega)) hl e' he' hbd')]
    exact hx _ (by omega) hl
  .rename_i hwt;rw [yA hwt]at h1;exact hnext undef w (.inl rfl) (by rw [<-dep2,<-dep];exact h1 w hci)
theorem z9q{id:Nat}{Q':Exit->Act->World->Prop}{w0:World}(l:List Oper)(hm:P.follows .mixedOrders=true)(hg:z3C l.toArray=true)(hR:R.OkD l.toArray Ds)(hlen:Ds.length=l.length)
 (hE:R.E w0.drew) (hC:∀j,j<l.toArray.size->R.C j w0.drew)
 (h0:z21 P l.toArray R (fun a w=>Q' .normal a w) l Ds [] a0):(Code.region id l.toArray true).wp P Q' a0 w0:=by
 have hno:∀j,(Array.replicate l.toArray.size false).getD j false=false:=fun j=>by unfold Array.getD;split<;>simp
 refine wp_region_any hm (zGt (Q:=fun a w=>Q' .normal a w) hg hR (by simpa using hlen) (by simpa using h0) (fun a w h=>h) _ _ _ _ (fun _=>undef) (by simp) hE (fun j hj _=>hC j hj) ?_ ?_ ?_ ?_)
 .refine(Laid.start a0).congr fun j hj=> ?_
  rw [hno];rfl
 .intro j hj h;rw [hno]at h;cases h
 .intro i o ho h;rw [hno]at h;cases h
 .unfold unl;exact yD (YI _ _) (by simp)
end
end
end Go.Proofs.YthnlcbamjehpdaaGreatDoor
