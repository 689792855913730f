/- Part 34. -/
import Derived.Test.YthnlcbamjehpdaaGreatDoorViewCollectsJ33
namespace Go.Proofs.YthnlcbamjehpdaaGreatDoor
set_option linter.unusedVariables false
set_option maxHeartbeats 16000000
set_option maxRecDepth 100000
section
open Go Go.RowKit Tryz
theorem z3k{K:Nat}{x:Pag}(h:Big K x)(hK:K<=240)(hs:szP x<=2600):UpOk x:=by
 have h1:=zAj (x:=x);refine⟨by have:=h.next;omega,by omega,fun c hc=>⟨?_,h.small c hc⟩⟩;have:=h.key.2 c hc;omega
theorem zCs{K:Nat}(hK:K<=240):∀ {j D:Nat} (cx:Cx j D) (h:Nat),(∀q∈cx.pgs h,POk q.2/\KOk K q.2)->(∀q∈cx.pgs h,q.1<90)->∀s∈cx.steps h,UpStp s
 |_,_,.top,h,_,_,s,hs=>by cases hs
 |_,_,.step id l k r up,h,h1,h2,s,hs=>by
  rw [Cx.steps]at hs;rw [Cx.pgs]at h1 h2;rcases y9.1 hs with rfl|hs
  .have ha:=h1 (id,z08 l k h r) (by simp);have hb:=h2 (id,z08 l k h r) (by simp);simp only at ha hb;exact⟨ha.1,fun c hc=>by have:=ha.2.2 c hc;omega,by unfold InI;simp only;omega⟩
  .exact zCs hK up id (fun q hq=>h1 q (by simp [hq])) (fun q hq=>h2 q (by simp [hq])) s hs
theorem zCm:∀ {j D:Nat} (cx:Cx j D) (h:Nat),cx.root h->Root0 (cx.steps h).reverse (h:Int)
 |_,_,.top,h,hr=>by obtain rfl:h=0:=hr;rfl
 |_,_,.step id l k r up,h,hr=>by
  have ih:=zCm up id hr.2;rw [Cx.steps,ZK];unfold Root0 at ih ⊢;cases hc:(up.steps id).reverse with
  |nil=>rw [hc]at ih;simpa using ih
  |cons a b=>rw [hc]at ih;simpa using ih
section
variable {Q:Prm} {P:Pgr} {c:Int->List UInt8} {j D:Nat} {h:Nat} {t:Ct j} {st:Pag}
theorem zJm(hQ:Q.Ok){id:Nat}{l r:List (Kid j)}{k:Key}{up:Cx (j+1) D}(u:DnI Q P c (Cx.step id l k r up) h t st)(hs:szP (Ct.page j t)<512)(hn:z7p Q j<=Ct.n j t+1)(hD:D<=90):
 LvIn P c ⟨(id:Int),l.length,z08 l k h r⟩ (Ct.page j t):=by
 have hneed:up.need Q<=l.length+1+r.length:=u.cok;have hm2:=hQ.m2;have h2:2<=l.length+1+r.length:=by
  have:2<=up.need Q:=by
   cases up with
   |top=>exact y5 2
   |step=>exact hm2
  omega
 obtain⟨l',ka,ia,A,kb,ib,B,r',p⟩:=zFc k h t (l:=l) (r:=r) h2;have hlen:=p.len;have hnd:=u.rep.rep.nodup;have hroot:=u.root;have hpos:=zCr (cx:=Cx.step id l k r up) hroot hroot.1 hnd;have hcfk:=u.cfk;obtain⟨f1,f2,f3⟩:=hcfk;have hmin:0<j->2<=z7p Q j:=fun h0=>by
  cases j with
  |zero=>omega
  |succ j=>exact hm2
 have hsib:∀q,q∈z0B l∨q∈z0B r->0<q.1/\q.1<90/\POk q.2/\KOk Q.K q.2/\P.pgD c (q.1:Int)=q.2:=fun q hq=>by
  have hq1:q∈(Cx.step id l k r up).pgs h:=by rw [z0R];simp only [yF];rcases hq with hq|hq<;>simp [hq]
  have hq2:q∈(Cx.step id l k r up).sibs:=by rw [Cx.sibs];simp only [yF];rcases hq with hq|hq<;>simp [hq]
  have:=u.ok q (yS _ hq1);exact⟨hpos q (.inl hq2),u.i90 q (yS _ hq1),this.1,this.2,u.rep.pgD (p:=q.2) (yS _ hq1)⟩
 have hh:0<h/\h<90:=⟨hroot.1,u.lt⟩;have hAB:(0<ia/\ia<90)/\(0<ib/\ib<90)/\(l≠ []->P.pgD c (ia:Int)=Ct.page j A)/\(l= []->P.pgD c (ib:Int)=Ct.page j B)/\Big Q.K (Ct.page j A)/\Big Q.K (Ct.page j B)/\
  szP (Ct.page j A)+szP (Ct.page j B)<=2560/\FlIn Q j A/\FlIn Q j B/\FlL Q l'/\FlL Q r'/\
  (∀q,q∈z0B l'∨q∈z0B r'∨q∈Ct.subs j A∨q∈Ct.subs j B->q∈z0B l∨q∈z0B r∨q∈Ct.subs j t)/\(0<j->1<=Ct.n j B)/\(l≠ []->Ct.page j B=Ct.page j t):=by
  rcases p.or_ with⟨rfl,rfl,rfl,rfl,rfl,rfl⟩|⟨rfl,rfl,rfl,rfl,rfl⟩
  .have hb:=hsib (ib,Ct.page j B) (.inr (by rw [z04];simp));have hf:=z0l.1 f2;have hfB:=(z1S Q j B).1 hf.1;refine⟨hh,⟨hb.1,hb.2.1⟩,fun h=>absurd rfl h,fun _=>hb.2.2.2.2,u.big,hb.2.2.1.big hb.2.2.2.1,by have:=hb.2.2.1.parts.2.2;simp only at this;omega,u.fl,hfB.2,f1,hf.2,?_,fun h0=>by have h3:=hmin h0;have h4:=hfB.1;omega,fun h=>absurd rfl h⟩;intro q hq;rcases hq with hq|hq|hq|hq
   .exact .inl hq
   .exact .inr (.inl (by rw [z04];simp [hq]))
   .exact .inr (.inr hq)
   .exact .inr (.inl (by rw [z04];simp [hq]))
  .have ha:=hsib (ia,Ct.page j A) (.inl (by rw [z0w,z04];simp));have hf:=z4i.1 f1;have hfA:=(z1S Q j A).1 (z0l.1 hf.2).1;have hsl:z0B (l'++ [(ka,(ia,A))])=z0B l'++((ia,Ct.page j A)::Ct.subs j A):=by rw [z0w,z04];simp [z0B]
   refine⟨⟨ha.1,ha.2.1⟩,hh,fun _=>ha.2.2.2.2,fun h=>by simp at h,ha.2.2.1.big ha.2.2.2.1,u.big,by have:=ha.2.2.1.parts.2.2;simp only at this;omega,hfA.2,u.fl,hf.1,f2,?_,fun h0=>by have h3:=hmin h0;omega,fun _=>rfl⟩;intro q hq;rw [hsl];rcases hq with hq|hq|hq|hq
   .exact .inl (by simp [hq])
   .exact .inr (.inl hq)
   .exact .inl (by simp [hq])
   .exact .inr (.inr hq)
 obtain⟨ha,hb,hpa,hpb,bA,bB,hsz,fA,fB,fl',fr',hin,hone,hBt⟩:=hAB;obtain⟨v1,v2,v3,v4,lo,hi,v5,v6⟩:=u.toUpK.virt p.hd ha.1 bA bB (by omega) fA fB fl' fr' hin;obtain⟨r1,r2,r3,r4⟩:=z75 (id:=id) p (P.pgD c) ha hb hpa hpb v4;have hst:=u.ok (id,z08 l k h r) (yS _ (by rw [z0R];simp));have hsl:=(z0m hst.1).1;have hll:(z08 l k h r).2.2.length=l.length+1+r.length:=by
  unfold z08;simp only [y6,y8,z2h];omega
 refine⟨?_,?_,by rw [r2];omega,fun hx=> ?_,?_,?_⟩
 .simp only;rw [hll];cases l with
  |nil=>simp only [yW]at h2 ⊢;omega
  |cons a l=>simp only [y8];omega
 .simp only at hsl ⊢;omega
 .have hj:0<j:=by
   cases j with
   |zero=>cases hx
   |succ j=>omega
  have e:zFQ (P.pgD c) ⟨(id:Int),l.length,z08 l k h r⟩ (Ct.page j t)=Ct.page j B:=by
   unfold zFQ;simp only;by_cases hl:l= []
   .rw [yB (by rw [hl];rfl),r2,hpb hl]
   .rw [yA (fun e=>hl (List.length_eq_zero_iff.1 e)),hBt hl]
  rw [e,Ct.n_page];exact hone hj
 .rw [r4];have hbg:=v1.big;refine z3k hbg hQ.K ?_;have h3:=bA.sz;have h4:=bB.sz;have h5:=hbg.sz;have e:(Ct.page j (ctJ j A B)).2.2=(Ct.page j A).2.2++(Ct.page j B).2.2:=by rw [z2Q];rfl
  rw [e,z0W]at h5;omega
 .have hl:=zEu hQ (pf:=P.pgD c) (Cx.step id l k r up) h u.left hroot u.cfl hh.2 (fun q hq=>u.rep.pgD (p:=q.2) (yS _ hq)) (fun q hq=>⟨hpos q (.inl hq),u.i90 q (yS _ (((Cx.pgs_perm _ h).mem_iff).2 (YO _ hq)))⟩)
   (fun q hq=>u.i90 q (yS _ (((Cx.pgs_perm _ h).mem_iff).2 (yS _ hq))))
  obtain⟨w,hw1,hw2⟩:=hl;exact⟨w,z2r hw1 (by omega),by omega⟩
end
theorem zJM{Q:Prm}{c:Int->List UInt8}(hQ:Q.Ok):∀ {j D:Nat} (cx:Cx j D) (h:Nat) (t:Ct j) (st:Pag) (P:Pgr),DnI Q P c cx h t st->szP (Ct.page j t)<=2048->cx.need Q<=Ct.n j t+1->Reg Q cx h t->D<=90->DnOk c P (cx.steps h) (h:Int) (Ct.page j t)
 |j,_,.top,h,t,st,P,u,hs,hn,hreg,hD=>by
  obtain rfl:h=0:=u.root;exact⟨z3k u.big hQ.K (by omega),by unfold InI;omega⟩
 |j,D,.step id l k r up,h,t,st,P,u,hs,hn,hreg,hD=>by
  have h9:=u.lt;rw [Cx.steps];refine⟨⟨z3k u.big hQ.K (by omega),by unfold InI;omega⟩,fun h5=> ?_⟩;have hreg':(Q.a=1/\Q.m=2)∨z2s (Cx.step id l k r up) h t+D+3<=90:=by
   rcases hreg with h1|⟨h1,_⟩
   .exact .inr h1
   .exact .inl ⟨h1.1,h1.2.1⟩
  obtain⟨t',R⟩:=zCY hQ u h5 hn hreg' hD;have hlv:=zJm hQ u h5 hn hD;have hK:=hQ.K;have hstp:=zCs hK (Cx.step id l k r up) h (fun q hq=>u.ok q (yS _ hq)) (fun q hq=>u.i90 q (yS _ hq));rw [Cx.steps]at hstp;have hup:UpOk (z0e P c ⟨(id:Int),l.length,z08 l k h r⟩ (h:Int) (Ct.page j t)).2:=by
   rw [R.page];exact z3k R.dn.big hK R.dn.small
  refine⟨hstp _ (YJ ..),hlv,hup,fun _=>⟨fun q hq=>hstp q (ym _ hq),zCm up id u.root.2⟩,fun h20=> ?_⟩;have hpg:=R.page;have hdn:=R.dn;have hca:=R.cases_;have hcok:up.need Q<=l.length+1+r.length:=u.cok;generalize z0e P c ⟨(id:Int),l.length,z08 l k h r⟩ (h:Int) (Ct.page j t)=X at hpg hdn hca h20 ⊢;obtain⟨P1,x1⟩:=X;simp only at hpg hdn hca h20 ⊢;subst hpg;rcases hca with⟨k1,k2,k3⟩|⟨k1,k2,k3⟩|⟨k1,k2,k3,k4⟩
  .refine zJM hQ up id t' _ P1 hdn k1 (by omega) ?_ hD;rcases hreg with h1|⟨h1,h2,h3⟩
   .exact .inl (by omega)
   .exact .inr ⟨h1,by omega,fun _ _=>by omega⟩
  .refine zJM hQ up id t' _ P1 hdn k1 (by omega) ?_ hD;rcases hreg with h1|⟨h1,h2,h3⟩
   .exact .inl (by omega)
   .exact .inr ⟨h1,by omega,fun _ h4=>by omega⟩
  .omega
theorem zGF{Q:Prm}(hQ:Q.Ok)(g:Nat)(Z:Pz)(P:Pgr)(c:Int->List UInt8){D:Nat}{t:Ct D}(w:World)(ht:Tg w g Z P c)(T:Tree Q P c D t)(k:Key)(hreg:isK (Ct.cells D t) k=true->1+(Ct.subs D t).length+D+3<=90∨(zIc Q D/\1+(Ct.subs D t).length+z5c D<=90)):
 Calls prog 115 #[.pointer (some ⟨g,0,none⟩),.string (st k)] w fun e w'=>∃P',z1O g Z P' c w w'/\Kin P P'/\
  (isK (Ct.cells D t) k=true/\e= .returned (.int .i64 0)/\P'=(zKN P c k).1/\(∃D' t',DnR Q P' c D (delC (Ct.cells D t) k) D' t')∨isK (Ct.cells D t) k=false/\e= .returned (.int .i64 140)/\P'=P):=by
 obtain⟨wy,n,cs,h,cx,h1,h2,h3,a⟩:=T.way k;obtain⟨c1,c2,c3⟩:=a.cells;have hD:=T.deep hQ;have hkc:isK cs k=isK (Ct.cells D t) k:=by rw [c1,z5G c2 c3]
 have hwy:wy=(cx.steps h).reverse++ [⟨(h:Int),0,(true,n,cs)⟩]:=by
  have:=congrArg List.reverse h3;rw [ZM,ZK]at this;exact this
 have hl:(cx.steps h).reverse.length=D:=by
  have h4:=congrArg List.length hwy;rw [y6,h2]at h4;simp only [y8,yW]at h4;omega
 have hwp:=T.way k;rw [hwy]at h1;cases hik:isK (Ct.cells D t) k with
 |false=>
  refine(z8j g Z P c k (D+1) (cx.steps h).reverse ⟨(h:Int),0,(true,n,cs)⟩ w ht h1 (by omega) (fun hy=>by simp only at hy;rw [hkc,hik]at hy;cases hy)).mono ?_;rintro e w' ⟨rfl,hd⟩;have e0:deleteT P c ((cx.steps h).reverse++ [⟨(h:Int),0,(true,n,cs)⟩]) k=(P,140):=by
   unfold deleteT;simp only [QQ,ZK,List.reverse_nil,yz,Y8];rw [yA (by rw [hkc,hik];simp)]
  rw [e0]at hd ⊢;exact⟨P,hd,Kin.refl _,.inr ⟨rfl,rfl,rfl⟩⟩
 |true=>
  obtain⟨w2,g1,g2,g3,g4,D',t',R⟩:=zIh hQ T hik (hreg hik);have hw2:w2=(cx.steps h).reverse++ [⟨(h:Int),0,(true,n,cs)⟩]:=zGp g1 h1;subst hw2;have hp:=z32 cx h (show Ct 0 from(n,cs)) a.root;have hw:t=cx.plug h (show Ct 0 from(n,cs)):=eq_of_heq (ZL a.whole).2;rw [<-hw]at hp;have hmem:(h,((true,n,cs):Pag))∈z8q D t:=hp.mem_iff.2 (YO _ (by exact YJ));have hleaf:=T.ok _ hmem;have hd:=hleaf.1.del k;have hb:=hd.1.big (hleaf.2.del k);have u:=a.upi T (cs':=delC cs k) hb fun lo hi h4 h5 y hy=>h5 y (z5I hy)
  have hlen:=z94 cs k;unfold z4g at hlen;rw [hkc,hik,yB rfl]at hlen;have hneed:cx.need Q<=Ct.n 0 (show Ct 0 from(n,delC cs k))+1:=by
   have h4:=a.need;have h5:Ct.n 0 (show Ct 0 from(n,cs))=cs.length:=rfl;have h6:Ct.n 0 (show Ct 0 from(n,delC cs k))=(delC cs k).length:=rfl;omega
  have hcnt:z2s cx h (show Ct 0 from(n,delC cs k))=1+(Ct.subs D t).length:=by
   rw [<-u.pages,T.rep.len];unfold z8q;rw [y8];omega
  have hlf:z50 (P.pgD c) (0+1) h:=by
   refine⟨[⟨(h:Int),0,(true,n,cs)⟩],?_,rfl⟩;have:=T.rep.pgD hmem;rw [z3E,this,yB (.inl rfl)]
  have hdn:=zJM hQ cx h _ _ P ⟨u,hlf,by have:=hd.1.parts.2.2;exact yD this (by omega)⟩ hd.1.parts.2.2 hneed (by
   rcases hreg hik with h4|⟨h4,h5⟩
   .exact .inl (by omega)
   .exact .inr ⟨h4,by omega,fun h0=>by omega⟩) (by omega)
  refine(z8j g Z P c k (D+1) (cx.steps h).reverse ⟨(h:Int),0,(true,n,cs)⟩ w ht h1 (by omega) (fun _=>zGG g Z P c _ _ _ (by rw [ZM];exact hdn) (by omega))).mono ?_;rintro e w' ⟨rfl,hd2⟩;rw [g3];have e1:(zKN P c k).1=(deleteT P c ((cx.steps h).reverse++ [⟨(h:Int),0,(true,n,cs)⟩]) k).1:=by rw [zEt h1 (by omega)]
  exact⟨_,hd2,g4,.inl ⟨rfl,rfl,e1.symm,D',t',R⟩⟩
theorem Tree.pgD_keys{Q:Prm}{P:Pgr}{c:Int->List UInt8}{D:Nat}{t:Ct D}(T:Tree Q P c D t)(i:Int):∀x∈(P.pgD c i).2.2,x.1.length<=Q.K:=by
 intro x hx;unfold Pgr.pgD at hx;cases hp:P.pg c i with
 |none=>rw [hp]at hx;simp [noPg]at hx
 |some p=>
  rw [hp]at hx;obtain⟨n,rfl,hm⟩:=(T.rep.rep.get i p).1 hp;exact(T.ok (n,p) hm).2.2 x hx
theorem zGN{Q:Prm}(hQ:Q.Ok)(g:Nat)(Z:Pz)(P:Pgr)(c:Int->List UInt8){D:Nat}{t:Ct D}(w:World)(ht:Tg w g Z P c)(T:Tree Q P c D t)(k v:List UInt8)(hk:k.length<=Q.K)(hx:k.length+v.length<=480)(hf:1+(Ct.subs D t).length+D+3<=90):
 Calls prog 116 #[.pointer (some ⟨g,0,none⟩),.agg #[.string (st k),.string (st v)]] w fun e w'=>e= .returned (.int .i64 0)/\z1O g Z (putW P c (k,v)).1 c w w':=by
 obtain⟨wy,h1,h2,h3,h4,_⟩:=zGM hQ T (x:=(k,v)) hk hx hf;have hD:=T.deep hQ;have hK:=hQ.K;refine(zIF g Z P c k v (D+1) wy w ht (by omega) (by omega) h1 (by omega) (fun s hs x hx=> ?_)).mono ?_
 .rw [zC0 h1 s hs]at hx;have:=T.pgD_keys _ x hx;omega
 .rintro e w' ⟨rfl,hd⟩;rw [h3,zFq h1 (by omega)];exact⟨rfl,hd⟩
noncomputable def chgP(P:Pgr)(c:Int->List UInt8)(L:List Cel)(x:Chg):Pgr:=if x.gone then(if isK L x.k then(zKN P c x.k).1 else P)else(putW P c (x.k,x.v)).1
def z8v(L:List Cel)(x:Chg):List Cel:=if x.gone then(if isK L x.k then delC L x.k else L)else putC L (x.k,x.v)
def z6X(Q:Prm)(D:Nat)(t:Ct D)(x:Chg):Prop:=
 if x.gone then(isK (Ct.cells D t) x.k=true->1+(Ct.subs D t).length+D+3<=90∨(zIc Q D/\1+(Ct.subs D t).length+z5c D<=90))
 else x.k.length<=Q.K/\x.k.length+x.v.length<=480/\1+(Ct.subs D t).length+D+3<=90
def VTgC(w:World)(g:Nat)(Z:Pz)(P:Pgr)(c:Int->List UInt8):VP:=fun _ wg=>z1O g Z P c w wg
theorem VTgC.stays{w:World}{g:Nat}{Z:Pz}{P:Pgr}{c:Int->List UInt8}:Stays (VTgC w g Z P c):=fun v w1 w2 hb h=>⟨h.1.later hb,h.2.trans (Ptp.below hb)⟩
def zD9(Q:Prm):Prop:=∀ (g:Nat) (Z:Pz) (P:Pgr) (c:Int->List UInt8) (D:Nat) (t:Ct D) (w:World),Tg w g Z P c->Tree Q P c D t->∀ (k:Key),(isK (Ct.cells D t) k=true->1+(Ct.subs D t).length+D+3<=90∨(zIc Q D/\1+(Ct.subs D t).length+z5c D<=90))->
    Calls prog 115 #[.pointer (some ⟨g,0,none⟩),.string (st k)] w fun e w'=>∃P' v,z1O g Z P' c w w'/\e= .returned v/\P'=if isK (Ct.cells D t) k then(zKN P c k).1 else P
theorem zJL{Q:Prm}(hQ:Q.Ok):zD9 Q:=fun g Z P c D t w ht T k hr=>(zGF hQ g Z P c w ht T k hr).mono fun e w' ⟨P',hd,hk,h⟩=>by
 rcases h with h|h
 .exact⟨P',_,hd,h.2.1,by rw [h.2.2.1,yB h.1]⟩
 .exact⟨P',_,hd,h.2.1,by rw [h.2.2,h.1];rfl⟩
theorem zIA{Q:Prm}(hQ:Q.Ok)(gs g gb:Nat)(Z:Pz)(P:Pgr)(c:Int->List UInt8){D:Nat}{t:Ct D}(w:World)(ht:Tg w g Z P c)(T:Tree Q P c D t){v1 v2:Value}(hs:Blk w gs 120 #[.pointer (some ⟨g,0,none⟩),v1,v2])(hb:Blk w gb 40 #[.pointer (some ⟨gs,0,none⟩)])(x:Chg)(hr:z6X Q D t x)(hdl:x.gone=true->zD9 Q):
 Calls prog 114 #[.agg #[.string (st x.k),.string (st x.v),.bool x.gone],.pointer (some ⟨gb,0,none⟩)] w fun e w'=>e= .returned (.tuple #[])/\z1O g Z (chgP P c (Ct.cells D t) x) c w w':=by
 obtain⟨k,v,gn⟩:=x;have q0:=(y7 w.heap.size w).alloc (y5 _) (.cells #[.string (st k),.string (st v),.bool gn] 96);have HT:=zz (ht.later q0);have HS:=zz (hs.later q0);have HB:=zz (hb.later q0);have HX:=zz (Blk.new w 96 #[.string (st k),.string (st v),.bool gn]);have HNS:Hid (¬Z.has gs):=Pz.not_kind ht.pg (z0I hs) (by decide) (by decide) (by decide) (by decide);have HNB:Hid (¬Z.has gb):=Pz.not_kind ht.pg (z0I hb) (by decide) (by decide) (by decide) (by decide);have HNX:Hid (¬Z.has w.heap.size):=fun h=>by have:=ht.pg.lt h;omega
 have HNG:Hid (¬Z.has g):=ht.nz;have HPT:Hid (Ptp Z w Z (w.alloc (.cells #[.string (st k),.string (st v),.bool gn] 96))):=Ptp.below q0;have HR:=zz hr;obtain⟨P2,hP2⟩:∃P2,chgP P c (Ct.cells D t) ⟨k,v,gn⟩=P2:=⟨_,rfl⟩;have HP2:=zz hP2;have HDL:=zz hdl;rw [hP2];clear ht hs hb q0 hr hP2 hdl;go_enter func114,ntmps114
 go_upto_region 1 with(fail)
 generalize hW:w.alloc (.cells #[.string (st k),.string (st v),.bool gn] 96)=W at*;clear hW;generalize w.heap.size=gx at*;have hx:=HX.out;have x0:(W).cell? ⟨gx,0,none⟩=some (.string (st k)):=hx.cell 0;have x1:(W).cell? ⟨gx,1,none⟩=some (.string (st v)):=hx.cell 1;have x2:(W).cell? ⟨gx,2,none⟩=some (.bool gn):=hx.cell 2;clear hx;cases gn with
 |true=>
  have HDE:Hid (∀wg,Below W.heap.size W wg->Calls prog 115 #[.pointer (some ⟨g,0,none⟩),.string (st k)] wg fun e w'=>∃v,e= .returned v/\Turn Z.has wg w'/\VTgC W g Z P2 c v w'):=fun wg hwg=>by
   refine(HDL.out rfl g Z P c D t wg (HT.out.later hwg) T k (by have:=HR.out;unfold z6X at this;exact this)).mono ?_;rintro e w' ⟨P',v,hd,rfl,h⟩;refine⟨_,rfl,hd.2.turn,?_⟩;have:P'=P2:=by
    rw [<-HP2.out,h];rfl
   rw [<-this];exact⟨hd.1,(Ptp.below hwg).trans hd.2⟩
  clear HP2 HR HDL;have HK:Hid (∀wg,Turn (trE [TrP.of 6 Z.has]) W wg->Blk wg gb 40 #[.pointer (some ⟨gs,0,none⟩)]/\Blk wg gs 120 #[.pointer (some ⟨g,0,none⟩),v1,v2]/\Blk wg gx 96 #[.string (st k),.string (st v),.bool true]):=fun wg h=>by
   have hn:∀ {b:Nat},¬Z.has b->¬trE [TrP.of 6 Z.has] b:=fun {b} hb h1=>by
    obtain⟨p,hp,hF⟩:=h1;simp only [y9,yH,yp]at hp;subst hp;exact hb hF
   exact⟨HB.out.turn h (hn HNB.out),HS.out.turn h (hn HNS.out),HX.out.turn h (hn HNX.out)⟩
  go_upto_region 2 with(fail)
  refine z1F [TrP.of 6 Z.has] (by kernel_rfl) (by kernel_rfl) ?_;apply Exists.intro;apply And.intro
  .repeat(first
    |(apply z1L rfl
      intro K hK;go_simp;refine hK _ ?_;clear hK K)
    |(apply z2M rfl (by kernel_rfl)
      .intro wg hwg _;have hb:=HK.out wg hwg;have b0:wg.cell? ⟨gb,0,none⟩=some (.pointer (some ⟨gs,0,none⟩)):=hb.1.cell 0;have s0:wg.cell? ⟨gs,0,none⟩=some (.pointer (some ⟨g,0,none⟩)):=hb.2.1.cell 0;have k0:wg.cell? ⟨gx,0,none⟩=some (.string (st k)):=hb.2.2.cell 0;unfold z03;go_simp
       first
        |exact z00 _ _
        |(fail)
      intro K hK;go_simp;refine hK _ ?_;clear hK K))
   apply z1Z (V:=VTgC W g Z P2 c) (TrP.of 6 Z.has);exact rfl
   kernel_rfl
   .intro wg hwg hf;have hwg2:=z1s (fun p hp=>by simp only [y9,yH,yp]at hp;subst hp;exact .inl rfl) hwg;clear hwg hf;unfold steps;go_simp;apply z1V;exact HDE.out wg hwg2
   intro xv hxv K hK;obtain⟨wx,hwx,hbx⟩:=hxv
   skip
   go_simp;refine hK _ ?_;clear hK K hbx hwx;refine z39 (fun wf hE hf=> ?_);have g6:=hf 6 _ _ rfl;clear hf hE;have H6:Hid (z1O g Z P2 c w wf):=⟨g6.1,HPT.out.trans g6.2⟩;clear g6;go_wp2_with fail
   refine bodyPost_ret (results_none rfl _ _ _) rfl ?_;exact⟨rfl,H6.out⟩
  .apply And.intro
   .repeat(first
     |exact trivial
     |(refine⟨z5y _ _,?_⟩)
     |(refine⟨z7C VTgC.stays (fun p hp hn hw=>by simp only [y9,yH,yp]at hp;subst hp;exact absurd rfl hn),?_⟩)
     )
   .rfl
 |false=>
  have HPU:Hid (∀wg,Below W.heap.size W wg->Calls prog 116 #[.pointer (some ⟨g,0,none⟩),.agg #[.string (st k),.string (st v)]] wg fun e w'=>∃v,e= .returned v/\Turn Z.has wg w'/\VTgC W g Z P2 c v w'):=fun wg hwg=>by
   have hr:=HR.out;unfold z6X at hr;simp only [yu,yv]at hr;refine(zGN hQ g Z P c wg (HT.out.later hwg) T k v hr.1 hr.2.1 hr.2.2).mono ?_;rintro e w' ⟨rfl,hd⟩;have:(putW P c (k,v)).1=P2:=by rw [<-HP2.out];simp [chgP]
   rw [this]at hd;exact⟨_,rfl,hd.2.turn,hd.1,(Ptp.below hwg).trans hd.2⟩
  clear HP2 HR HDL;have HK:Hid (∀wg,Turn (trE [TrP.of 9 Z.has]) W wg->Blk wg gb 40 #[.pointer (some ⟨gs,0,none⟩)]/\Blk wg gs 120 #[.pointer (some ⟨g,0,none⟩),v1,v2]/\Blk wg gx 96 #[.string (st k),.string (st v),.bool false]):=fun wg h=>by
   have hn:∀ {b:Nat},¬Z.has b->¬trE [TrP.of 9 Z.has] b:=fun {b} hb h1=>by
    obtain⟨p,hp,hF⟩:=h1;simp only [y9,yH,yp]at hp;subst hp;exact hb hF
   exact⟨HB.out.turn h (hn HNB.out),HS.out.turn h (hn HNS.out),HX.out.turn h (hn HNX.out)⟩
  go_upto_region 3 with(fail)
  refine z1F [TrP.of 9 Z.has] (by kernel_rfl) (by kernel_rfl) ?_;apply Exists.intro;apply And.intro
  .repeat(first
    |(apply z1L rfl
      intro K hK;go_simp;refine hK _ ?_;clear hK K)
    |(apply z2M rfl (by kernel_rfl)
      .intro wg hwg _;have hb:=HK.out wg hwg;have b0:wg.cell? ⟨gb,0,none⟩=some (.pointer (some ⟨gs,0,none⟩)):=hb.1.cell 0;have s0:wg.cell? ⟨gs,0,none⟩=some (.pointer (some ⟨g,0,none⟩)):=hb.2.1.cell 0;have k0:wg.cell? ⟨gx,0,none⟩=some (.string (st k)):=hb.2.2.cell 0;have k1:wg.cell? ⟨gx,1,none⟩=some (.string (st v)):=hb.2.2.cell 1;unfold z03;go_simp
       first
        |exact z00 _ _
        |(fail)
      intro K hK;go_simp;refine hK _ ?_;clear hK K))
   apply z1Z (V:=VTgC W g Z P2 c) (TrP.of 9 Z.has);exact rfl
   kernel_rfl
   .intro wg hwg hf;have hwg2:=z1s (fun p hp=>by simp only [y9,yH,yp]at hp;subst hp;exact .inl rfl) hwg;clear hwg hf;unfold steps;go_simp;apply z1V;exact HPU.out wg hwg2
   intro xv hxv K hK;obtain⟨wx,hwx,hbx⟩:=hxv
   skip
   go_simp;refine hK _ ?_;clear hK K hbx hwx;refine z39 (fun wf hE hf=> ?_);have g6:=hf 9 _ _ rfl;clear hf hE;have H6:Hid (z1O g Z P2 c w wf):=⟨g6.1,HPT.out.trans g6.2⟩;clear g6;go_wp2_with fail
   go_end0
   exact⟨rfl,H6.out⟩
  .apply And.intro
   .repeat(first
     |exact trivial
     |(refine⟨z5y _ _,?_⟩)
     |(refine⟨z7C VTgC.stays (fun p hp hn hw=>by simp only [y9,yH,yp]at hp;subst hp;exact absurd rfl hn),?_⟩)
     )
   .rfl
noncomputable def chgsP(c:Int->List UInt8):Pgr->List Cel->List Chg->Pgr
 |P,_,[]=>P
 |P,L,x::r=>chgsP c (chgP P c L x) (z8v L x) r
def z2P(L:List Cel)(l:List Chg):List Cel:=l.foldl z8v L
def ChRuns(Q:Prm)(c:Int->List UInt8):Pgr->List Cel->List Chg->Prop
 |_,_,[]=>True
 |P,L,x::r=>(∃D,∃t:Ct D,Tree Q P c D t/\Ct.cells D t=L/\z6X Q D t x)/\ChRuns Q c (chgP P c L x) (z8v L x) r
structure DoSt(Q:Prm)(W0 wr:World)(g:Nat)(Z:Pz)(c:Int->List UInt8)(R P:Pgr)(L:List Cel)(r:List Chg):Prop where
 T:z1O g Z P c W0 wr
 K:ChRuns Q c P L r
 E:chgsP c P L r=R
theorem zK6{Q:Prm}(hQ:Q.Ok)(gs g:Nat)(Z:Pz)(P:Pgr)(c:Int->List UInt8)(L:List Cel)(l:List Chg)(w:World)(v0:Value)(ht:Tg w g Z P c){v1 v2:Value}(hs:Blk w gs 120 #[.pointer (some ⟨g,0,none⟩),v1,v2])(hr:Ch (fun b=>¬Z.has b) w v0 l)(hk:ChRuns Q c P L l)(hl:l.length<=1000000)(hdl:∀y∈l,y.gone=true->zD9 Q):
 Calls prog 77 #[.pointer (some ⟨gs,0,none⟩),v0] w fun e w'=>e= .returned (.tuple #[])/\z1O g Z (chgsP c P L l) c w w':=by
 have q0:=(y7 w.heap.size w).alloc (y5 _) (.cells #[.pointer (some ⟨gs,0,none⟩)] 40);have HNS:Hid (¬Z.has gs):=Pz.not_kind ht.pg (z0I hs) (by decide) (by decide) (by decide) (by decide);have HNB:Hid (¬Z.has w.heap.size):=fun h=>by have:=ht.pg.lt h;omega
 have HS:=zz (hs.later q0);have HB:=zz (Blk.new w 40 #[.pointer (some ⟨gs,0,none⟩)]);have HPT:Hid (Ptp Z w Z (w.alloc (.cells #[.pointer (some ⟨gs,0,none⟩)] 40))):=Ptp.below q0;obtain⟨R,hR⟩:∃R,chgsP c P L l=R:=⟨_,rfl⟩;have R0:Hid (DoSt Q (w.alloc (.cells #[.pointer (some ⟨gs,0,none⟩)] 40)) (w.alloc (.cells #[.pointer (some ⟨gs,0,none⟩)] 40)) g Z c R P L (l.drop 0)):=⟨⟨ht.later q0,Ptp.refl _ _⟩,hk,hR⟩;have hr1:Ch (fun b=>¬Z.has b/\b<w.heap.size) w v0 l:=Sl.lt hr (by omega);have hr2:Ch (fun b=>¬Z.has b/\b<w.heap.size) (w.alloc (.cells #[.pointer (some ⟨gs,0,none⟩)] 40)) v0 l:=Sl.below hr1 q0 fun b h=>h.2
 obtain⟨A,c0,rfl,hlc,hcm,hA0,hA⟩:=hr2.at;have hsz0:=q0.size;have HA:Hid (0<l.length->∃b o,A=some ⟨b,o,none⟩/\(¬Z.has b/\b<(w.alloc (.cells #[.pointer (some ⟨gs,0,none⟩)] 40)).heap.size)/\∀j (hj:j<l.length),(w.alloc (.cells #[.pointer (some ⟨gs,0,none⟩)] 40)).cell? ⟨b,o+j*3,none⟩=some (.string (st l[j].k))/\(w.alloc (.cells #[.pointer (some ⟨gs,0,none⟩)] 40)).cell? ⟨b,o+j*3+1,none⟩=some (.string (st l[j].v))/\(w.alloc (.cells #[.pointer (some ⟨gs,0,none⟩)] 40)).cell? ⟨b,o+j*3+2,none⟩=some (.bool l[j].gone)):=fun h=>by
  obtain⟨b,o,h1,h2,h3⟩:=hA h;exact⟨b,o,h1,⟨h2.1,by omega⟩,h3⟩
 rw [hR];have HDL:=zz hdl;clear ht hs hr hr1 hr2 hk hR hA hA0 q0 hsz0 hdl;go_enter func77,ntmps77
 go_upto_region 1 with(fail)
 generalize hW0:w.alloc (.cells #[.pointer (some ⟨gs,0,none⟩)] 40)=W0 at*;clear hW0;generalize w.heap.size=gb at*;go_wp2_with fail
 go_loopw [10] (fun iv wr=>∃ (i:Nat) (P':Pgr) (L':List Cel),iv= .int .i64 (i:Int)/\i<=l.length/\Hid (DoSt Q W0 wr g Z c R P' L' (l.drop i))) (fun iv _=>l.length-(intOf iv).toNat)
 case atStart=>exact⟨0,P,L,rfl,by omega,R0⟩
 case round=>
  clear R0;obtain⟨i,P',L',rfl,hi,RR⟩:=hrel;have HT:=zz RR.out.T;by_cases hil:i<l.length
  .obtain⟨b,o,rfl,hbs,hc⟩:=HA.out (by omega);have hdr:l.drop i=l[i]::l.drop (i+1):=yL hil;have hk:=RR.out.K;have hE:=RR.out.E;rw [hdr]at hk hE;have htn:∀q,wr.cell? ⟨b,q,none⟩=W0.cell? ⟨b,q,none⟩:=fun q=>yR (HT.out.2.turn.block b hbs.2 hbs.1)
   have c0:wr.cell? ⟨b,o+i*3,none⟩=some (.string (st l[i].k)):=(htn _).trans (hc i hil).1;have c1:wr.cell? ⟨b,o+i*3+1,none⟩=some (.string (st l[i].v)):=(htn _).trans (hc i hil).2.1;have c2:wr.cell? ⟨b,o+i*3+2,none⟩=some (.bool l[i].gone):=(htn _).trans (hc i hil).2.2;obtain⟨x,hx0⟩:∃x,l[i]=x:=⟨_,rfl⟩;have HDX:Hid (x.gone=true->zD9 Q):=HDL.out x (hx0▸yQ hil);rw [hx0]at c0 c1 c2 hk hE;clear hx0 hc htn hdr RR;have HK:=zz hk;have HE:=zz hE;have qx:=(y7 wr.heap.size wr).alloc (y5 _) (.cells #[.string (st x.k),.string (st x.v),.bool x.gone] 96);have H5:Hid (z1O g Z P' c W0 (wr.alloc (.cells #[.string (st x.k),.string (st x.v),.bool x.gone] 96))):=⟨HT.out.1.later qx,HT.out.2.trans (Ptp.below qx)⟩;have HX:=zz (Blk.new wr 96 #[.string (st x.k),.string (st x.v),.bool x.gone]);clear hk hE qx HT;go_upto_region 5 with(fail)
   generalize hW5:wr.alloc (.cells #[.string (st x.k),.string (st x.v),.bool x.gone] 96)=W5 at*;clear hW5;generalize wr.heap.size=gx at*;have hx:=HX.out;have x0:(W5).cell? ⟨gx,0,none⟩=some (.string (st x.k)):=hx.cell 0;have x1:(W5).cell? ⟨gx,1,none⟩=some (.string (st x.v)):=hx.cell 1;have x2:(W5).cell? ⟨gx,2,none⟩=some (.bool x.gone):=hx.cell 2;clear hx;obtain⟨⟨D,t,hT,hL,hroom⟩,hk2⟩:=HK.out;subst hL;have HRM:=zz hroom;have HK2:=zz hk2;have hs5:=zz (HS.out.turn H5.out.2.turn HNS.out);have hb5:=zz (HB.out.turn H5.out.2.turn HNB.out);clear hroom hk2 HK c0 c1 c2;go_wp2_with fail
   refine(zIA hQ gs g gb Z P' c W5 H5.out.1 hT hs5.out hb5.out x HRM.out HDX.out).mono ?_;rintro e w6 ⟨rfl,hd6⟩;have RF:Hid (DoSt Q W0 w6 g Z c R (chgP P' c (Ct.cells D t) x) (z8v (Ct.cells D t) x) (l.drop (i+1))):=⟨⟨hd6.1,H5.out.2.trans hd6.2⟩,HK2.out,HE.out⟩;clear hd6 HK2 HE HRM hs5 hb5 hT x0 x1 x2 HDX;go_wp2_with fail
   go_roundw
   case rel=>exact⟨i+1,_,_,by go_num,by omega,RF⟩
   case measure=>simp [intOf];omega
  .obtain rfl:i=l.length:=by omega
   have hE:=RR.out.E;rw [Zr]at hE;have hF:z1O g Z R c w wr:=by
    have h1:=HT.out;rw [show P'=R from hE]at h1;exact⟨h1.1,HPT.out.trans h1.2⟩
   have HF:=zz hF;clear hF hE HT RR;go_wp2_with fail
   go_end0
   exact⟨rfl,HF.out⟩
end
section
open Go Tryz
theorem zB5:∀ {a b:List Cel},Asc a->Asc b->(∀c,c∈a↔c∈b)->a=b
 | [],[],_,_,_=>rfl
 | [],y::b,_,_,h=>by have:=(h y).2 (by simp);cases this
 |x::a,[],_,_,h=>by have:=(h x).1 (by simp);cases this
 |x::a,y::b,ha,hb,h=>by
  obtain⟨a1,a2⟩:=yh.1 ha;obtain⟨b1,b2⟩:=yh.1 hb;have hxy:x=y:=by
   rcases y9.1 ((h x).1 (by simp))with e|e
   .exact e
   .rcases y9.1 ((h y).2 (by simp))with e2|e2
    .exact e2.symm
    .exact absurd (a1 y e2) (b1 x e).not
  subst hxy
  congr 1
  refine zB5 a2 b2 fun c=>⟨fun hc=> ?_,fun hc=> ?_⟩
  .rcases y9.1 ((h c).1 (by simp [hc]))with e|e
   .subst e;exact absurd (a1 c hc) fun q=>q.irrefl
   .exact e
  .rcases y9.1 ((h c).2 (by simp [hc]))with e|e
   .subst e;exact absurd (b1 c hc) fun q=>q.irrefl
   .exact e
theorem zAN{L:List Cel}{k:Key}{y:Cel}(ha:Asc L):(y∈L/\y.1≠k)↔(y∈L.take (z05 L k)∨y∈L.drop (z05 L k+z4g L k)):=by
 constructor
 .rintro⟨h1,h2⟩;rw [<-yT (z05 L k) L]at h1;rcases yF.1 h1 with h|h
  .exact .inl h
  .right;unfold z4g;by_cases hk:isK L k=true
   .rw [yB hk];obtain⟨v,hv⟩:=zEw hk;rw [hv]at h;rcases y9.1 h with rfl|h
    .exact absurd rfl h2
    .exact h
   .rw [yA hk];exact h
 .rintro(h|h)
  .exact⟨yY h,(z5l h).ne⟩
  .exact⟨yo h,(z95 ha h).ne.symm⟩
theorem zHg{L:List Cel}(ha:Asc L){x y:Cel}:y∈putC L x↔(y∈L/\y.1≠x.1)∨y=x:=by
 rw [zAN ha];unfold putC;rw [yF,y9];constructor
 .rintro(h|rfl|h)
  .exact .inl (.inl h)
  .exact .inr rfl
  .exact .inl (.inr h)
 .rintro((h|h)|rfl)
  .exact .inl h
  .exact .inr (.inr h)
  .exact .inr (.inl rfl)
theorem zCa{L:List Cel}(ha:Asc L){k:Key}{y:Cel}:y∈delC L k↔(y∈L/\y.1≠k):=by
 rw [zAN ha];unfold delC;rw [yF]
theorem zHf{L:List Cel}(ha:Asc L)(x:Chg){y:Cel}:y∈z8v L x↔(y∈L/\y.1≠x.k)∨(x.gone=false/\y=(x.k,x.v)):=by
 obtain⟨k,v,gn⟩:=x;unfold z8v;cases gn with
 |true=>
  simp only [YN];by_cases hk:isK L k=true
  .rw [yB hk,zCa ha];simp
  .rw [yA hk];have hm:=zCa ha (k:=k) (y:=y);rw [zJK (by simpa using hk:isK L k=false)]at hm;constructor
   .intro h;exact .inl (hm.1 h)
   .rintro(h|⟨h,_⟩)
    .exact h.1
    .cases h
 |false=>
  simp only [yu,yv];rw [zHg ha];simp
theorem zCA{L:List Cel}(ha:Asc L)(x:Chg):Asc (z8v L x):=by
 unfold z8v
 split
 .split
  .exact ha.delC _
  .exact ha
 .exact ha.putC _
theorem z6d:∀ {xs:List Chg} {L:List Cel} (ha:Asc L),Asc (z2P L xs)
 | [],L,ha=>ha
 |x::xs,L,ha=>z6d (xs:=xs) (zCA ha x)
theorem z79:∀ {xs:List Chg} {L:List Cel} (ha:Asc L) (hd:xs.Pairwise fun a b=>a.k≠b.k) {y:Cel},y∈z2P L xs↔(y∈L/\∀x∈xs,y.1≠x.k)∨∃x∈xs,x.gone=false/\y=(x.k,x.v)
 | [],L,ha,_,y=>by simp [z2P]
 |x::xs,L,ha,hd,y=>by
  obtain⟨h1,h2⟩:=yh.1 hd;have ih:=z79 (zCA ha x) h2 (y:=y);rw [zHf ha]at ih;show y∈z2P (z8v L x) xs↔_;rw [ih];constructor
  .rintro(⟨(⟨a,b⟩|⟨a,b⟩),c⟩|⟨z,hz,a,b⟩)
   .exact .inl ⟨a,fun z hz=>by rcases y9.1 hz with rfl|hz;exact b;exact c z hz⟩
   .exact .inr ⟨x,by simp,a,b⟩
   .exact .inr ⟨z,by simp [hz],a,b⟩
  .rintro(⟨a,b⟩|⟨z,hz,a,b⟩)
   .exact .inl ⟨.inl ⟨a,b x (by simp)⟩,fun z hz=>b z (by simp [hz])⟩
   .rcases y9.1 hz with rfl|hz
    .exact .inl ⟨.inr ⟨a,b⟩,fun q hq=>by rw [b];exact h1 q hq⟩
    .exact .inr ⟨z,hz,a,b⟩
def setR(l:List Rw)(k:List UInt8)(vs:List Vsn):List Rw:=l.filter (fun r=>Op.bytesLess r.k k)++((if vs= []then []else [⟨k,vs⟩])++l.filter fun r=>Op.bytesLess k r.k)
theorem z4P{l:List Rw}{k:List UInt8}{vs:List Vsn}{r:Rw}:r∈setR l k vs↔(r∈l/\r.k≠k)∨(vs≠ []/\r=⟨k,vs⟩):=by
 unfold setR;rw [yF,yF,YD,YD,z0K,z0K];constructor
 .rintro(h|h|h)
  .exact .inl ⟨h.1,h.2.ne⟩
  .by_cases e:vs= []
   .rw [yB e]at h;cases h
   .rw [yA e]at h;exact .inr ⟨e,by simpa using h⟩
  .exact .inl ⟨h.1,h.2.ne.symm⟩
 .rintro(h|h)
  .rcases z76 (a:=r.k) (b:=k)with q|q|q
   .exact .inl ⟨h.1,q⟩
   .exact absurd q h.2
   .exact .inr (.inr ⟨h.1,q⟩)
  .rw [yA h.1];exact .inr (.inl (by simp [h.2]))
theorem RowsOk.set{l:List Rw}(h:RowsOk l){k:List UInt8}{vs:List Vsn}(hr:vs≠ []->RwOk ⟨k,vs⟩):RowsOk (setR l k vs):=by
 refine⟨fun r hm=> ?_,?_⟩
 .rcases z4P.1 hm with h1|h1
  .exact h.rw r h1.1
  .rw [h1.2];exact hr h1.1
 .unfold setR;rw [YL,YL];refine⟨h.asc.filter _,⟨?_,h.asc.filter _,?_⟩,?_⟩
  .split
   .exact List.Pairwise.nil
   .exact ZT _ _
  .intro a ha b hb;have hb:=z0K.1 (YD.1 hb).2
   split at ha
   .cases ha
   .obtain rfl:=yJ.1 ha;exact hb
  .intro a ha b hb;have ha:=z0K.1 (YD.1 ha).2;rcases yF.1 hb with hb|hb
   .split at hb
    .cases hb
    .obtain rfl:=yJ.1 hb;exact ha
   .exact ha.trans (z0K.1 (YD.1 hb).2)
theorem zCo{l:List Rw}(h:RowsOk l){r q:Rw}(hr:r∈l)(hq:q∈l)(e:r.k=q.k):r=q:=by
 have:=h.asc;clear h
 induction l with
 |nil=>cases hr
 |cons a l ih=>
  obtain⟨h1,h2⟩:=yh.1 this;rcases y9.1 hr with e1|hr'
  .rcases y9.1 hq with e2|hq'
   .rw [e1,e2]
   .exact absurd (e1▸e) (h1 q hq').ne
  .rcases y9.1 hq with e2|hq'
   .exact absurd (e2▸e).symm (h1 r hr').ne
   .exact ih hr' hq' h2
theorem z4S{l:List Rw}{key:List UInt8}{x:Vsn}(h:x∈z1Y l key):∃r∈l,r.k=key/\r.vs=z1Y l key:=by
 unfold z1Y at h ⊢
 split at h
 .rename_i r hr;have:=Yu hr;exact⟨r,yr hr,by simpa using this,rfl⟩
 .cases h
theorem z5Q{l:List Rw}(h:RowsOk l){r:Rw}(hr:r∈l):z1Y l r.k=r.vs:=by
 unfold z1Y
 split
 .rename_i q hq;have h1:=yr hq;have h2:q.k=r.k:=by simpa using Yu hq
  rw [zCo h h1 hr h2]
 .rename_i hn;have:=Yk.1 hn r hr;simp at this
theorem zAr{l:List Rw}{key:List UInt8}(h:∀r∈l,r.k≠key):z1Y l key= []:=by
 unfold z1Y
 split
 .rename_i q hq;exact absurd (by simpa using Yu hq) (h q (yr hq))
 .rfl
theorem z9J{l:List Rw}{k:List UInt8}{vs:List Vsn}{c:Cel}:c∈z0x (setR l k vs)↔(∃r∈l,r.k≠k/\c∈rwC r)∨c∈rwC ⟨k,vs⟩:=by
 unfold z0x;rw [YE];constructor
 .rintro⟨r,hr,hc⟩;rcases z4P.1 hr with h|h
  .exact .inl ⟨r,h.1,h.2,hc⟩
  .rw [h.2]at hc;exact .inr hc
 .rintro(⟨r,hr,hk,hc⟩|hc)
  .exact⟨r,z4P.2 (.inl ⟨hr,hk⟩),hc⟩
  .refine⟨⟨k,vs⟩,z4P.2 (.inr ⟨fun e=> ?_,rfl⟩),hc⟩;subst e;cases hc
def zEN(l:List Rw)(key:List UInt8)(x:Vsn):List Rw:=setR l key (z1Y l key++ [x])
theorem z4O{r:Rw}{c:Cel}:c∈rwC r↔∃x∈r.vs,c=z7s r.k x:=by
 refine⟨z3e,?_⟩;rintro⟨x,hx,rfl⟩;exact yP.2 ⟨x,Zu.2 hx,rfl⟩
theorem zHe{l:List Rw}(h:RowsOk l){key:List UInt8}{x:Vsn}{c:Cel}:c∈z0x (zEN l key x)↔c∈z0x l∨c=z7s key x:=by
 unfold zEN;rw [z9J];constructor
 .rintro(⟨r,hr,hk,hc⟩|hc)
  .exact .inl (YE.2 ⟨r,hr,hc⟩)
  .obtain⟨y,hy,rfl⟩:=z3e hc;rcases yF.1 hy with hy|hy
   .obtain⟨r,hr,hk,hv⟩:=z4S hy;exact .inl (YE.2 ⟨r,hr,z4O.2 ⟨y,hv▸hy,by rw [hk]⟩⟩)
   .obtain rfl:=yJ.1 hy;exact .inr rfl
 .rintro(hc|rfl)
  .obtain⟨r,hr,hc⟩:=YE.1 hc;by_cases e:r.k=key
   .right;subst e;obtain⟨y,hy,rfl⟩:=z3e hc;rw [z5Q h hr];exact z4O.2 ⟨y,by simp [hy],rfl⟩
   .exact .inl ⟨r,hr,e,hc⟩
  .exact .inr (z4O.2 ⟨x,by simp,rfl⟩)
structure Wri where
 k:List UInt8
 v:List UInt8
 gone:Bool
def Wri.vs(at_:Nat)(x:Wri):Vsn:=⟨at_,x.v,x.gone⟩
structure Wri.Ok(x:Wri):Prop where
 k0:x.k≠ []
 k64:x.k.length<=64
 v:x.v.length<=256
 g:x.gone=true->x.v= []
def z2f(at_:Nat):List Rw->List Wri->List Rw:=List.foldl fun l w=>zEN l w.k (w.vs at_)
def wriC(at_:Nat)(w:Wri):Chg:=⟨z10 w.k at_,z90 (w.vs at_),false⟩
def z0b(at_ hor:Nat)(ws:List Wri):List Chg:=⟨ttlK,z62 at_ hor,false⟩::ws.map (wriC at_)
def zDC(l:List Rw)(at_:Nat):Prop:=∀r∈l,∀x∈r.vs,x.t<at_
theorem RowsOk.add{l:List Rw}(h:RowsOk l){at_:Nat}{w:Wri}(hu:∀x∈z1Y l w.k,x.t<at_)(hw:w.Ok)(h0:0<at_)(h64:at_<U64):RowsOk (zEN l w.k (w.vs at_)):=by
 refine h.set fun _=>⟨hw.k0,hw.k64,by simp,?_,fun x hx=> ?_⟩
 .rw [YL];refine⟨?_,ZT _ _,fun a ha b hb=> ?_⟩
  .cases hv:z1Y l w.k with
   |nil=>exact List.Pairwise.nil
   |cons a r=>
    obtain⟨q,hq,_,hv2⟩:=z4S (l:=l) (key:=w.k) (x:=a) (by rw [hv];simp);rw [<-hv,<-hv2];exact(h.rw q hq).asc
  .obtain rfl:=yJ.1 hb;exact hu a ha
 .rcases yF.1 hx with hx|hx
  .obtain⟨q,hq,_,hv2⟩:=z4S hx;exact(h.rw q hq).vs x (hv2▸hx)
  .obtain rfl:=yJ.1 hx;exact⟨h0,h64,hw.v,hw.g⟩
theorem zIR{l:List Rw}{key k:List UInt8}{x:Vsn}(h:RowsOk l)(hk:k≠key):z1Y (zEN l key x) k=z1Y l k:=by
 have hp:∀ (a b:List Rw),z1Y (a++b) k=if(a.find? fun r=>r.k==k).isSome then z1Y a k else z1Y b k:=by
  intro a b;unfold z1Y;rw [List.find?_append];cases a.find? fun r=>r.k==k with
  |none=>rfl
  |some r=>rfl
 have hin:∀q,q∈zEN l key x->q.k=k->q∈l:=fun q hq e=>by
  rcases z4P.1 hq with hq|hq
  .exact hq.1
  .rw [hq.2]at e;exact absurd e.symm hk
 have hout:∀q∈l,q.k=k->q∈zEN l key x:=fun q hq e=>z4P.2 (.inl ⟨hq,by rw [e];exact hk⟩)
 by_cases hx:∃q∈l,q.k=k
 .obtain⟨q,hq,e⟩:=hx;have hd:∀a∈zEN l key x,∀b∈zEN l key x,a.k=k->b.k=k->a=b:=fun a ha b hb e1 e2=>zCo h (hin a ha e1) (hin b hb e2) (e1.trans e2.symm)
  have e1:z1Y (zEN l key x) k=q.vs:=by
   unfold z1Y
   split
   .rename_i r hr;have hrk:r.k=k:=by simpa using Yu hr
    rw [hd r (yr hr) q (hout q hq e) hrk e]
   .rename_i hn;exact absurd (by simpa using e) (Yk.1 hn q (hout q hq e))
  rw [e1,<-e,z5Q h hq]
 .rw [zAr fun r hr e=>hx ⟨r,hr,e⟩,zAr fun r hr e=>hx ⟨r,hin r hr e,e⟩]
theorem z4n:∀ {ws:List Wri} {l:List Rw} {at_:Nat},RowsOk l->(∀w∈ws,w.Ok/\∀x∈z1Y l w.k,x.t<at_)->(ws.Pairwise fun a b=>a.k≠b.k)->0<at_->at_<U64->RowsOk (z2f at_ l ws)/\∀c,c∈z0x (z2f at_ l ws)↔c∈z0x l∨∃w∈ws,c=z7s w.k (w.vs at_)
 | [],l,at_,h,_,_,_,_=>⟨h,fun c=>by simp [z2f]⟩
 |w::ws,l,at_,h,hw,hd,h0,h64=>by
  obtain⟨d1,d2⟩:=yh.1 hd;have h1:=h.add (hw w (by simp)).2 (hw w (by simp)).1 h0 h64;obtain⟨i1,i2⟩:=z4n (ws:=ws) h1 (fun q hq=>⟨(hw q (by simp [hq])).1,fun x hx=>(hw q (by simp [hq])).2 x (by rwa [zIR h (d1 q hq).symm]at hx)⟩) d2 h0 h64;refine⟨i1,fun c=> ?_⟩;show c∈z0x (z2f at_ (zEN l w.k (w.vs at_)) ws)↔_;rw [i2 c,zHe h];constructor
  .rintro((a|a)|⟨q,hq,a⟩)
   .exact .inl a
   .exact .inr ⟨w,by simp,a⟩
   .exact .inr ⟨q,by simp [hq],a⟩
  .rintro(a|⟨q,hq,a⟩)
   .exact .inl (.inl a)
   .rcases y9.1 hq with rfl|hq
    .exact .inl (.inr a)
    .exact .inr ⟨q,hq,a⟩
theorem z43{l:List Rw}{c:Cel}:c∈z0x l↔∃r∈l,∃x∈r.vs,c=z7s r.k x:=by
 unfold z0x;rw [YE];simp only [z4O]
theorem zA4{l:List Rw}{tl:List Cel}(h:RowsOk l)(ht:zEK tl){ws:List Wri}{at_:Nat}(hor:Nat)(hu:zDC l at_)(hw:∀w∈ws,w.Ok)(hd:ws.Pairwise fun a b=>a.k≠b.k)(h0:0<at_)(h64:at_<U64):
 RowsOk (z2f at_ l ws)/\z2P (vwC l tl) (z0b at_ hor ws)=vwC (z2f at_ l ws) [(ttlK,z62 at_ hor)]:=by
 obtain⟨h1,h2⟩:=z4n h (fun w hm=>⟨hw w hm,fun x hx=>by obtain⟨r,hr,_,hv⟩:=z4S hx;exact hu r hr x (hv▸hx)⟩) hd h0 h64;refine⟨h1,zB5 (z6d (z4w h ht)) (z4w h1 (.inr ⟨_,rfl⟩)) fun c=> ?_⟩;have hpw:(z0b at_ hor ws).Pairwise fun a b=>a.k≠b.k:=by
  unfold z0b;rw [yh,Zk];refine⟨fun y hy=> ?_,hd.imp fun {a b} hab e=>hab (z2z h64 h64 e).1⟩;obtain⟨w,_,rfl⟩:=yP.1 hy;exact(z4J w.k at_).ne.symm
 rw [z79 (z4w h ht) hpw];unfold vwC;rw [yF,yF,h2 c,yJ];unfold z0b;constructor
 .rintro(⟨(a|a),b⟩|⟨x,hx,a,b⟩)
  .exact .inl (.inl a)
  .exfalso;rcases ht with rfl|⟨v,rfl⟩
   .cases a
   .obtain rfl:=yJ.1 a;exact b ⟨ttlK,z62 at_ hor,false⟩ (by simp) rfl
  .rcases y9.1 hx with rfl|hx
   .exact .inr b
   .obtain⟨w,hw2,rfl⟩:=yP.1 hx;exact .inl (.inr ⟨w,hw2,b⟩)
 .rintro((a|⟨w,hw2,a⟩)|a)
  .refine .inl ⟨.inl a,fun x hx=> ?_⟩;obtain⟨r,hr,y,hy,rfl⟩:=z43.1 a;rcases y9.1 hx with rfl|hx
   .exact(z4J r.k y.t).ne
   .obtain⟨w,hw2,rfl⟩:=yP.1 hx;intro e;have:=(z2z ((h.rw r hr).vs y hy).t64 h64 e).2;have:=hu r hr y hy;omega
  .exact .inr ⟨wriC at_ w,ym _ (yP.2 ⟨w,hw2,rfl⟩),rfl,a⟩
  .exact .inr ⟨⟨ttlK,z62 at_ hor,false⟩,by simp,rfl,a⟩
end
section
open Go Go.RowKit Tryz
def stKs:List (Option TypeId):= [some 208,some 212,some 5,some 202,some 120]
theorem Ptp.sameK{ks:List (Option TypeId)}{Z Z':Pz}{w w':World}{P:Pgr}(s:Ptp Z w Z' w')(p:Pg w Z P)(h1:some 199∉ks)(h2:some 246∉ks)(h3:some 145∉ks)(h0:none∉ks)(h4:some 288∉ks):SameK ks w w':=fun b t ht hb=>
 s.turn.block b (z5a hb) fun e=>by
  rcases p.kinds e with h|h|h|h|h
  .exact SameK.not h h1 hb ht
  .exact SameK.not h h2 hb ht
  .exact SameK.not h h3 hb ht
  .exact SameK.not h h0 hb ht
  .exact SameK.not h h4 hb ht
theorem Lg.tree{Z:Pz}{w w':World}{P P':Pgr}{gl:Nat}{l:Wl}(g:Lg w gl Z.h l)(s:Ptp Z w Z w')(p:Pg w Z P)(p':Pg w' Z P')(hD:P'.D=P.D)(hl:l.D=P.D):Lg w' gl Z.h l:=by
 obtain⟨lv,sv,g⟩:=g;have hs:SameK stKs w w':=s.sameK p (by decide) (by decide) (by decide) (by decide) (by decide);exact⟨lv,sv,by rw [hl,<-hD];exact p'.dk,g.lb.sameK hs (by decide),KSl.same g.live hs (by decide),g.str.same hs (by decide)⟩
def Pgr.on(P:Pgr)(D:Dsk):Pgr:={P with D:=D}
def Pz.on(Z:Pz)(h:Zn):Pz:={Z with h:=h}
theorem Wrt.at{w w':World}{b:Nat}{f:SF}(h:Wrt w b f)(hb:w'.heap[b]? =w.heap[b]?)(hs:SameK [some 5] w w'):Wrt w' b f:=by
 refine⟨h.in90,?_⟩;obtain⟨m,hm,hr⟩:=h.mp;exact⟨m,hm.at hb,fun a ha=>(hr a ha).keep fun _ _ h=>h.same hs (by decide)⟩
theorem Pg.log{Z:Pz}{w w':World}{P:Pgr}{gl:Nat}{h':Zn}{D':Dsk}{cs:Array Value}(p:Pg w Z P)(k:Dk w' h' D')(m:Mtp Z.h gl w h' w')(hl:Blk w gl 208 cs):Pg w' (Z.on h') (P.on D'):=by
 have hs:SameK [some 246,some 199,some 5] w w':=m.sameL p.dk hl (by decide) (by decide) (by decide) (by decide);have hk:∀b,b<w.heap.size->z0G w b=some none->¬Z.h.has b->w'.heap[b]? =w.heap[b]? :=fun b hb hk hn=>m.turn.block b hb (by
  rintro(e|e)
  .exact hn e
  .subst e;rw [z0I hl]at hk;cases hk)
 have hn:∀b,b<w.heap.size->¬Z.h.has b->¬h'.has b:=fun b hb hn e=>(m.has b e).elim hn fun h=>by omega
 have hb:=p.blk.sameK hs (by decide);have hm:=p.mt.blk.sameK hs (by decide);exact⟨k,⟨by show Blk w' Z.gm _ #[.pointer (some ⟨h'.g,0,none⟩),_,_,_];rw [m.g];exact hm⟩,by show Blk w' Z.g _ #[.pointer (some ⟨h'.g,0,none⟩),_,_,_,_,_,_,_];rw [m.g];exact hb,
  p.tb.at (hk _ p.tb.lt p.tb.kind p.m1),p.wr.at (hk _ p.wr.lt p.wr.kind p.m2) (hs.less (by decide)),p.gn.at (hk _ p.gn.lt p.gn.kind p.m3),p.n1,p.n2,p.n3,hn _ p.tb.lt p.m1,hn _ p.wr.lt p.m2,hn _ p.gn.lt p.m3⟩
theorem zJG{w:World}{gl hg:Nat}{a:Int}{n size:Nat}{lv sv:Value}{last synced:Nat}(h:BitsOk w)(hl:Lb w gl hg a n size lv sv last synced):gl≠0:=by
 rintro rfl;have h0:=h 0 (by omega);rw [Blk.cell hl 0]at h0;cases h0
theorem Tg.log{Z:Pz}{w w':World}{P:Pgr}{c:Int->List UInt8}{g gl hg n size last synced:Nat}{a:Int}{lv sv:Value}{h':Zn}{D':Dsk}(t:Tg w g Z P c)(k:Dk w' h' D')(m:Mtp Z.h gl w h' w')(hl:Lb w gl hg a n size lv sv last synced)(hok:D'.Ok)(hst:z5v D' P.a P.tb c):Tg w' g (Z.on h') (P.on D') c:=by
 have hs:SameK [some 202] w w':=m.sameL t.pg.dk hl (by decide) (by decide) (by decide) (by decide);have hz:¬Z.h.has 0:=fun h=>t.z0 (.inr (.inr (.inr (.inr (.inr h)))))
 refine⟨t.pg.log k m hl,t.blk.sameK hs (by decide),⟨hok,hst,t.pr.wlen,t.pr.a0,t.pr.a1⟩,fun i hi=> ?_,?_⟩
 .have hb:=m.turn.block 0 t.bits.pos (by
   rintro(e|e)
   .exact hz e
   .exact zJG t.bits hl e.symm)
  rw [<-t.bits i hi];unfold World.cell?;rw [hb]
 .have hp:=t.bits.pos;rintro(e|e|e|e|e|e)
  .exact t.z0 (.inl e)
  .exact t.z0 (.inr (.inl e))
  .exact t.z0 (.inr (.inr (.inl e)))
  .exact t.z0 (.inr (.inr (.inr (.inl e))))
  .exact t.z0 (.inr (.inr (.inr (.inr (.inl e)))))
  .rcases m.has 0 e with h|h
   .exact hz h
   .omega
structure Sop(gl:Nat)(Z:Pz)(w:World)(Z':Pz)(w':World):Prop where
 g:Z'.g=Z.g
 hg:Z'.h.g=Z.h.g
 turn:Turn (fun b=>Z.has b∨b=gl) w w'
 has:∀b,Z'.has b->Z.has b∨w.heap.size<=b
section
variable {gl:Nat} {Z Z1 Z':Pz} {w w1 w':World}
theorem Sop.below(hb:Below w.heap.size w w'):Sop gl Z w Z w':=⟨rfl,rfl,Turn.of_below hb,fun _ h=> .inl h⟩
theorem Sop.trans(a:Sop gl Z w Z1 w1)(b:Sop gl Z1 w1 Z' w'):Sop gl Z w Z' w':=
 ⟨b.g.trans a.g,b.hg.trans a.hg,a.turn.trans b.turn (fun x hx=>hx.elim (fun h=>(a.has x h).elim (fun h=> .inl (.inl h)) .inr) fun h=> .inl (.inr h)),fun x hx=>(b.has x hx).elim (a.has x) fun h=> .inr (yD a.turn.size h)⟩
theorem Sop.ptp(s:Ptp Z w Z' w'):Sop gl Z w Z' w':=⟨s.g,s.hg,s.turn.mono fun b hb _=> .inl hb,s.has⟩
theorem Sop.mtp{h':Zn}(m:Mtp Z.h gl w h' w'):Sop gl Z w (Z.on h') w':=⟨rfl,m.g,m.turn.mono fun b hb _=>hb.elim (fun h=> .inl (.inr (.inr (.inr (.inr (.inr h)))))) .inr,fun b hb=>by
 rcases hb with e|e|e|e|e|e
 .exact .inl (.inl e)
 .exact .inl (.inr (.inl e))
 .exact .inl (.inr (.inr (.inl e)))
 .exact .inl (.inr (.inr (.inr (.inl e))))
 .exact .inl (.inr (.inr (.inr (.inr (.inl e)))))
 .exact(m.has b e).imp (fun h=> .inr (.inr (.inr (.inr (.inr h))))) id⟩
end
structure Sto(w:World)(gs g gl:Nat)(Z:Pz)(P:Pgr)(c:Int->List UInt8)(l:Wl):Prop where
 blk:Blk w gs 120 #[.pointer (some ⟨g,0,none⟩),.pointer (some ⟨Z.g,0,none⟩),.pointer (some ⟨gl,0,none⟩)]
 T:Tg w g Z P c
 lg:Lg w gl Z.h l
 D:l.D=P.D
 ok:l.Ok
section
variable {gs g gl:Nat} {Z:Pz} {w w':World} {P P':Pgr} {c:Int->List UInt8} {l l':Wl}
theorem Sto.later(s:Sto w gs g gl Z P c l)(hb:Below w.heap.size w w'):Sto w' gs g gl Z P c l:=⟨s.blk.later hb,s.T.later hb,s.lg.later hb,s.D,s.ok⟩
theorem Sto.tree(s:Sto w gs g gl Z P c l)(d:z1O g Z P' c w w')(hD:P'.D=P.D):Sto w' gs g gl Z P' c l:=by
 have hs:SameK stKs w w':=d.2.sameK s.T.pg (by decide) (by decide) (by decide) (by decide) (by decide);exact⟨s.blk.sameK hs (by decide),d.1,s.lg.tree d.2 s.T.pg d.1.pg hD s.D,by rw [hD];exact s.D,s.ok⟩
theorem Sto.log(s:Sto w gs g gl Z P c l){h':Zn}(hl:Lg w' gl h' l')(m:Mtp Z.h gl w h' w')(hok:l'.Ok)(hst:z5v l'.D P.a P.tb c):Sto w' gs g gl (Z.on h') (P.on l'.D) c l':=by
 obtain⟨lv,sv,v⟩:=s.lg;have hs:SameK [some 120] w w':=m.sameL s.T.pg.dk v.lb (by decide) (by decide) (by decide) (by decide);obtain⟨_,_,v'⟩:=id hl;exact⟨s.blk.sameK hs (by decide),s.T.log v'.dk m v.lb hok.dok hst,hl,rfl,hok⟩
end
end
section
open Go Tryz
def QV:Prm:=⟨1,2,139⟩
theorem zDu:QV.Ok:=⟨by decide,by decide,by decide,by decide,by decide,by decide⟩
def Tv(P:Pgr)(c:Int->List UInt8)(D:Nat)(t:Ct D):Prop:=Tree QV P c D t/\D<=3/\1+(Ct.subs D t).length+z5c D<=90
def VT(P:Pgr)(c:Int->List UInt8)(L:List Cel):Prop:=∃D,∃t:Ct D,Tv P c D t/\Ct.cells D t=L
theorem Tree.onV{Q:Prm}{P:Pgr}{c:Int->List UInt8}{D:Nat}{t:Ct D}(T:Tree Q P c D t)(D':Dsk):Tree Q (P.on D') c D t:=by
 obtain⟨⟨a1,a2⟩,h2,h3,h4,h5,h6⟩:=T;exact⟨⟨a1,a2⟩,h2,h3,h4,h5,h6⟩
theorem VT.on{P:Pgr}{c:Int->List UInt8}{L:List Cel}(h:VT P c L)(D':Dsk):VT (P.on D') c L:=by
 obtain⟨D,t,⟨T,a,b⟩,e⟩:=h;exact⟨D,t,⟨T.onV D',a,b⟩,e⟩
theorem zD2(D:Nat)(t:Ct D):wS z9m D t+wS wHi D t=1+(Ct.subs D t).length:=by
 rw [<-z5t D t];exact zD3 z9m wHi _ (fun h n=>by unfold z9m wHi;split<;>split<;>omega) D t
theorem zGq{D:Nat}(h:D<=3):zIc QV D:=⟨rfl,rfl,by decide,h⟩
theorem zJj(D:Nat):z5c D<=1:=by unfold z5c;split<;>omega
theorem z7X{c:Int->List UInt8}:∀ (ps:List Chg) (P:Pgr) {D0 l0 h0 f0 k:Nat} {L:List Cel} {D:Nat} {t:Ct D},Bat QV P c D0 l0 h0 f0 k L D t->1+(Ct.subs D t).length+z5c D<=90->∀ {n:Nat},k+ps.length<=n->n<=11->l0+h0+8+2*n<=90->
 (∀x∈ps,x.gone=false/\x.k.length<=139/\x.k.length+x.v.length<=480)->ChRuns QV c P L ps/\VT (chgsP c P L ps) c (z2P L ps)
 | [],P,D0,l0,h0,f0,k,L,D,t,b,hs,n,_,_,_,_=>⟨trivial,D,t,⟨b.tree,b.d3,hs⟩,b.cells⟩
 |x::ps,P,D0,l0,h0,f0,k,L,D,t,b,hs,n,hk,hn,hr,hx=>by
  rw [y8]at hk;obtain⟨hg,hxk,hxl⟩:=hx x (by simp);have hroom:=b.room zDu (n:=n) (by omega) hr;obtain⟨-,-,-,D',t',b',hs'⟩:=b.put zDu (by decide) (n:=n) (by omega) hn hr (x:=(x.k,x.v)) hxk hxl;have eP:chgP P c L x=(putW P c (x.k,x.v)).1:=by unfold chgP;rw [hg];rfl
  have eC:z8v L x=putC L (x.k,x.v):=by unfold z8v;rw [hg];rfl
  have hlow:=zJj D';obtain⟨h1,h2⟩:=z7X ps (putW P c (x.k,x.v)).1 b' (by omega) (n:=n) (by omega) hn hr fun y hy=>hx y (by simp [hy])
  refine⟨⟨⟨D,t,b.tree,b.cells,?_⟩,by rw [eP,eC];exact h1⟩,?_⟩
  .unfold z6X;rw [hg];exact⟨hxk,hxl,hroom⟩
  .show VT (chgsP c (chgP P c L x) (z8v L x) ps) c (z2P (z8v L x) ps);rw [eP,eC];exact h2
theorem zAh{c:Int->List UInt8}:∀ (ds:List Chg) (P:Pgr) (L:List Cel),VT P c L->(∀x∈ds,x.gone=true)->ChRuns QV c P L ds/\VT (chgsP c P L ds) c (z2P L ds)
 | [],P,L,h,_=>⟨trivial,h⟩
 |x::ds,P,L,⟨D,t,⟨T,hd,hs⟩,e⟩,hx=>by
  have hg:=hx x (by simp);have hroom:z6X QV D t x:=by
   unfold z6X;rw [hg];exact fun _=> .inr ⟨zGq hd,hs⟩
  have hnext:VT (chgP P c L x) c (z8v L x):=by
   unfold chgP z8v;rw [hg];simp only [YN];by_cases hk:isK L x.k=true
   .rw [yB hk,yB hk];subst e;obtain⟨w,h1,h2,h3,h4,D',t',r⟩:=zIh zDu T hk (.inr ⟨zGq hd,hs⟩);rw [zEt h1 (by omega)];obtain⟨a,b⟩:=r.weak (zGq hd);exact⟨D',t',⟨r.tree,a,b⟩,r.cells⟩
   .rw [yA hk,yA hk];exact⟨D,t,⟨T,hd,hs⟩,e⟩
  obtain⟨h1,h2⟩:=zAh ds _ _ hnext fun y hy=>hx y (by simp [hy])
  exact⟨⟨⟨D,t,T,e,hroom⟩,h1⟩,h2⟩
theorem zEZ(L:List Cel)(a b:List Chg):z2P L (a++b)=z2P (z2P L a) b:=by unfold z2P;rw [Qc]
theorem z9y(c:Int->List UInt8):∀ (a b:List Chg) (P:Pgr) (L:List Cel),chgsP c P L (a++b)=chgsP c (chgsP c P L a) (z2P L a) b
 | [],b,P,L=>rfl
 |x::a,b,P,L=>by
  rw [Y8,chgsP,chgsP,z9y c a b];rfl
theorem ChRuns.app{Q:Prm}{c:Int->List UInt8}:∀ {a b:List Chg} {P:Pgr} {L:List Cel},ChRuns Q c P L a->ChRuns Q c (chgsP c P L a) (z2P L a) b->ChRuns Q c P L (a++b)
 | [],b,P,L,_,h=>h
 |x::a,b,P,L,h,h2=>⟨h.1,ChRuns.app h.2 h2⟩
theorem zGe{P:Pgr}{c:Int->List UInt8}{L:List Cel}(h:VT P c L){ps:List Chg}(hp:∀x∈ps,x.gone=false/\x.k.length<=139/\x.k.length+x.v.length<=480)(hm:z3s P ps=0):
 ∀D',ChRuns QV c (P.on D') L ps/\VT (chgsP c (P.on D') L ps) c (z2P L ps):=by
 intro D';obtain⟨D,t,⟨T0,hd3,hs⟩,e⟩:=h;obtain⟨m1,-,m3⟩:=z9H hm;have hpn:z2A ps=ps.length:=by
  unfold z2A;rw [Ys.2 fun x hx=>by simp [(hp x hx).1]]
 have hlen:P.pages.length=1+(Ct.subs D t).length:=by
  have:=T0.rep.len;simpa [z8q,Qj]using this
 have T:=T0.onV D';have hlh:=zD2 D t;subst e;exact z7X ps (P.on D') (z9w T hd3) hs (n:=ps.length) (by omega) (by omega) (by omega) hp
theorem zGf{P:Pgr}{c:Int->List UInt8}{L:List Cel}(h:VT P c L){ps ds:List Chg}(hp:∀x∈ps,x.gone=false/\x.k.length<=139/\x.k.length+x.v.length<=480)(hd:∀x∈ds,x.gone=true)(hm:z3s P (ps++ds)=0):
 ∀D',ChRuns QV c (P.on D') L (ps++ds)/\VT (chgsP c (P.on D') L (ps++ds)) c (z2P L (ps++ds)):=by
 intro D';obtain⟨D,t,⟨T0,hd3,hs⟩,e⟩:=h;obtain⟨m1,-,m3⟩:=z9H hm;have hpn:z2A (ps++ds)=ps.length:=by
  rw [z7M];unfold z2A;rw [Ys.2 fun x hx=>by simp [(hp x hx).1],YX.2 fun x hx=>by simp [hd x hx]];rfl
 rw [y6]at m1;have hlen:P.pages.length=1+(Ct.subs D t).length:=by
  have:=T0.rep.len;simpa [z8q,Qj]using this
 have T:=T0.onV D';have hlh:=zD2 D t;subst e;obtain⟨a1,a2⟩:=z7X ps (P.on D') (z9w T hd3) hs (n:=ps.length) (by omega) (by omega) (by omega) hp;obtain⟨b1,b2⟩:=zAh ds _ _ a2 hd;exact⟨a1.app b1,by rw [z9y,zEZ];exact b2⟩
def z0O(vs:List Vsn)(at_:Nat):Nat:=(vs.takeWhile fun x=>decide (x.t<=at_)).length
def z1D(vs:List Vsn)(i:Nat):Bool:=match vs[i-1]? with
 |some x=>decide (0<i)&& !x.gone
 |none=>false
def z0s(vs:List Vsn)(at_:Nat):Nat:=if z1D vs (z0O vs at_)then z0O vs at_-1 else z0O vs at_
def z5u(vs:List Vsn):Prop:=vs.Pairwise fun a b=>a.t<b.t
theorem z3F(vs:List Vsn)(at_:Nat):z0O vs at_<=vs.length:=(List.takeWhile_prefix _).length_le
theorem z5A(vs:List Vsn)(at_:Nat):z0s vs at_<=vs.length:=by
 have:=z3F vs at_;unfold z0s
 split<;>omega
theorem z4H:∀ {vs:List Vsn},z5u vs->∀ {at_ k:Nat} (hk:k<vs.length),k<z0O vs at_↔vs[k].t<=at_
 | [],_,at_,k,hk=>by simp at hk
 |x::vs,h,at_,k,hk=>by
  obtain⟨h1,h2⟩:=yh.1 h;unfold z0O;rw [Y0];by_cases hx:x.t<=at_
  .rw [yB (by simpa using hx),y8];cases k with
   |zero=>simpa using hx
   |succ k=>
    rw [y8]at hk;have:=z4H h2 (at_:=at_) (k:=k) (by omega);unfold z0O at this;rw [Za,<-this];omega
  .rw [yA (by simpa using hx)];simp only [yW,Nat.not_lt_zero,false_iff];cases k with
   |zero=>simpa using hx
   |succ k=>
    rw [y8]at hk;have:=h1 vs[k] (yQ _);rw [Za];omega
def z3W(cap at_:Nat):List Rw->Nat->List Rw×Nat
 | [],n=>([],n)
 |r::l,n=>((if r.vs.drop (min (z0s r.vs at_) (cap-n))= []then []else [⟨r.k,r.vs.drop (min (z0s r.vs at_) (cap-n))⟩])++(z3W cap at_ l (n+min (z0s r.vs at_) (cap-n))).1,(z3W cap at_ l (n+min (z0s r.vs at_) (cap-n))).2)
def z1k(cap at_:Nat):List Rw->Nat->List (List UInt8×Vsn)
 | [],n=> []
 |r::l,n=>(r.vs.take (min (z0s r.vs at_) (cap-n))).map (fun x=>(r.k,x))++z1k cap at_ l (n+min (z0s r.vs at_) (cap-n))
theorem z8y{cap at_:Nat}:∀ (a b:List Rw) (n:Nat),z1k cap at_ (a++b) n=z1k cap at_ a n++z1k cap at_ b (z3W cap at_ a n).2
 | [],b,n=>rfl
 |r::a,b,n=>by
  rw [Y8,z1k,z8y a b,z1k,z3W];simp only [yM]
theorem z1n{cap at_:Nat}:∀ (l:List Rw) (n:Nat),(z3W cap at_ l n).2=n+(z1k cap at_ l n).length
 | [],n=>rfl
 |r::l,n=>by
  have:=z5A r.vs at_;rw [z3W,z1k,y6,yw,yC];simp only;rw [z1n l];omega
theorem z5Y{cap at_:Nat}:∀ (l:List Rw) {n:Nat},n<=cap->(z3W cap at_ l n).2<=cap
 | [],n,h=>h
 |r::l,n,h=>by
  rw [z3W];simp only;exact z5Y l (by omega)
theorem zA1{cap at_:Nat}:∀ (l:List Rw),z1k cap at_ l cap= []
 | []=>rfl
 |r::l=>by
  rw [z1k,Zs,Nat.min_zero,YQ,zA1 l];rfl
theorem z9I{cap at_:Nat}:∀ {l:List Rw} {n:Nat} {r:Rw},r∈(z3W cap at_ l n).1->∃q∈l,∃d,r=⟨q.k,q.vs.drop d⟩/\q.vs.drop d≠ []
 | [],n,r,h=>by cases h
 |q::l,n,r,h=>by
  rw [z3W]at h;simp only at h;rcases yF.1 h with h|h
  .split at h
   .cases h
   .rename_i hne;exact⟨q,by simp,_,yJ.1 h,hne⟩
  .obtain⟨q',hq,d,e⟩:=z9I h;exact⟨q',by simp [hq],d,e⟩
theorem z6I{cap at_:Nat}:∀ {l:List Rw} {n:Nat} {y:List UInt8×Vsn},y∈z1k cap at_ l n->∃r∈l,r.k=y.1/\y.2∈r.vs
 | [],n,y,h=>by cases h
 |r::l,n,y,h=>by
  rw [z1k]at h;rcases yF.1 h with h|h
  .obtain⟨x,hx,rfl⟩:=yP.1 h;exact⟨r,by simp,rfl,yY hx⟩
  .obtain⟨q,hq,e⟩:=z6I h;exact⟨q,by simp [hq],e⟩
theorem RowsOk.tail{r:Rw}{l:List Rw}(h:RowsOk (r::l)):RowsOk l:=⟨fun q hq=>h.rw q (by simp [hq]),(yh.1 h.asc).2⟩
theorem RwOk.drop{r:Rw}(h:RwOk r){d:Nat}(hne:r.vs.drop d≠ []):RwOk ⟨r.k,r.vs.drop d⟩:=
 ⟨h.k0,h.k64,hne,h.asc.sublist (List.drop_sublist _ _),fun x hx=>h.vs x (yo hx)⟩
theorem zB9{cap at_:Nat}:∀ {l:List Rw} {n:Nat},RowsOk l->RowsOk (z3W cap at_ l n).1
 | [],n,h=>h
 |r::l,n,h=>by
  have ih:=zB9 (cap:=cap) (at_:=at_) (n:=n+min (z0s r.vs at_) (cap-n)) h.tail;obtain⟨h1,-⟩:=yh.1 h.asc;rw [z3W];simp only
  split
  .exact ih
  .rename_i hne;refine⟨fun q hq=> ?_,?_⟩
   .rcases yF.1 hq with hq|hq
    .obtain rfl:=yJ.1 hq;exact(h.rw r (by simp)).drop hne
    .exact ih.rw q hq
   .rw [YL];refine⟨ZT _ _,ih.asc,fun a ha b hb=> ?_⟩;obtain rfl:=yJ.1 ha;obtain⟨q,hq,d,rfl,-⟩:=z9I hb;exact h1 q hq
def z3z(last cap at_:Nat)(l:List Rw):List Chg:=⟨ttlK,z62 last at_,false⟩::(z1k cap at_ l 0).map fun y=>⟨z10 y.1 y.2.t,[],true⟩
theorem zCJ{cap at_:Nat}:∀ {l:List Rw} {n:Nat},RowsOk l->(z1k cap at_ l n).Pairwise fun a b=>z10 a.1 a.2.t≠z10 b.1 b.2.t
 | [],n,_=>List.Pairwise.nil
 |r::l,n,h=>by
  have hr:=h.rw r (by simp);obtain⟨h1,-⟩:=yh.1 h.asc;rw [z1k,YL];refine⟨?_,zCJ h.tail,fun a ha b hb e=> ?_⟩
  .rw [Zk];refine((hr.asc.sublist (List.take_sublist _ _)).imp_of_mem ?_);intro a b ha hb hab e;have:=(z2z (hr.vs a (yY ha)).t64 (hr.vs b (yY hb)).t64 e).2;omega
  .obtain⟨x,hx,rfl⟩:=yP.1 ha;obtain⟨q,hq,e1,e2⟩:=z6I hb;have hq2:=(h.rw q (by simp [hq])).vs _ e2;have:=(z2z (hr.vs x (yY hx)).t64 hq2.t64 e).1;rw [<-e1]at this;exact(h1 q hq).ne this
theorem zCZ{cap at_:Nat}:∀ {l:List Rw} {n:Nat},RowsOk l->∀ {c:Cel},c∈z0x (z3W cap at_ l n).1↔c∈z0x l/\∀y∈z1k cap at_ l n,c.1≠z10 y.1 y.2.t
 | [],n,_,c=>by simp [z3W,z1k,z0x]
 |r::l,n,h,c=>by
  have hr:=h.rw r (by simp);obtain⟨h1,-⟩:=yh.1 h.asc;obtain⟨d,hd⟩:∃d,min (z0s r.vs at_) (cap-n)=d:=⟨_,rfl⟩;have ih:=zCZ (cap:=cap) (at_:=at_) (n:=n+d) h.tail (c:=c);rw [z3W,z1k,hd];simp only;have e1:c∈z0x ((if r.vs.drop d= []then []else [(⟨r.k,r.vs.drop d⟩:Rw)])++(z3W cap at_ l (n+d)).1)↔(∃x∈r.vs.drop d,c=z7s r.k x)∨c∈z0x (z3W cap at_ l (n+d)).1:=by
   unfold z0x;rw [Yq,yF];refine or_congr ?_ Iff.rfl
   split
   .rename_i he;rw [he];simp
   .simp [z4O]
  have e2:c∈z0x (r::l)↔(∃x∈r.vs,c=z7s r.k x)∨c∈z0x l:=by
   unfold z0x;rw [yb,yF,z4O]
  rw [e1,e2,ih];have hfar:∀ {x y:Vsn} {q:Rw},x∈r.vs->q∈l->y∈q.vs->z10 r.k x.t≠z10 q.k y.t:=fun {x y q} hx hq hy e=>by
   have:=(z2z (hr.vs x hx).t64 ((h.rw q (by simp [hq])).vs y hy).t64 e).1;exact(h1 q hq).ne this
  have hown:∀ {x y:Vsn},x∈r.vs->y∈r.vs->z10 r.k x.t=z10 r.k y.t->x.t=y.t:=fun {x y} hx hy e=>(z2z (hr.vs x hx).t64 (hr.vs y hy).t64 e).2
  have hsplit:∀ {x y:Vsn},x∈r.vs.drop d->y∈r.vs.take d->y.t<x.t:=fun {x y} hx hy=>by
   have:=hr.asc;rw [<-yT d r.vs,YL]at this;exact this.2.2 y hy x hx
  constructor
  .rintro(⟨x,hx,rfl⟩|⟨hc,hn⟩)
   .refine⟨.inl ⟨x,yo hx,rfl⟩,fun y hy=> ?_⟩;rcases yF.1 hy with hy|hy
    .obtain⟨z,hz,rfl⟩:=yP.1 hy;intro e;have:=hown (yo hx) (yY hz) e;have:=hsplit hx hz;omega
    .obtain⟨q,hq,e3,e4⟩:=z6I hy;rw [<-e3];exact hfar (yo hx) hq e4
   .refine⟨.inr hc,fun y hy=> ?_⟩;rcases yF.1 hy with hy|hy
    .obtain⟨z,hz,rfl⟩:=yP.1 hy;obtain⟨q,hq,x,hx,rfl⟩:=z43.1 hc;exact(hfar (yY hz) hq hx).symm
    .exact hn y hy
  .rintro⟨⟨x,hx,rfl⟩|hc,hn⟩
   .left;refine⟨x,?_,rfl⟩;rw [<-yT d r.vs]at hx;rcases yF.1 hx with hx|hx
    .exact absurd rfl (hn (r.k,x) (yF.2 (.inl (yP.2 ⟨x,hx,rfl⟩))))
    .exact hx
   .exact .inr ⟨hc,fun y hy=>hn y (yF.2 (.inr hy))⟩
theorem z8z{l:List Rw}{tl:List Cel}(h:RowsOk l)(ht:zEK tl)(last cap at_:Nat):z2P (vwC l tl) (z3z last cap at_ l)=vwC (z3W cap at_ l 0).1 [(ttlK,z62 last at_)]:=by
 have h1:RowsOk (z3W cap at_ l 0).1:=zB9 h;refine zB5 (z6d (z4w h ht)) (z4w h1 (.inr ⟨_,rfl⟩)) fun c=> ?_
 have hpw:(z3z last cap at_ l).Pairwise fun a b=>a.k≠b.k:=by
  unfold z3z;rw [yh,Zk];refine⟨fun y hy=> ?_,zCJ h⟩;obtain⟨w,_,rfl⟩:=yP.1 hy;exact(z4J w.1 w.2.t).ne.symm
 rw [z79 (z4w h ht) hpw];unfold vwC;rw [yF,yF,zCZ h];have hrow:∀ {c:Cel},c∈z0x l->c.1≠ttlK:=fun {c} hc=>by
  obtain⟨r,hr,x,hx,rfl⟩:=z43.1 hc;exact(z4J r.k x.t).ne
 constructor
 .rintro(⟨hc|hc,hn⟩|⟨x,hx,hg,rfl⟩)
  .exact .inl ⟨hc,fun y hy=>hn ⟨z10 y.1 y.2.t,[],true⟩ (by unfold z3z;exact ym _ (yP.2 ⟨y,hy,rfl⟩))⟩
  .rcases ht with rfl|⟨v,rfl⟩
   .cases hc
   .obtain rfl:=yJ.1 hc;exact absurd rfl (hn ⟨ttlK,z62 last at_,false⟩ (by unfold z3z;simp))
  .unfold z3z at hx;rcases y9.1 hx with rfl|hx
   .exact .inr (by simp)
   .obtain⟨y,_,rfl⟩:=yP.1 hx;cases hg
 .rintro(⟨hc,hn⟩|hc)
  .refine .inl ⟨.inl hc,fun x hx=> ?_⟩;unfold z3z at hx;rcases y9.1 hx with rfl|hx
   .exact hrow hc
   .obtain⟨y,hy,rfl⟩:=yP.1 hx;exact hn y hy
  .obtain rfl:=yJ.1 hc;exact .inr ⟨⟨ttlK,z62 last at_,false⟩,by unfold z3z;simp,rfl,rfl⟩
end
section
open Go Go.RowKit Tryz
def zH2(x:Vsn):List Value:= [.int .u64 (x.t:Int),.string (st x.v),.bool x.gone]
def zH3(x:Vsn):Value:= .agg #[.int .u64 (x.t:Int),.string (st x.v),.bool x.gone]
def vsC(l:List Vsn):List Value:=l.flatMap zH2
theorem zKG(l:List Vsn):(vsC l).length=l.length*3:=by
 induction l with
 |nil=>rfl
 |cons a l ih=>
  show(zH2 a++vsC l).length=_;rw [y6,ih];simp only [zH2,y8,yW];omega
theorem zKF(a b:List Vsn):vsC (a++b)=vsC a++vsC b:=by simp [vsC]
theorem zKH(l:List Vsn):∀u∈vsC l,u.oneCell'=true:=by
 intro u hu;obtain⟨x,_,hx⟩:=YE.1 hu;simp only [zH2,y9,yH,yp]at hx;rcases hx with rfl|rfl|rfl<;>rfl
theorem zJ3:∀ {l:List Vsn} {j:Nat} (h:j<l.length),(vsC l)[j*3]? =some (.int .u64 (l[j].t:Int))/\(vsC l)[j*3+1]? =some (.string (st l[j].v))/\(vsC l)[j*3+2]? =some (.bool l[j].gone)
 |a::l,0,h=>⟨rfl,rfl,rfl⟩
 |a::l,j+1,h=>by
  have ih:=zJ3 (l:=l) (j:=j) (by simpa using h);have e:vsC (a::l)=zH2 a++vsC l:=rfl;have e2:∀m,(vsC (a::l))[(j+1)*3+m]? =(vsC l)[j*3+m]? :=fun m=>by
   rw [e,yx (by simp only [zH2,y8,yW];omega)]
   congr 1
   simp only [zH2,y8,yW];omega
  have h0:=e2 0;simp only [YQ]at h0;rw [h0,e2 1,e2 2];simpa using ih
def Vs(S:Nat->Prop)(w:World)(v:Value)(l:List Vsn):Prop:=Sl S w 3 v l.length (vsC l)
theorem Vs.lt{S:Nat->Prop}{w:World}{v:Value}{l:List Vsn}(h:Vs S w v l):Vs (fun b=>S b/\b<w.heap.size) w v l:=Sl.lt h (by omega)
theorem Vs.later{w w':World}{v:Value}{l:List Vsn}(h:Vs (fun b=>b<w.heap.size) w v l)(hb:Below w.heap.size w w'):Vs (fun b=>b<w.heap.size) w' v l:=Sl.below h hb fun _ h=>h
theorem Vs.at{S:Nat->Prop}{w:World}{v:Value}{l:List Vsn}(h:Vs S w v l):∃A c,v= .slice A l.length c/\l.length<=c/\c<=maxLen/\(A=none->c=0)/\
 (0<l.length->∃b o,A=some ⟨b,o,none⟩/\S b/\∀j (hj:j<l.length),w.cell? ⟨b,o+j*3,none⟩=some (.int .u64 (l[j].t:Int))/\w.cell? ⟨b,o+j*3+1,none⟩=some (.string (st l[j].v))/\w.cell? ⟨b,o+j*3+2,none⟩=some (.bool l[j].gone)):=by
 obtain⟨h1,A,c,rfl,h2,h3,h4,h5⟩:=h;refine⟨A,c,rfl,h2,h3,h4,fun h0=> ?_⟩;obtain⟨b,o,rfl,hS,hc⟩:=h5 h0;refine⟨b,o,rfl,hS,fun j hj=> ?_⟩;have ha:=zJ3 hj;exact⟨hc _ _ ha.1,hc _ _ ha.2.1,hc _ _ ha.2.2⟩
theorem elemVsn:Elem prog 33 62 (.agg #[.int .u64 0,.string ⟨#[]⟩,.bool false]) 3 32:=Elem.mk' underlying33 (by kernel_rfl) rfl (by omega)
theorem z7R{P:Program}{fn:Func}{u p v:Tmp}{ty:TypeId}(h:fn.results= #[.tmp u,.cell p ty,.tmp v])(tmps:Array Value)(w:World)(g:Nat){t:TypeId}{cs:Array Value}
 (hp:tmps.getD p undef= .pointer (some ⟨g,0,none⟩)) (hg:Blk w g t cs) (hS:z1W P ty cs.size):
 (results fn tmps).run P w= .ok (.tuple #[tmps.getD u undef,.agg cs,tmps.getD v undef]) w:=by
 have hp':tmps[p]?.getD undef= .pointer (some ⟨g,0,none⟩):=by simpa using hp
 simp [results,h,hp',asAddr,z26 hg hS]
theorem vsnTy:z1W prog 62 3:=⟨⟨_,underlying62⟩,by kernel_rfl⟩
theorem zFH(k:List UInt8)(t:Nat)(hk:k.length<=64)(ht:t<U64):zJW (z3L (z1b k t))= .tuple #[.string (st k),.int .u64 (t:Int),.int .i64 0]:=by
 rw [zDX k t hk ht];have:18446744073709551615-(18446744073709551615-t)=t:=by unfold U64 at ht;omega
 show Value.tuple #[.string (st k),.int .u64 ((18446744073709551615-(18446744073709551615-t):Nat):Int),.int .i64 0]=_;rw [this]
theorem zDZ(k:List UInt8)(t:Nat):(z1b k t).length=(z2K k).length+10:=by simp [z1b,z18]
theorem z3a{k:List UInt8}(t:Nat)(hk:k.length<=64):(z10 k t).length<=139:=by
 have:=z9E k;unfold z10;rw [y8,zDZ];omega
theorem z5q(k:List UInt8)(x:Vsn)(w:World)(hk:k.length<=64)(hx:VOk x):
 Calls prog 53 #[.agg #[.string (st (z10 k x.t)),.string (st (z90 x))]] w fun e w'=>e= .returned (.tuple #[.string (st k),zH3 x,.bool true])/\Below w.heap.size w w':=by
 have hkg:=zFH k x.t hk hx.t64;have hlk:=z3a x.t hk;have hg:=hx.g;have hv:=hx.v;obtain⟨t,v,gn⟩:=x;simp only at hkg hlk hg hv ⊢;have HKG:=zz hkg;have HK:Hid (z10 k t=100::z1b k t):=rfl;obtain⟨kb,hkb⟩:∃kb,z1b k t=kb:=⟨_,rfl⟩;rw [hkb]at HK HKG;rw [HK.out]at hlk ⊢;have hkl:kb.length<=138:=by simpa using hlk
 have ml:kb.length<=maxLen:=by simp only [maxLen];omega
 clear hkg hlk hx hkb HK;cases gn with
 |true=>
  obtain rfl:=hg rfl;have hdv:z90 ⟨t,[],true⟩= [1]:=rfl;rw [hdv];clear hg hdv;have HB0:Hid (Blk ((w.alloc (.cells #[.string (st (100::kb)),.string (st [1])] 94)).alloc (.cells #[.int .u64 0,.string ⟨#[]⟩,.bool false] 62)) w.heap.size 94 #[.string (st (100::kb)),.string (st [1])]):=(Blk.new _ _ _).alloc _;have HB1:Hid (Blk ((w.alloc (.cells #[.string (st (100::kb)),.string (st [1])] 94)).alloc (.cells #[.int .u64 0,.string ⟨#[]⟩,.bool false] 62)) (w.heap.size+1) 62 #[.int .u64 0,.string ⟨#[]⟩,.bool false]):=Blk.new1 _ _ _ _;have HQ0:Hid (Below w.heap.size w ((w.alloc (.cells #[.string (st (100::kb)),.string (st [1])] 94)).alloc (.cells #[.int .u64 0,.string ⟨#[]⟩,.bool false] 62))):=((y7 _ _).alloc (y5 _) _).alloc (by simp) _;go_enter func53,ntmps53
  go_wp2_with (refine z1v _ rfl (.tmp 29) rfl tS tB tU ml rfl ?_;intro A1 c1 w1 hbs hbl hsz)
  have HB0':=zz (HB0.out.later hbl);have HB1':=zz (HB1.out.later hbl);have HQ1:=zz (HQ0.out.trans (hbl.mono HQ0.out.size));clear HB0 HB1 HQ0 hbl hsz;refine(zCU _ _ kb w1 (by omega) hbs).mono ?_;rintro e w2 ⟨rfl,hb2⟩;rw [HKG.out];have hbx:=HB0'.out.later hb2;have hby:=HB1'.out.later hb2;have x1:w2.cell? ⟨w.heap.size,1,none⟩=some (.string (st [1])):=hbx.cell 1;have hq2:=HQ1.out.trans (hb2.mono HQ1.out.size);have hgl:=hby.lt;clear HB0' HB1' HQ1 hbs hb2;have HV:=zz (Blk.new w2 62 #[.int .u64 (t:Int),.string ⟨#[]⟩,.bool true]);have HX:=zz (hbx.alloc (.cells #[.int .u64 (t:Int),.string ⟨#[]⟩,.bool true] 62));have HY:=zz (hby.alloc (.cells #[.int .u64 (t:Int),.string ⟨#[]⟩,.bool true] 62));have HQ:=zz (hq2.alloc hq2.size (.cells #[.int .u64 (t:Int),.string ⟨#[]⟩,.bool true] 62));have HGV:Hid (w.heap.size+1<w2.heap.size):=hgl;clear hbx hby hq2 hgl;go_upto_region 5 with(fail)
  generalize hW:w2.alloc (.cells #[.int .u64 (t:Int),.string ⟨#[]⟩,.bool true] 62)=W at*;clear hW x1;generalize w2.heap.size=gv at*;have hgv:w.heap.size+1<gv:=HGV.out;have v0:W.cell? ⟨gv,0,none⟩=some (.int .u64 (t:Int)):=HV.out.cell 0;have v1:W.cell? ⟨gv,1,none⟩=some (.string (st [])):=HV.out.cell 1;have v2:W.cell? ⟨gv,2,none⟩=some (.bool true):=HV.out.cell 2;have x1:W.cell? ⟨w.heap.size,1,none⟩=some (.string (st [1])):=HX.out.cell 1;go_wp2_with fail
  refine z1z [⟨15,w.heap.size+1,62,0,3⟩] (by kernel_rfl) (by kernel_rfl) ?_;apply Exists.intro;apply And.intro
  .repeat(first
    |(apply z4X rfl
      intro K hK;go_simp;refine hK _ ?_;clear hK K)
    |(apply z0X rfl rfl
      .intro wg hwg _;replace hwg:=hwg.mono z4a;have v0':=hwg.cell v0 (z0q (by omega) _);have v1':=hwg.cell v1 (z0q (by omega) _);have v2':=hwg.cell v2 (z0q (by omega) _);have x1':=hwg.cell x1 (z0q (by omega) _);unfold z03;go_simp
       first
        |exact z00 _ _
      intro K hK;go_simp;refine hK _ ?_;clear hK K))
   apply z7l (Is (.agg #[.int .u64 (t:Int),.string (st []),.bool true])) (#[.int .u64 (t:Int),.string (st []),.bool true])
   .rfl
   .rfl
   rotate_left 4
   .exact HY.out
   rotate_right 4
   .kernel_rfl
   .kernel_rfl
   .kernel_rfl
   .kernel_rfl
   .kernel_rfl
   .kernel_rfl
   .exact fun wg hwg hf=>rfl
   .exact fun p hp=>Is.pstays _ p
   intro K hK;go_simp;refine hK _ ?_;clear hK K
   repeat(first
    |(apply z4X rfl
      intro K hK;go_simp;refine hK _ ?_;clear hK K)
    |(apply z0X rfl rfl
      .intro wg hwg _;replace hwg:=hwg.mono z4a;unfold z03;go_simp
       first
        |exact z00 _ _
      intro K hK;go_simp;refine hK _ ?_;clear hK K))
   refine z4D (fun wf hE hf=> ?_);have g15:=hf 15 _ _ rfl;clear hf;obtain⟨-,cs15,b15,r15⟩:=g15;injection r15 with r15
   subst r15;have hbf:Below w.heap.size w wf:=HQ.out.trans (hE.below (B:=w.heap.size) (by have:=HQ.out.size;omega) fun b k hp=>by
    obtain⟨p,hp,h1,_⟩:=hp;obtain rfl:=yJ.1 hp;simp only at h1;omega)
   clear hE;go_wp2_with fail
   exact bodyPost_ret (z7R rfl _ _ (w.heap.size+1) rfl b15 vsnTy) rfl ⟨rfl,hbf⟩
  .apply And.intro
   .repeat(first
     |exact trivial
     |(refine⟨okIs _ _ _ _,?_⟩)
     |(refine⟨zAT (.inl rfl),?_⟩)
     )
   .rfl
 |false=>
  have hdv:z90 ⟨t,v,false⟩=0::v:=rfl;rw [hdv];clear hg hdv;have e8:((v.length:Int)+1==0)=false:=by rw [yV];omega
  have e9:((kb.length:Int)+1==0)=false:=by rw [yV];omega
  have HB0:Hid (Blk ((w.alloc (.cells #[.string (st (100::kb)),.string (st (0::v))] 94)).alloc (.cells #[.int .u64 0,.string ⟨#[]⟩,.bool false] 62)) w.heap.size 94 #[.string (st (100::kb)),.string (st (0::v))]):=(Blk.new _ _ _).alloc _;have HB1:Hid (Blk ((w.alloc (.cells #[.string (st (100::kb)),.string (st (0::v))] 94)).alloc (.cells #[.int .u64 0,.string ⟨#[]⟩,.bool false] 62)) (w.heap.size+1) 62 #[.int .u64 0,.string ⟨#[]⟩,.bool false]):=Blk.new1 _ _ _ _;have HQ0:Hid (Below w.heap.size w ((w.alloc (.cells #[.string (st (100::kb)),.string (st (0::v))] 94)).alloc (.cells #[.int .u64 0,.string ⟨#[]⟩,.bool false] 62))):=((y7 _ _).alloc (y5 _) _).alloc (by simp) _;go_enter func53,ntmps53
  go_wp2_with (refine z1v _ rfl (.tmp 29) rfl tS tB tU ml rfl ?_;intro A1 c1 w1 hbs hbl hsz)
  have HB0':=zz (HB0.out.later hbl);have HB1':=zz (HB1.out.later hbl);have HQ1:=zz (HQ0.out.trans (hbl.mono HQ0.out.size));clear HB0 HB1 HQ0 hbl hsz;refine(zCU _ _ kb w1 (by omega) hbs).mono ?_;rintro e w2 ⟨rfl,hb2⟩;rw [HKG.out];have hbx:=HB0'.out.later hb2;have hby:=HB1'.out.later hb2;have x1:w2.cell? ⟨w.heap.size,1,none⟩=some (.string (st (0::v))):=hbx.cell 1;have hq2:=HQ1.out.trans (hb2.mono HQ1.out.size);have hgl:=hby.lt;clear HB0' HB1' HQ1 hbs hb2;have h0:((0::v:List UInt8)== [1])=false:=by cases v<;>rfl
  have hbv:=Blk.new w2 62 #[.int .u64 (t:Int),.string ⟨#[]⟩,.bool false];have hx3:=hbx.alloc (.cells #[.int .u64 (t:Int),.string ⟨#[]⟩,.bool false] 62);have hy3:=hby.alloc (.cells #[.int .u64 (t:Int),.string ⟨#[]⟩,.bool false] 62);have hq3:=hq2.alloc hq2.size (.cells #[.int .u64 (t:Int),.string ⟨#[]⟩,.bool false] 62);have HV3:=zz hbv;have HX3:=zz hx3;have HY3:=zz hy3;have HQ3:=zz hq3;have HGV:Hid (w.heap.size+1<w2.heap.size):=hgl;clear hbx hby hq2 hgl hbv hx3 hy3 hq3;go_upto_region 5 with(fail)
  generalize hW:w2.alloc (.cells #[.int .u64 (t:Int),.string ⟨#[]⟩,.bool false] 62)=W3 at*;clear hW x1;generalize w2.heap.size=gv at*;have z2:W3.cell? ⟨gv,2,none⟩=some (.bool false):=HV3.out.cell 2;have z1:W3.cell? ⟨gv,1,none⟩=some (.string ⟨#[]⟩):=HV3.out.cell 1;have x1:W3.cell? ⟨w.heap.size,1,none⟩=some (.string (st (0::v))):=HX3.out.cell 1;have f1:=HV3.out.free 1;have hgl:=HGV.out;have HV:Hid (Blk (W3.setCell ⟨gv,1,none⟩ (.string (st v))) gv 62 #[.int .u64 (t:Int),.string (st v),.bool false]):=HV3.out.put 1 _;have HX:=zz (HX3.out.far (p:=⟨gv,1,none⟩) (by simp only;omega) (.string (st v)));have HY:=zz (HY3.out.far (p:=⟨gv,1,none⟩) (by simp only;omega) (.string (st v)));have HQ:=zz (HQ3.out.setCell (p:=⟨gv,1,none⟩) (by simp only;omega) (.string (st v)));clear HV3 HX3 HY3 HQ3 hgl;go_upto_region 7 with(fail)
  generalize hW:W3.setCell ⟨gv,1,none⟩ (.string (st v))=W at*;clear hW z1 z2 f1 x1;have hgv:w.heap.size+1<gv:=HGV.out;have v0:W.cell? ⟨gv,0,none⟩=some (.int .u64 (t:Int)):=HV.out.cell 0;have v1:W.cell? ⟨gv,1,none⟩=some (.string (st v)):=HV.out.cell 1;have v2:W.cell? ⟨gv,2,none⟩=some (.bool false):=HV.out.cell 2;have x1:W.cell? ⟨w.heap.size,1,none⟩=some (.string (st (0::v))):=HX.out.cell 1;go_wp2_with fail
  refine z1z [⟨15,w.heap.size+1,62,0,3⟩] (by kernel_rfl) (by kernel_rfl) ?_;apply Exists.intro;apply And.intro
  .repeat(first
    |(apply z4X rfl
      intro K hK;go_simp;refine hK _ ?_;clear hK K)
    |(apply z0X rfl rfl
      .intro wg hwg _;replace hwg:=hwg.mono z4a;have v0':=hwg.cell v0 (z0q (by omega) _);have v1':=hwg.cell v1 (z0q (by omega) _);have v2':=hwg.cell v2 (z0q (by omega) _);have x1':=hwg.cell x1 (z0q (by omega) _);unfold z03;go_simp
       first
        |exact z00 _ _
      intro K hK;go_simp;refine hK _ ?_;clear hK K))
   apply z7l (Is (.agg #[.int .u64 (t:Int),.string (st v),.bool false])) (#[.int .u64 (t:Int),.string (st v),.bool false])
   .rfl
   .rfl
   rotate_left 4
   .exact HY.out
   rotate_right 4
   .kernel_rfl
   .kernel_rfl
   .kernel_rfl
   .kernel_rfl
   .kernel_rfl
   .kernel_rfl
   .exact fun wg hwg hf=>rfl
   .exact fun p hp=>Is.pstays _ p
   intro K hK;go_simp;refine hK _ ?_;clear hK K
   repeat(first
    |(apply z4X rfl
      intro K hK;go_simp;refine hK _ ?_;clear hK K)
    |(apply z0X rfl rfl
      .intro wg hwg _;replace hwg:=hwg.mono z4a;unfold z03;go_simp
       first
        |exact z00 _ _
      intro K hK;go_simp;refine hK _ ?_;clear hK K))
   refine z4D (fun wf hE hf=> ?_);have g15:=hf 15 _ _ rfl;clear hf;obtain⟨-,cs15,b15,r15⟩:=g15;injection r15 with r15
   subst r15;have hbf:Below w.heap.size w wf:=HQ.out.trans (hE.below (B:=w.heap.size) (by have:=HQ.out.size;omega) fun b k hp=>by
    obtain⟨p,hp,h1,_⟩:=hp;obtain rfl:=yJ.1 hp;simp only at h1;omega)
   clear hE;go_wp2_with fail
   exact bodyPost_ret (z7R rfl _ _ (w.heap.size+1) rfl b15 vsnTy) rfl ⟨rfl,hbf⟩
  .apply And.intro
   .repeat(first
     |exact trivial
     |(refine⟨okIs _ _ _ _,?_⟩)
     |(refine⟨zAT (.inl rfl),?_⟩)
     )
   .rfl
def z9t(w:Wri):Nat:=if w.k= []∨64<w.k.length then 52 else if 256<w.v.length∨(w.gone=true/\w.v≠ [])then 53 else 0
def z4k:Option Key->List Wri->Nat
 |_,[]=>0
 |p,w::r=>if z9t w≠0 then z9t w else if zB1 p w.k=true then 54 else z4k (some w.k) r
def z5w(ws:List Wri):Nat:=if ws= []then 50 else if 8<ws.length then 51 else z4k none ws
theorem zKK{w:Wri}(h:z9t w=0):w.Ok:=by
 unfold z9t at h
 split at h
 .cases h
 .rename_i h1
  split at h
  .cases h
  .rename_i h2;refine⟨fun e=>h1 (.inl e),by omega,by omega,fun hg=> ?_⟩;by_cases e:w.v= []
   .exact e
   .exact absurd (.inr ⟨hg,e⟩) h2
theorem zCB:∀ {p:Option Key} {ws:List Wri},z4k p ws=0->(∀w∈ws,w.Ok)/\(ws.Pairwise fun a b=>Lt a.k b.k)/\∀k,p=some k->∀w∈ws,Lt k w.k
 |p,[],_=>⟨fun w h=>(by cases h),List.Pairwise.nil,fun k _ w h=>(by cases h)⟩
 |p,w::r,h=>by
  rw [z4k]at h
  split at h
  .rename_i h1;exact absurd h h1
  .rename_i h1
   split at h
   .cases h
   .rename_i h2;obtain⟨i1,i2,i3⟩:=zCB h;have hw:=zKK (w:=w) (by omega);refine⟨fun q hq=>by rcases y9.1 hq with rfl|hq;exact hw;exact i1 q hq,yh.2 ⟨i3 _ rfl,i2⟩,fun k hk q hq=> ?_⟩;subst hk;have hl:Lt k w.k:=by
     rw [<-z0K];cases hb:Op.bytesLess k w.k with
     |true=>rfl
     |false=>exact absurd (by simp [zB1,hb]) h2
    rcases y9.1 hq with rfl|hq
    .exact hl
    .exact hl.trans (i3 _ rfl q hq)
theorem zEQ{ws:List Wri}(h:z5w ws=0):ws≠ []/\ws.length<=8/\(∀w∈ws,w.Ok)/\ws.Pairwise fun a b=>Lt a.k b.k:=by
 unfold z5w at h
 split at h
 .cases h
 .rename_i h1
  split at h
  .cases h
  .rename_i h2;obtain⟨a,b,_⟩:=zCB h;exact⟨h1,by omega,a,b⟩
def z87(x:Wri):List Value:= [.string (st x.k),.string (st x.v),.bool x.gone]
def z9r(l:List Wri):List Value:=l.flatMap z87
theorem zC3:∀ {l:List Wri} {j:Nat} (h:j<l.length),(z9r l)[j*3]? =some (.string (st l[j].k))/\(z9r l)[j*3+1]? =some (.string (st l[j].v))/\(z9r l)[j*3+2]? =some (.bool l[j].gone)
 |a::l,0,h=>⟨rfl,rfl,rfl⟩
 |a::l,j+1,h=>by
  have ih:=zC3 (l:=l) (j:=j) (by simpa using h);have e:z9r (a::l)=z87 a++z9r l:=rfl;have e2:∀m,(z9r (a::l))[(j+1)*3+m]? =(z9r l)[j*3+m]? :=fun m=>by
   rw [e,yx (by simp only [z87,y8,yW];omega)]
   congr 1
   simp only [z87,y8,yW];omega
  have h0:=e2 0;simp only [YQ]at h0;rw [h0,e2 1,e2 2];simpa using ih
def Wrs(S:Nat->Prop)(w:World)(v:Value)(l:List Wri):Prop:=Sl S w 3 v l.length (z9r l)
theorem Wrs.lt{S:Nat->Prop}{w:World}{v:Value}{l:List Wri}(h:Wrs S w v l):Wrs (fun b=>S b/\b<w.heap.size) w v l:=Sl.lt h (by omega)
theorem Wrs.at{S:Nat->Prop}{w:World}{v:Value}{l:List Wri}(h:Wrs S w v l):∃A c,v= .slice A l.length c/\l.length<=c/\c<=maxLen/\(A=none->c=0)/\
 (0<l.length->∃b o,A=some ⟨b,o,none⟩/\S b/\∀j (hj:j<l.length),w.cell? ⟨b,o+j*3,none⟩=some (.string (st l[j].k))/\w.cell? ⟨b,o+j*3+1,none⟩=some (.string (st l[j].v))/\w.cell? ⟨b,o+j*3+2,none⟩=some (.bool l[j].gone)):=by
 obtain⟨h1,A,c,rfl,h2,h3,h4,h5⟩:=h;refine⟨A,c,rfl,h2,h3,h4,fun h0=> ?_⟩;obtain⟨b,o,rfl,hS,hc⟩:=h5 h0;refine⟨b,o,rfl,hS,fun j hj=> ?_⟩;have ha:=zC3 hj;exact⟨hc _ _ ha.1,hc _ _ ha.2.1,hc _ _ ha.2.2⟩
theorem zHk{w:World}{B:Nat}{e:TypeId}{size n:Nat}{v:Value}{xs:List Value}(h:w.ownsRow B e size v n xs){gx:Nat}(hne:v.ownBlock≠some gx)(i:Nat)(u:Value):(w.setCell ⟨gx,i,none⟩ u).ownsRow B e size v n xs:=by
 obtain⟨h1,h2⟩:=h;refine⟨h1,?_⟩;rcases h2 with h2|⟨g',cap,cur,rfl,hB,hh,hrest⟩
 .exact .inl h2
 .exact .inr ⟨g',cap,cur,rfl,hB,(Yd w _ u g' (fun e=>hne (by simp [Value.ownBlock]at e ⊢;exact e))).trans hh,hrest⟩
end
section
open Go Tryz
end
section
open Go Go.RowKit Tryz
end
section
open Go Tryz
end
section
open Go Go.RowKit Tryz
theorem z2C(k:List UInt8)(t:Nat)(w:World)(hb:BitsOk w)(hk:k.length<=64)(ht:t<U64):
 Calls prog 42 #[.string (st k),.int .u64 (t:Int)] w fun e w'=>e= .returned (.string (st (z10 k t)))/\Below w.heap.size w w':=by
 have hlk:=z3a t hk;have HK:Hid (z10 k t=100::z1b k t):=rfl;have HP:=zz (zJZ k t w hb ht hk);obtain⟨kb,hkb⟩:∃kb,z1b k t=kb:=⟨_,rfl⟩;rw [hkb]at HK HP;rw [HK.out]at hlk ⊢;have hkl:kb.length<=138:=by simpa using hlk
 clear hlk hkb HK hb;go_enter func42,ntmps42
 go_wp2_with fail
 refine HP.out.mono ?_;rintro e w1 ⟨A,n,c,rfl,hown,hb1⟩;have hbs:=hown.bs;have a1:¬9223372036854775807<1+kb.length:=by omega
 have HB1:=zz hb1;clear HP hown hb1;go_wp2_with (refine z1H _ rfl (.tmp 13) rfl tB tU tS hbs rfl ?_)
 go_wp2_with fail
 go_ret
 exact⟨rfl,HB1.out⟩
theorem z8n(k:List UInt8)(w:World)(hb:BitsOk w)(hk:k.length<=64):
 Calls prog 52 #[.string (st k)] w fun e w'=>e= .returned (.string (st (z10 k 18446744073709551615)))/\Below w.heap.size w w':=by
 have HP:=zz (z2C k 18446744073709551615 w hb hk zGW);clear hb;go_enter func52,ntmps52
 go_wp2_with fail
 refine HP.out.mono ?_;rintro e w1 ⟨rfl,hb1⟩;go_wp2_with fail
 go_ret
 exact⟨rfl,hb1⟩
theorem zGc(k:List UInt8)(w:World)(hb:BitsOk w)(hk:k.length<=9223372036854775807):
 Calls prog 84 #[.string (st k)] w fun e w'=>e= .returned (.string (st (z6w k)))/\Below w.heap.size w w':=by
 by_cases h:64<k.length
 .have hl:(k.take 64).length<=64:=by rw [yC];omega
  have HP:=zz (z2C (k.take 64) 0 w hb hl z64);have HE:Hid (z6w k=z10 (k.take 64) 0++ [0]):=by rw [Hid];unfold z6w;rw [yB h]
  have hdl:=z3a 0 hl;obtain⟨d,hd⟩:∃d,z10 (k.take 64) 0=d:=⟨_,rfl⟩;rw [hd]at HP HE hdl;have e1:decide ((64:Int)<(k.length:Int))=true:=by rw [yd];omega
  have e2:(64:Int)<=(k.length:Int):=by omega
  have a1:¬9223372036854775807<d.length+1:=by omega
  clear hb hd hl;go_enter func84,ntmps84
  go_wp2_with fail
  refine HP.out.mono ?_;rintro e w1 ⟨rfl,hb1⟩;go_wp2_with fail
  go_ret
  exact⟨by rw [HE.out];rfl,hb1⟩
 .have HP:=zz (z8n k w hb (by omega));have HE:Hid (z6w k=z10 k 18446744073709551615):=by rw [Hid];unfold z6w;rw [yA h]
  have e1:decide ((64:Int)<(k.length:Int))=false:=by rw [yj];omega
  clear hb;go_enter func84,ntmps84
  go_wp2_with fail
  refine HP.out.mono ?_;rintro e w1 ⟨rfl,hb1⟩;go_wp2_with fail
  go_ret
  exact⟨by rw [HE.out];rfl,hb1⟩
theorem zGi(x:Vsn)(w:World)(hv:x.v.length<=1000000000):
 Calls prog 45 #[zH3 x] w fun e w'=>e= .returned (.string (st (z90 x)))/\Below w.heap.size w w':=by
 obtain⟨t,v,gn⟩:=x;simp only at hv;have q:=(y7 w.heap.size w).alloc (y5 _) (.cells #[.int .u64 (t:Int),.string (st v),.bool gn] 62);unfold zH3;simp only;have a1:¬9223372036854775807<1+v.length:=by omega
 cases gn with
 |true=>
  go_enter func45,ntmps45
  go_wp2_with fail
  go_ret
  exact⟨rfl,q⟩
 |false=>
  go_enter func45,ntmps45
  go_wp2_with fail
  go_ret
  exact⟨rfl,q⟩
theorem chgTyV:z1W prog 96 3:=⟨⟨_,underlying96⟩,by kernel_rfl⟩
theorem Sl.ofBlk{S:Nat->Prop}{w:World}{g:Nat}{t:TypeId}{xs:List Value}{n:Nat}(hb:Blk w g t xs.toArray)(hS:S g)(hn:xs.length=n)(hm:n<=maxLen):Sl S w 1 (.slice (some ⟨g,0,none⟩) n n) n xs:=by
 refine⟨by omega,_,n,rfl,y5 _,hm,(fun h=>by cases h),fun _=>⟨g,0,rfl,hS,fun j u hu=> ?_⟩⟩;rw [Y4,hb.cell j,Zf];exact hu
theorem zCx{a b:Nat}(ha:a<U64)(hb:b<U64):(z62 a b).length<=20:=by
 have h1:=z09 ha;have h2:=z09 hb;unfold z62;rw [y6];omega
theorem zAs(last hor:Nat)(w:World)(h1:last<U64)(h2:hor<U64):
 Calls prog 37 #[.int .u64 (last:Int),.int .u64 (hor:Int)] w fun e w'=>e= .returned (.agg #[.string (st ttlK),.string (st (z62 last hor)),.bool false])/\Below w.heap.size w w':=by
 have hb0:=Blk.new w 96 #[.string ⟨#[]⟩,.string ⟨#[]⟩,.bool false];have q0:=(y7 w.heap.size w).alloc (y5 _) (.cells #[.string ⟨#[]⟩,.string ⟨#[]⟩,.bool false] 96);have HB0:=zz hb0;have HQ0:=zz q0;clear hb0 q0;go_enter func37,ntmps37
 go_upto_region 1 with(fail)
 generalize hW:w.alloc (.cells #[.string ⟨#[]⟩,.string ⟨#[]⟩,.bool false] 96)=W at*;clear hW;go_wp2_with fail
 refine(z5U W).mono ?_;rintro e w1 ⟨rfl,hw1,hb1,hs1⟩;obtain⟨G,hG⟩:∃G,W.heap.size=G:=⟨_,rfl⟩;have hgw:=HB0.out.lt;have hG1:G<w1.heap.size:=by omega
 have HB1:=zz (HB0.out.later hb1);have HQ1:=zz (HQ0.out.trans (hb1.mono HQ0.out.size));have hgl:w.heap.size<G:=by omega
 have hqs:=HQ0.out.size;rw [hG]at hw1 ⊢;have HW1:=zz hw1;have HSL:Hid (Sl (fun b=>b≠G/\b<(w1.alloc (.cells #[.int .u64 (last:Int),.int .u64 (hor:Int)] 27)).heap.size) (w1.alloc (.cells #[.int .u64 (last:Int),.int .u64 (hor:Int)] 27)) 1 (.slice (some ⟨w1.heap.size,0,none⟩) 2 2) [last,hor].length (zIt [last,hor])):=
  Sl.ofBlk (xs:=zIt [last,hor]) (Blk.new w1 _ _) ⟨by omega,by simp⟩ rfl (by simp [maxLen])
 clear hs1 hw1 hb1 HB0 HQ0 hG;go_wp2_with fail
 refine(z5R G G [] [last,hor] _ _ (HW1.out.alloc _) (by simp;omega) (y5 _) (by intro y hy;simp at hy;rcases hy with rfl|rfl<;>assumption) (by simp) HSL.out).mono ?_;rintro e w2 ⟨rfl,hw2,hg2⟩;simp only [yb,YZ,yf,yz]at hw2;have HW2:Hid (Wr w2 G G (z62 last hor)):=hw2;have hz2:=hg2.size;have hqq:=HQ1.out.size;have HB2:=zz ((HB1.out.alloc _).grown hg2 (by intro e;injection e with e;omega));have HQ2:=zz ((HQ1.out.alloc hqq _).trans (z0T hg2 (by omega) (by simp;omega)));have hlt:=zCx h1 h2;clear hw2 hg2 HW1 HB1 HQ1 HSL;go_wp2_with fail
 refine(z4W G G _ w2 HW2.out (by omega)).mono ?_;rintro e w5 ⟨A5,k5,c5,rfl,hown5,hbl5⟩;have hbs:=hown5.bs;have hb5:=HB2.out.later hbl5;have HQ5:=zz (HQ2.out.trans (hbl5.mono HQ2.out.size));have c0:(w5).cell? ⟨w.heap.size,0,none⟩=some (.string ⟨#[]⟩):=hb5.cell 0;have c1:(w5).cell? ⟨w.heap.size,1,none⟩=some (.string ⟨#[]⟩):=hb5.cell 1;have c2:(w5).cell? ⟨w.heap.size,2,none⟩=some (.bool false):=hb5.cell 2;have f0:=hb5.free 0;have f1:=hb5.free 1;have f2:=hb5.free 2;have HB5:=zz hb5;obtain⟨tv,htv⟩:∃tv,z62 last hor=tv:=⟨_,rfl⟩;have HTV:=zz htv;rw [htv]at hbs hlt;clear hown5 hbl5 hb5 HB2 HQ2 HW2 htv;go_wp2_with (refine z1H _ rfl (.tmp 19) rfl tB tU tS hbs rfl ?_)
 go_wp2_with fail
 exact bodyPost_ret (z0V rfl _ _ w.heap.size rfl (HB5.out.put3 _ _ _) chgTyV) rfl ⟨by rw [HTV.out];rfl,z0Y HQ5.out (y5 _) _ _ _⟩
theorem zDJ(x:Wri)(w:World)(hv:x.v.length<=9223372036854775807)(hk:x.k.length<=9223372036854775807):
 Calls prog 83 #[.agg #[.string (st x.k),.string (st x.v),.bool x.gone]] w fun e w'=>e= .returned (.int .i64 (z9t x:Int))/\Below w.heap.size w w':=by
 obtain⟨k,v,gn⟩:=x;simp only at hv hk ⊢;have q:=(y7 w.heap.size w).alloc (y5 _) (.cells #[.string (st k),.string (st v),.bool gn] 66);by_cases h0:k= []
 .subst h0;have HE:Hid (z9t ⟨[],v,gn⟩=52):=by rw [Hid];unfold z9t;simp
  go_enter func83,ntmps83
  go_wp2_with fail
  go_ret
  exact⟨by rw [HE.out];rfl,q⟩
 have e0:(k== [])=false:=by simpa using h0
 by_cases h1:64<k.length
 .have HE:Hid (z9t ⟨k,v,gn⟩=52):=by rw [Hid];unfold z9t;rw [yB (.inr h1)]
  have e1:decide ((64:Int)<(k.length:Int))=true:=by rw [yd];omega
  clear h0;go_enter func83,ntmps83
  go_wp2_with fail
  go_ret
  exact⟨by rw [HE.out];rfl,q⟩
 have e1:decide ((64:Int)<(k.length:Int))=false:=by rw [yj];omega
 have HW:Hid (z9t ⟨k,v,gn⟩=if 256<v.length∨(gn=true/\v≠ [])then 53 else 0):=by
  rw [Hid];unfold z9t;simp only;rw [yA (show ¬ (k= []∨64<k.length)from fun e=>e.elim h0 h1)]
 clear h0 h1;by_cases h2:256<v.length
 .have HE:Hid (z9t ⟨k,v,gn⟩=53):=by rw [Hid,HW.out,yB (.inl h2)]
  have e2:decide ((256:Int)<(v.length:Int))=true:=by rw [yd];omega
  clear HW;go_enter func83,ntmps83
  go_wp2_with fail
  go_ret
  exact⟨by rw [HE.out];rfl,q⟩
 have e2:decide ((256:Int)<(v.length:Int))=false:=by rw [yj];omega
 cases gn with
 |false=>
  have HE:Hid (z9t ⟨k,v,false⟩=0):=by rw [Hid,HW.out,yA (by rintro(h|⟨h,_⟩);exact h2 h;cases h)]
  clear HW h2;go_enter func83,ntmps83
  go_wp2_with fail
  go_ret
  exact⟨by rw [HE.out];rfl,q⟩
 |true=>
  by_cases h3:v= []
  .subst h3;have HE:Hid (z9t ⟨k,[],true⟩=0):=by rw [Hid,HW.out,yA (by rintro(h|⟨_,h⟩);exact h2 h;exact h rfl)]
   clear HW h2;go_enter func83,ntmps83
   go_wp2_with fail
   go_ret
   exact⟨by rw [HE.out];rfl,q⟩
  .have HE:Hid (z9t ⟨k,v,true⟩=53):=by rw [Hid,HW.out,yB (.inr ⟨rfl,h3⟩)]
   have e3:(v== [])=false:=by simpa using h3
   clear HW h2 h3;go_enter func83,ntmps83
   go_wp2_with fail
   go_ret
   exact⟨by rw [HE.out];rfl,q⟩
end
section
open Go Tryz
variable {all:List Fd} {n f k K:Nat} {R:List (List UInt8)} {live:List Sg} {last:Nat} {out:List Rcd}
end
section
open Go Tryz
structure Sq where
 at':Nat
 base:Nat
 bs:List (List UInt8)
 sure:Option Nat
variable {l:Wl} {k:Nat} {R:List (List UInt8)} {SB:List Sq}
end
section
open Go Tryz
def others(SB:List Sq)(i:Nat):List Sq:=SB.filter fun y=>decide (y.at'≠i)
variable {l:Wl} {k:Nat} {R:List (List UInt8)} {SB:List Sq} {t s b:List UInt8} {x:Sq} {m0:Nat}
end
section
open Go Tryz
variable {l:Wl} {k:Nat} {R:List (List UInt8)} {SB:List Sq}
end
end Go.Proofs.YthnlcbamjehpdaaGreatDoor
