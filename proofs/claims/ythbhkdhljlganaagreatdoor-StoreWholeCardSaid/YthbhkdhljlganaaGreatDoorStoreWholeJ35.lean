/- Part 35. -/
import Derived.Test.YthbhkdhljlganaaGreatDoorStoreWholeJ23
import Derived.Test.YthbhkdhljlganaaGreatDoorStoreWholeJ34
namespace Go.Proofs.YthbhkdhljlganaaGreatDoor
set_option linter.unusedVariables false
set_option maxHeartbeats 16000000
set_option maxRecDepth 100000
section
open Go Go.RowKit
theorem z3h{K:Nat}{x:Pag}(h:Big K x)(hK:K≤240)(hs:szP x≤2600):UpOk x:=by
 have h1:=zAl (x:=x);refine⟨by have:=h.next;omega,by omega,fun c hc=>⟨?_,h.small c hc⟩⟩;have:=h.key.2 c hc;omega
theorem zCL{K:Nat}(hK:K≤240):∀ {j D:Nat} (cx:Cx j D) (h:Nat),(∀q∈cx.pgs h,POk q.2∧KOk K q.2)→(∀q∈cx.pgs h,q.1<90)→∀s∈cx.steps h,UpStp s
 |_,_,.top,h,_,_,s,hs=>by cases hs
 |_,_,.step id l k r up,h,h1,h2,s,hs=>by
  rw [Cx.steps]at hs;rw [Cx.pgs]at h1 h2;rcases List.mem_cons.1 hs with rfl|hs
  ·have ha:=h1 (id,z09 l k h r) (by simp);have hb:=h2 (id,z09 l k h r) (by simp);simp only at ha hb;exact⟨ha.1,fun c hc=>by have:=ha.2.2 c hc;omega,by unfold InI;simp only;omega⟩
  ·exact zCL hK up id (fun q hq=>h1 q (by simp [hq])) (fun q hq=>h2 q (by simp [hq])) s hs
theorem zD3:∀ {j D:Nat} (cx:Cx j D) (h:Nat),cx.root h→Root0 (cx.steps h).reverse (h:Int)
 |_,_,.top,h,hr=>by obtain rfl:h=0:=hr;rfl
 |_,_,.step id l k r up,h,hr=>by
  have ih:=zD3 up id hr.2;rw [Cx.steps,List.reverse_cons];unfold Root0 at ih ⊢;cases hc:(up.steps id).reverse with
  |nil=>rw [hc]at ih;simpa using ih
  |cons a b=>rw [hc]at ih;simpa using ih
section
variable {Q:Prm} {P:Pgr} {c:Int→List UInt8} {j D:Nat} {h:Nat} {t:Ct j} {st:Pag}
theorem zJ4(hQ:Q.Ok){id:Nat}{l r:List (Kid j)}{k:Key}{up:Cx (j+1) D}(u:DnI Q P c (Cx.step id l k r up) h t st)(hs:szP (Ct.page j t)<512)(hn:z7s Q j≤Ct.n j t+1)(hD:D≤90):
 LvIn P c ⟨(id:Int),l.length,z09 l k h r⟩ (Ct.page j t):=by
 have hneed:up.need Q≤l.length+1+r.length:=u.cok;have hm2:=hQ.m2;have h2:2≤l.length+1+r.length:=by
  have:2≤up.need Q:=by
   cases up with
   |top=>exact Nat.le_refl 2
   |step=>exact hm2
  omega
 obtain⟨l',ka,ia,A,kb,ib,B,r',p⟩:=zEG k h t (l:=l) (r:=r) h2;have hlen:=p.len;have hnd:=u.rep.rep.nodup;have hroot:=u.root;have hpos:=zCX (cx:=Cx.step id l k r up) hroot hroot.1 hnd;have hcfk:=u.cfk;obtain⟨f1,f2,f3⟩:=hcfk;have hmin:0<j→2≤z7s Q j:=fun h0=>by
  cases j with
  |zero=>omega
  |succ j=>exact hm2
 have hsib:∀q,q∈z0B l∨q∈z0B r→0<q.1∧q.1<90∧POk q.2∧KOk Q.K q.2∧P.pgD c (q.1:Int)=q.2:=fun q hq=>by
  have hq1:q∈(Cx.step id l k r up).pgs h:=by rw [z0S];simp only [List.mem_append];rcases hq with hq|hq<;>simp [hq]
  have hq2:q∈(Cx.step id l k r up).sibs:=by rw [Cx.sibs];simp only [List.mem_append];rcases hq with hq|hq<;>simp [hq]
  have:=u.ok q (List.mem_append_left _ hq1);exact⟨hpos q (.inl hq2),u.i90 q (List.mem_append_left _ hq1),this.1,this.2,u.rep.pgD (p:=q.2) (List.mem_append_left _ hq1)⟩
 have hh:0<h∧h<90:=⟨hroot.1,u.lt⟩;have hAB:(0<ia∧ia<90)∧(0<ib∧ib<90)∧(l≠ []→P.pgD c (ia:Int)=Ct.page j A)∧(l= []→P.pgD c (ib:Int)=Ct.page j B)∧Big Q.K (Ct.page j A)∧Big Q.K (Ct.page j B)∧
  szP (Ct.page j A)+szP (Ct.page j B)≤2560∧FlIn Q j A∧FlIn Q j B∧FlL Q l'∧FlL Q r'∧
  (∀q,q∈z0B l'∨q∈z0B r'∨q∈Ct.subs j A∨q∈Ct.subs j B→q∈z0B l∨q∈z0B r∨q∈Ct.subs j t)∧(0<j→1≤Ct.n j B)∧(l≠ []→Ct.page j B=Ct.page j t):=by
  rcases p.or_ with⟨rfl,rfl,rfl,rfl,rfl,rfl⟩|⟨rfl,rfl,rfl,rfl,rfl⟩
  ·have hb:=hsib (ib,Ct.page j B) (.inr (by rw [z07];simp));have hf:=z0y.1 f2;have hfB:=(z1a Q j B).1 hf.1;refine⟨hh,⟨hb.1,hb.2.1⟩,fun h=>absurd rfl h,fun _=>hb.2.2.2.2,u.big,hb.2.2.1.big hb.2.2.2.1,by have:=hb.2.2.1.parts.2.2;simp only at this;omega,u.fl,hfB.2,f1,hf.2,?_,fun h0=>by have h3:=hmin h0;have h4:=hfB.1;omega,fun h=>absurd rfl h⟩;intro q hq;rcases hq with hq|hq|hq|hq
   ·exact .inl hq
   ·exact .inr (.inl (by rw [z07];simp [hq]))
   ·exact .inr (.inr hq)
   ·exact .inr (.inl (by rw [z07];simp [hq]))
  ·have ha:=hsib (ia,Ct.page j A) (.inl (by rw [z0z,z07];simp));have hf:=z4t.1 f1;have hfA:=(z1a Q j A).1 (z0y.1 hf.2).1;have hsl:z0B (l'++ [(ka,(ia,A))])=z0B l'++((ia,Ct.page j A)::Ct.subs j A):=by rw [z0z,z07];simp [z0B]
   refine⟨⟨ha.1,ha.2.1⟩,hh,fun _=>ha.2.2.2.2,fun h=>by simp at h,ha.2.2.1.big ha.2.2.2.1,u.big,by have:=ha.2.2.1.parts.2.2;simp only at this;omega,hfA.2,u.fl,hf.1,f2,?_,fun h0=>by have h3:=hmin h0;omega,fun _=>rfl⟩;intro q hq;rw [hsl];rcases hq with hq|hq|hq|hq
   ·exact .inl (by simp [hq])
   ·exact .inr (.inl hq)
   ·exact .inl (by simp [hq])
   ·exact .inr (.inr hq)
 obtain⟨ha,hb,hpa,hpb,bA,bB,hsz,fA,fB,fl',fr',hin,hone,hBt⟩:=hAB;obtain⟨v1,v2,v3,v4,lo,hi,v5,v6⟩:=u.toUpK.virt p.hd ha.1 bA bB (by omega) fA fB fl' fr' hin;obtain⟨r1,r2,r3,r4⟩:=z7b (id:=id) p (P.pgD c) ha hb hpa hpb v4;have hst:=u.ok (id,z09 l k h r) (List.mem_append_left _ (by rw [z0S];simp));have hsl:=(z0p hst.1).1;have hll:(z09 l k h r).2.2.length=l.length+1+r.length:=by
  unfold z09;simp only [List.length_append,List.length_cons,z2a];omega
 refine⟨?_,?_,by rw [r2];omega,fun hx=> ?_,?_,?_⟩
 ·simp only;rw [hll];cases l with
  |nil=>simp only [List.length_nil]at h2 ⊢;omega
  |cons a l=>simp only [List.length_cons];omega
 ·simp only at hsl ⊢;omega
 ·have hj:0<j:=by
   cases j with
   |zero=>cases hx
   |succ j=>omega
  have e:zEe (P.pgD c) ⟨(id:Int),l.length,z09 l k h r⟩ (Ct.page j t)=Ct.page j B:=by
   unfold zEe;simp only;by_cases hl:l= []
   ·rw [if_pos (by rw [hl];rfl),r2,hpb hl]
   ·rw [if_neg (fun e=>hl (List.length_eq_zero_iff.1 e)),hBt hl]
  rw [e,Ct.n_page];exact hone hj
 ·rw [r4];have hbg:=v1.big;refine z3h hbg hQ.K ?_;have h3:=bA.sz;have h4:=bB.sz;have h5:=hbg.sz;have e:(Ct.page j (ctJ j A B)).2.2=(Ct.page j A).2.2++(Ct.page j B).2.2:=by rw [z2H];rfl
  rw [e,z0X]at h5;omega
 ·have hl:=zG9 hQ (pf:=P.pgD c) (Cx.step id l k r up) h u.left hroot u.cfl hh.2 (fun q hq=>u.rep.pgD (p:=q.2) (List.mem_append_left _ hq)) (fun q hq=>⟨hpos q (.inl hq),u.i90 q (List.mem_append_left _ (((Cx.pgs_perm _ h).mem_iff).2 (List.mem_append_right _ hq)))⟩)
   (fun q hq=>u.i90 q (List.mem_append_left _ (((Cx.pgs_perm _ h).mem_iff).2 (List.mem_append_left _ hq))))
  obtain⟨w,hw1,hw2⟩:=hl;exact⟨w,z2i hw1 (by omega),by omega⟩
end
theorem zIW{Q:Prm}{c:Int→List UInt8}(hQ:Q.Ok):∀ {j D:Nat} (cx:Cx j D) (h:Nat) (t:Ct j) (st:Pag) (P:Pgr),DnI Q P c cx h t st→szP (Ct.page j t)≤2048→cx.need Q≤Ct.n j t+1→Reg Q cx h t→D≤90→DnOk c P (cx.steps h) (h:Int) (Ct.page j t)
 |j,_,.top,h,t,st,P,u,hs,hn,hreg,hD=>by
  obtain rfl:h=0:=u.root;exact⟨z3h u.big hQ.K (by omega),by unfold InI;omega⟩
 |j,D,.step id l k r up,h,t,st,P,u,hs,hn,hreg,hD=>by
  have h9:=u.lt;rw [Cx.steps];refine⟨⟨z3h u.big hQ.K (by omega),by unfold InI;omega⟩,fun h5=> ?_⟩;have hreg':(Q.a=1∧Q.m=2)∨z2v (Cx.step id l k r up) h t+D+3≤90:=by
   rcases hreg with h1|⟨h1,_⟩
   ·exact .inr h1
   ·exact .inl ⟨h1.1,h1.2.1⟩
  obtain⟨t',R⟩:=zCf hQ u h5 hn hreg' hD;have hlv:=zJ4 hQ u h5 hn hD;have hK:=hQ.K;have hstp:=zCL hK (Cx.step id l k r up) h (fun q hq=>u.ok q (List.mem_append_left _ hq)) (fun q hq=>u.i90 q (List.mem_append_left _ hq));rw [Cx.steps]at hstp;have hup:UpOk (z0g P c ⟨(id:Int),l.length,z09 l k h r⟩ (h:Int) (Ct.page j t)).2:=by
   rw [R.page];exact z3h R.dn.big hK R.dn.small
  refine⟨hstp _ (List.mem_cons_self ..),hlv,hup,fun _=>⟨fun q hq=>hstp q (List.mem_cons_of_mem _ hq),zD3 up id u.root.2⟩,fun h20=> ?_⟩;have hpg:=R.page;have hdn:=R.dn;have hca:=R.cases_;have hcok:up.need Q≤l.length+1+r.length:=u.cok;generalize z0g P c ⟨(id:Int),l.length,z09 l k h r⟩ (h:Int) (Ct.page j t)=X at hpg hdn hca h20 ⊢;obtain⟨P1,x1⟩:=X;simp only at hpg hdn hca h20 ⊢;subst hpg;rcases hca with⟨k1,k2,k3⟩|⟨k1,k2,k3⟩|⟨k1,k2,k3,k4⟩
  ·refine zIW hQ up id t' _ P1 hdn k1 (by omega) ?_ hD;rcases hreg with h1|⟨h1,h2,h3⟩
   ·exact .inl (by omega)
   ·exact .inr ⟨h1,by omega,fun _ _=>by omega⟩
  ·refine zIW hQ up id t' _ P1 hdn k1 (by omega) ?_ hD;rcases hreg with h1|⟨h1,h2,h3⟩
   ·exact .inl (by omega)
   ·exact .inr ⟨h1,by omega,fun _ h4=>by omega⟩
  ·omega
theorem zEO{Q:Prm}(hQ:Q.Ok)(g:Nat)(Z:Pz)(P:Pgr)(c:Int→List UInt8){D:Nat}{t:Ct D}(w:World)(ht:Tg w g Z P c)(T:Tree Q P c D t)(k:Key)(hreg:isK (Ct.cells D t) k=true→1+(Ct.subs D t).length+D+3≤90∨(zJS Q D∧1+(Ct.subs D t).length+z8B D≤90)):
 Calls Tryz.prog 30 #[.pointer (some ⟨g,0,none⟩),.string (st k)] w fun e w'=>∃P',z1S g Z P' c w w'∧Kin P P'∧
  (isK (Ct.cells D t) k=true∧e= .returned (.int .i64 0)∧P'=(delW P c k).1∧(∃D' t',DnR Q P' c D (delC (Ct.cells D t) k) D' t')∨isK (Ct.cells D t) k=false∧e= .returned (.int .i64 140)∧P'=P):=by
 obtain⟨wy,n,cs,h,cx,h1,h2,h3,a⟩:=T.way k;obtain⟨c1,c2,c3⟩:=a.cells;have hD:=T.deep hQ;have hkc:isK cs k=isK (Ct.cells D t) k:=by rw [c1,z5O c2 c3]
 have hwy:wy=(cx.steps h).reverse++ [⟨(h:Int),0,(true,n,cs)⟩]:=by
  have:=congrArg List.reverse h3;rw [List.reverse_reverse,List.reverse_cons]at this;exact this
 have hl:(cx.steps h).reverse.length=D:=by
  have h4:=congrArg List.length hwy;rw [List.length_append,h2]at h4;simp only [List.length_cons,List.length_nil]at h4;omega
 have hwp:=T.way k;rw [hwy]at h1;cases hik:isK (Ct.cells D t) k with
 |false=>
  refine(z8M g Z P c k (D+1) (cx.steps h).reverse ⟨(h:Int),0,(true,n,cs)⟩ w ht h1 (by omega) (fun hy=>by simp only at hy;rw [hkc,hik]at hy;cases hy)).mono ?_;rintro e w' ⟨rfl,hd⟩;have e0:deleteT P c ((cx.steps h).reverse++ [⟨(h:Int),0,(true,n,cs)⟩]) k=(P,140):=by
   unfold deleteT;simp only [List.reverse_append,List.reverse_cons,List.reverse_nil,List.nil_append,List.cons_append];rw [if_neg (by rw [hkc,hik];simp)]
  rw [e0]at hd ⊢;exact⟨P,hd,Kin.refl _,.inr ⟨rfl,rfl,rfl⟩⟩
 |true=>
  obtain⟨w2,g1,g2,g3,g4,D',t',R⟩:=zI4 hQ T hik (hreg hik);have hw2:w2=(cx.steps h).reverse++ [⟨(h:Int),0,(true,n,cs)⟩]:=zGH g1 h1;subst hw2;have hp:=z31 cx h (show Ct 0 from(n,cs)) a.root;have hw:t=cx.plug h (show Ct 0 from(n,cs)):=eq_of_heq (Sigma.mk.inj a.whole).2;rw [←hw]at hp;have hmem:(h,((true,n,cs):Pag))∈z9q D t:=hp.mem_iff.2 (List.mem_append_right _ (by exact List.mem_cons_self));have hleaf:=T.ok _ hmem;have hd:=hleaf.1.del k;have hb:=hd.1.big (hleaf.2.del k);have u:=a.upi T (cs':=delC cs k) hb fun lo hi h4 h5 y hy=>h5 y (z5F hy)
  have hlen:=z6F cs k;unfold z2O at hlen;rw [hkc,hik,if_pos rfl]at hlen;have hneed:cx.need Q≤Ct.n 0 (show Ct 0 from(n,delC cs k))+1:=by
   have h4:=a.need;have h5:Ct.n 0 (show Ct 0 from(n,cs))=cs.length:=rfl;have h6:Ct.n 0 (show Ct 0 from(n,delC cs k))=(delC cs k).length:=rfl;omega
  have hcnt:z2v cx h (show Ct 0 from(n,delC cs k))=1+(Ct.subs D t).length:=by
   rw [←u.pages,T.rep.len];unfold z9q;rw [List.length_cons];omega
  have hlf:z5U (P.pgD c) (0+1) h:=by
   refine⟨[⟨(h:Int),0,(true,n,cs)⟩],?_,rfl⟩;have:=T.rep.pgD hmem;rw [z38,this,if_pos (.inl rfl)]
  have hdn:=zIW hQ cx h _ _ P ⟨u,hlf,by have:=hd.1.parts.2.2;exact Nat.le_trans this (by omega)⟩ hd.1.parts.2.2 hneed (by
   rcases hreg hik with h4|⟨h4,h5⟩
   ·exact .inl (by omega)
   ·exact .inr ⟨h4,by omega,fun h0=>by omega⟩) (by omega)
  refine(z8M g Z P c k (D+1) (cx.steps h).reverse ⟨(h:Int),0,(true,n,cs)⟩ w ht h1 (by omega) (fun _=>zEJ g Z P c _ _ _ (by rw [List.reverse_reverse];exact hdn) (by omega))).mono ?_;rintro e w' ⟨rfl,hd2⟩;rw [g3];have e1:(delW P c k).1=(deleteT P c ((cx.steps h).reverse++ [⟨(h:Int),0,(true,n,cs)⟩]) k).1:=by rw [zFO h1 (by omega)]
  exact⟨_,hd2,g4,.inl ⟨rfl,rfl,e1.symm,D',t',R⟩⟩
theorem Tree.pgD_keys{Q:Prm}{P:Pgr}{c:Int→List UInt8}{D:Nat}{t:Ct D}(T:Tree Q P c D t)(i:Int):∀x∈(P.pgD c i).2.2,x.1.length≤Q.K:=by
 intro x hx;unfold Pgr.pgD at hx;cases hp:P.pg c i with
 |none=>rw [hp]at hx;simp [noPg]at hx
 |some p=>
  rw [hp]at hx;obtain⟨n,rfl,hm⟩:=(T.rep.rep.get i p).1 hp;exact(T.ok (n,p) hm).2.2 x hx
theorem zEF{Q:Prm}(hQ:Q.Ok)(g:Nat)(Z:Pz)(P:Pgr)(c:Int→List UInt8){D:Nat}{t:Ct D}(w:World)(ht:Tg w g Z P c)(T:Tree Q P c D t)(k v:List UInt8)(hk:k.length≤Q.K)(hx:k.length+v.length≤480)(hf:1+(Ct.subs D t).length+D+3≤90):
 Calls Tryz.prog 29 #[.pointer (some ⟨g,0,none⟩),.agg #[.string (st k),.string (st v)]] w fun e w'=>e= .returned (.int .i64 0)∧z1S g Z (putW P c (k,v)).1 c w w':=by
 obtain⟨wy,h1,h2,h3,h4,_⟩:=zFW hQ T (x:=(k,v)) hk hx hf;have hD:=T.deep hQ;have hK:=hQ.K;refine(zHG g Z P c k v (D+1) wy w ht (by omega) (by omega) h1 (by omega) (fun s hs x hx=> ?_)).mono ?_
 ·rw [zBO h1 s hs]at hx;have:=T.pgD_keys _ x hx;omega
 ·rintro e w' ⟨rfl,hd⟩;rw [h3,zFJ h1 (by omega)];exact⟨rfl,hd⟩
noncomputable def chgP(P:Pgr)(c:Int→List UInt8)(L:List Cel)(x:Chg):Pgr:=if x.gone then(if isK L x.k then(delW P c x.k).1 else P)else(putW P c (x.k,x.v)).1
def chgC(L:List Cel)(x:Chg):List Cel:=if x.gone then(if isK L x.k then delC L x.k else L)else putC L (x.k,x.v)
def z7h(Q:Prm)(D:Nat)(t:Ct D)(x:Chg):Prop:=
 if x.gone then(isK (Ct.cells D t) x.k=true→1+(Ct.subs D t).length+D+3≤90∨(zJS Q D∧1+(Ct.subs D t).length+z8B D≤90))
 else x.k.length≤Q.K∧x.k.length+x.v.length≤480∧1+(Ct.subs D t).length+D+3≤90
def VTgC(w:World)(g:Nat)(Z:Pz)(P:Pgr)(c:Int→List UInt8):VP:=fun _ wg=>z1S g Z P c w wg
theorem VTgC.stays{w:World}{g:Nat}{Z:Pz}{P:Pgr}{c:Int→List UInt8}:Stays (VTgC w g Z P c):=fun v w1 w2 hb h=>⟨h.1.later hb,h.2.trans (Ptp.below hb)⟩
theorem zF8{Q:Prm}(hQ:Q.Ok)(gs g gb:Nat)(Z:Pz)(P:Pgr)(c:Int→List UInt8){D:Nat}{t:Ct D}(w:World)(ht:Tg w g Z P c)(T:Tree Q P c D t){v1 v2:Value}(hs:Blk w gs 66 #[.pointer (some ⟨g,0,none⟩),v1,v2])(hb:Blk w gb 54 #[.pointer (some ⟨gs,0,none⟩)])(x:Chg)(hr:z7h Q D t x):
 Calls Tryz.prog 101 #[.agg #[.string (st x.k),.string (st x.v),.bool x.gone],.pointer (some ⟨gb,0,none⟩)] w fun e w'=>e= .returned (.tuple #[])∧z1S g Z (chgP P c (Ct.cells D t) x) c w w':=by
 obtain⟨k,v,gn⟩:=x;have q0:=(Below.refl w.heap.size w).alloc (Nat.le_refl _) (.cells #[.string (st k),.string (st v),.bool gn] 116);have HT:=zz (ht.later q0);have HS:=zz (hs.later q0);have HB:=zz (hb.later q0);have HX:=zz (Blk.new w 116 #[.string (st k),.string (st v),.bool gn]);have HNS:Hid (¬Z.has gs):=Pz.not_kind ht.pg (z0K hs) (by decide) (by decide) (by decide) (by decide);have HNB:Hid (¬Z.has gb):=Pz.not_kind ht.pg (z0K hb) (by decide) (by decide) (by decide) (by decide);have HNX:Hid (¬Z.has w.heap.size):=fun h=>by have:=ht.pg.lt h;omega
 have HNG:Hid (¬Z.has g):=ht.nz;have HPT:Hid (Ptp Z w Z (w.alloc (.cells #[.string (st k),.string (st v),.bool gn] 116))):=Ptp.below q0;have HR:=zz hr;obtain⟨P2,hP2⟩:∃P2,chgP P c (Ct.cells D t) ⟨k,v,gn⟩=P2:=⟨_,rfl⟩;have HP2:=zz hP2;rw [hP2];clear ht hs hb q0 hr hP2;go_enter Tryz.func101,Tryz.ntmps101
 go_upto_region 1 with(fail)
 generalize hW:w.alloc (.cells #[.string (st k),.string (st v),.bool gn] 116)=W at*;clear hW;generalize w.heap.size=gx at*;have hx:=HX.out;have x0:(W).cell? ⟨gx,0,none⟩=some (.string (st k)):=hx.cell 0;have x1:(W).cell? ⟨gx,1,none⟩=some (.string (st v)):=hx.cell 1;have x2:(W).cell? ⟨gx,2,none⟩=some (.bool gn):=hx.cell 2;clear hx;cases gn with
 |true=>
  have HDE:Hid (∀wg,Below W.heap.size W wg→Calls Tryz.prog 30 #[.pointer (some ⟨g,0,none⟩),.string (st k)] wg fun e w'=>∃v,e= .returned v∧Turn Z.has wg w'∧VTgC W g Z P2 c v w'):=fun wg hwg=>by
   refine(zEO hQ g Z P c wg (HT.out.later hwg) T k (by have:=HR.out;unfold z7h at this;exact this)).mono ?_;rintro e w' ⟨P',hd,hk,h|h⟩
   ·refine⟨_,h.2.1,hd.2.turn,?_⟩;have:P'=P2:=by
     rw [←HP2.out,h.2.2.1];simp [chgP,h.1]
    rw [←this];exact⟨hd.1,(Ptp.below hwg).trans hd.2⟩
   ·refine⟨_,h.2.1,hd.2.turn,?_⟩;have:P'=P2:=by
     rw [←HP2.out,h.2.2];simp [chgP,h.1]
    rw [←this];exact⟨hd.1,(Ptp.below hwg).trans hd.2⟩
  clear HP2 HR;have HK:Hid (∀wg,Turn (trE [TrP.of 6 Z.has]) W wg→Blk wg gb 54 #[.pointer (some ⟨gs,0,none⟩)]∧Blk wg gs 66 #[.pointer (some ⟨g,0,none⟩),v1,v2]∧Blk wg gx 116 #[.string (st k),.string (st v),.bool true]):=fun wg h=>by
   have hn:∀ {b:Nat},¬Z.has b→¬trE [TrP.of 6 Z.has] b:=fun {b} hb h1=>by
    obtain⟨p,hp,hF⟩:=h1;simp only [List.mem_cons,List.not_mem_nil,or_false]at hp;subst hp;exact hb hF
   exact⟨HB.out.turn h (hn HNB.out),HS.out.turn h (hn HNS.out),HX.out.turn h (hn HNX.out)⟩
  go_upto_region 2 with(fail)
  refine z1H [TrP.of 6 Z.has] (by kernel_rfl) (by kernel_rfl) ?_;apply Exists.intro;apply And.intro
  ·repeat(first
    |(apply z1D rfl
      intro K hK;go_simp;refine hK _ ?_;clear hK K)
    |(apply z1t rfl (by kernel_rfl)
      ·intro wg hwg _;have hb:=HK.out wg hwg;have b0:wg.cell? ⟨gb,0,none⟩=some (.pointer (some ⟨gs,0,none⟩)):=hb.1.cell 0;have s0:wg.cell? ⟨gs,0,none⟩=some (.pointer (some ⟨g,0,none⟩)):=hb.2.1.cell 0;have k0:wg.cell? ⟨gx,0,none⟩=some (.string (st k)):=hb.2.2.cell 0;unfold z06;go_simp
       first
        |exact z00 _ _
        |(fail)
      intro K hK;go_simp;refine hK _ ?_;clear hK K))
   apply z3U (V:=VTgC W g Z P2 c) (TrP.of 6 Z.has);exact rfl
   kernel_rfl
   ·intro wg hwg hf;have hwg2:=z59 (fun p hp=>by simp only [List.mem_cons,List.not_mem_nil,or_false]at hp;subst hp;exact .inl rfl) hwg;clear hwg hf;unfold steps;go_simp;apply z20;exact HDE.out wg hwg2
   intro xv hxv K hK;obtain⟨wx,hwx,hbx⟩:=hxv
   skip
   go_simp;refine hK _ ?_;clear hK K hbx hwx;refine z32 (fun wf hE hf=> ?_);have g6:=hf 6 _ _ rfl;clear hf hE;have H6:Hid (z1S g Z P2 c w wf):=⟨g6.1,HPT.out.trans g6.2⟩;clear g6;go_wp2_with fail
   refine bodyPost_ret (results_none rfl _ _ _) rfl ?_;exact⟨rfl,H6.out⟩
  ·apply And.intro
   ·repeat(first
     |exact trivial
     |(refine⟨z61 _ _,?_⟩)
     |(refine⟨z9B VTgC.stays (fun p hp hn hw=>by simp only [List.mem_cons,List.not_mem_nil,or_false]at hp;subst hp;exact absurd rfl hn),?_⟩)
     )
   ·rfl
 |false=>
  have HPU:Hid (∀wg,Below W.heap.size W wg→Calls Tryz.prog 29 #[.pointer (some ⟨g,0,none⟩),.agg #[.string (st k),.string (st v)]] wg fun e w'=>∃v,e= .returned v∧Turn Z.has wg w'∧VTgC W g Z P2 c v w'):=fun wg hwg=>by
   have hr:=HR.out;unfold z7h at hr;simp only [Bool.false_eq_true,if_false]at hr;refine(zEF hQ g Z P c wg (HT.out.later hwg) T k v hr.1 hr.2.1 hr.2.2).mono ?_;rintro e w' ⟨rfl,hd⟩;have:(putW P c (k,v)).1=P2:=by rw [←HP2.out];simp [chgP]
   rw [this]at hd;exact⟨_,rfl,hd.2.turn,hd.1,(Ptp.below hwg).trans hd.2⟩
  clear HP2 HR;have HK:Hid (∀wg,Turn (trE [TrP.of 9 Z.has]) W wg→Blk wg gb 54 #[.pointer (some ⟨gs,0,none⟩)]∧Blk wg gs 66 #[.pointer (some ⟨g,0,none⟩),v1,v2]∧Blk wg gx 116 #[.string (st k),.string (st v),.bool false]):=fun wg h=>by
   have hn:∀ {b:Nat},¬Z.has b→¬trE [TrP.of 9 Z.has] b:=fun {b} hb h1=>by
    obtain⟨p,hp,hF⟩:=h1;simp only [List.mem_cons,List.not_mem_nil,or_false]at hp;subst hp;exact hb hF
   exact⟨HB.out.turn h (hn HNB.out),HS.out.turn h (hn HNS.out),HX.out.turn h (hn HNX.out)⟩
  go_upto_region 3 with(fail)
  refine z1H [TrP.of 9 Z.has] (by kernel_rfl) (by kernel_rfl) ?_;apply Exists.intro;apply And.intro
  ·repeat(first
    |(apply z1D rfl
      intro K hK;go_simp;refine hK _ ?_;clear hK K)
    |(apply z1t rfl (by kernel_rfl)
      ·intro wg hwg _;have hb:=HK.out wg hwg;have b0:wg.cell? ⟨gb,0,none⟩=some (.pointer (some ⟨gs,0,none⟩)):=hb.1.cell 0;have s0:wg.cell? ⟨gs,0,none⟩=some (.pointer (some ⟨g,0,none⟩)):=hb.2.1.cell 0;have k0:wg.cell? ⟨gx,0,none⟩=some (.string (st k)):=hb.2.2.cell 0;have k1:wg.cell? ⟨gx,1,none⟩=some (.string (st v)):=hb.2.2.cell 1;unfold z06;go_simp
       first
        |exact z00 _ _
        |(fail)
      intro K hK;go_simp;refine hK _ ?_;clear hK K))
   apply z3U (V:=VTgC W g Z P2 c) (TrP.of 9 Z.has);exact rfl
   kernel_rfl
   ·intro wg hwg hf;have hwg2:=z59 (fun p hp=>by simp only [List.mem_cons,List.not_mem_nil,or_false]at hp;subst hp;exact .inl rfl) hwg;clear hwg hf;unfold steps;go_simp;apply z20;exact HPU.out wg hwg2
   intro xv hxv K hK;obtain⟨wx,hwx,hbx⟩:=hxv
   skip
   go_simp;refine hK _ ?_;clear hK K hbx hwx;refine z32 (fun wf hE hf=> ?_);have g6:=hf 9 _ _ rfl;clear hf hE;have H6:Hid (z1S g Z P2 c w wf):=⟨g6.1,HPT.out.trans g6.2⟩;clear g6;go_wp2_with fail
   go_end0
   exact⟨rfl,H6.out⟩
  ·apply And.intro
   ·repeat(first
     |exact trivial
     |(refine⟨z61 _ _,?_⟩)
     |(refine⟨z9B VTgC.stays (fun p hp hn hw=>by simp only [List.mem_cons,List.not_mem_nil,or_false]at hp;subst hp;exact absurd rfl hn),?_⟩)
     )
   ·rfl
noncomputable def chgsP(c:Int→List UInt8):Pgr→List Cel→List Chg→Pgr
 |P,_,[]=>P
 |P,L,x::r=>chgsP c (chgP P c L x) (chgC L x) r
def chgsC(L:List Cel)(l:List Chg):List Cel:=l.foldl chgC L
def z4B(Q:Prm)(c:Int→List UInt8):Pgr→List Cel→List Chg→Prop
 |_,_,[]=>True
 |P,L,x::r=>(∃D,∃t:Ct D,Tree Q P c D t∧Ct.cells D t=L∧z7h Q D t x)∧z4B Q c (chgP P c L x) (chgC L x) r
structure DoSt(Q:Prm)(W0 wr:World)(g:Nat)(Z:Pz)(c:Int→List UInt8)(R P:Pgr)(L:List Cel)(r:List Chg):Prop where
 T:z1S g Z P c W0 wr
 K:z4B Q c P L r
 E:chgsP c P L r=R
theorem zCn{Q:Prm}(hQ:Q.Ok)(gs g:Nat)(Z:Pz)(P:Pgr)(c:Int→List UInt8)(L:List Cel)(l:List Chg)(w:World)(v0:Value)(ht:Tg w g Z P c){v1 v2:Value}(hs:Blk w gs 66 #[.pointer (some ⟨g,0,none⟩),v1,v2])(hr:Ch (fun b=>¬Z.has b) w v0 l)(hk:z4B Q c P L l)(hl:l.length≤1000000):
 Calls Tryz.prog 57 #[.pointer (some ⟨gs,0,none⟩),v0] w fun e w'=>e= .returned (.tuple #[])∧z1S g Z (chgsP c P L l) c w w':=by
 have q0:=(Below.refl w.heap.size w).alloc (Nat.le_refl _) (.cells #[.pointer (some ⟨gs,0,none⟩)] 54);have HNS:Hid (¬Z.has gs):=Pz.not_kind ht.pg (z0K hs) (by decide) (by decide) (by decide) (by decide);have HNB:Hid (¬Z.has w.heap.size):=fun h=>by have:=ht.pg.lt h;omega
 have HS:=zz (hs.later q0);have HB:=zz (Blk.new w 54 #[.pointer (some ⟨gs,0,none⟩)]);have HPT:Hid (Ptp Z w Z (w.alloc (.cells #[.pointer (some ⟨gs,0,none⟩)] 54))):=Ptp.below q0;obtain⟨R,hR⟩:∃R,chgsP c P L l=R:=⟨_,rfl⟩;have R0:Hid (DoSt Q (w.alloc (.cells #[.pointer (some ⟨gs,0,none⟩)] 54)) (w.alloc (.cells #[.pointer (some ⟨gs,0,none⟩)] 54)) g Z c R P L (l.drop 0)):=⟨⟨ht.later q0,Ptp.refl _ _⟩,hk,hR⟩;have hr1:Ch (fun b=>¬Z.has b∧b<w.heap.size) w v0 l:=Sl.lt hr (by omega);have hr2:Ch (fun b=>¬Z.has b∧b<w.heap.size) (w.alloc (.cells #[.pointer (some ⟨gs,0,none⟩)] 54)) v0 l:=Sl.below hr1 q0 fun b h=>h.2
 obtain⟨A,c0,rfl,hlc,hcm,hA0,hA⟩:=hr2.at;have hsz0:=q0.size;have HA:Hid (0<l.length→∃b o,A=some ⟨b,o,none⟩∧(¬Z.has b∧b<(w.alloc (.cells #[.pointer (some ⟨gs,0,none⟩)] 54)).heap.size)∧∀j (hj:j<l.length),(w.alloc (.cells #[.pointer (some ⟨gs,0,none⟩)] 54)).cell? ⟨b,o+j*3,none⟩=some (.string (st l[j].k))∧(w.alloc (.cells #[.pointer (some ⟨gs,0,none⟩)] 54)).cell? ⟨b,o+j*3+1,none⟩=some (.string (st l[j].v))∧(w.alloc (.cells #[.pointer (some ⟨gs,0,none⟩)] 54)).cell? ⟨b,o+j*3+2,none⟩=some (.bool l[j].gone)):=fun h=>by
  obtain⟨b,o,h1,h2,h3⟩:=hA h;exact⟨b,o,h1,⟨h2.1,by omega⟩,h3⟩
 rw [hR];clear ht hs hr hr1 hr2 hk hR hA hA0 q0 hsz0;go_enter Tryz.func57,Tryz.ntmps57
 go_upto_region 1 with(fail)
 generalize hW0:w.alloc (.cells #[.pointer (some ⟨gs,0,none⟩)] 54)=W0 at*;clear hW0;generalize w.heap.size=gb at*;go_wp2_with fail
 go_loopw [10] (fun iv wr=>∃ (i:Nat) (P':Pgr) (L':List Cel),iv= .int .i64 (i:Int)∧i≤l.length∧Hid (DoSt Q W0 wr g Z c R P' L' (l.drop i))) (fun iv _=>l.length-(intOf iv).toNat)
 case atStart=>exact⟨0,P,L,rfl,by omega,R0⟩
 case round=>
  clear R0;obtain⟨i,P',L',rfl,hi,RR⟩:=hrel;have HT:=zz RR.out.T;by_cases hil:i<l.length
  ·obtain⟨b,o,rfl,hbs,hc⟩:=HA.out (by omega);have hdr:l.drop i=l[i]::l.drop (i+1):=List.drop_eq_getElem_cons hil;have hk:=RR.out.K;have hE:=RR.out.E;rw [hdr]at hk hE;have htn:∀q,wr.cell? ⟨b,q,none⟩=W0.cell? ⟨b,q,none⟩:=fun q=>World.cell?_of_block (HT.out.2.turn.block b hbs.2 hbs.1)
   have c0:wr.cell? ⟨b,o+i*3,none⟩=some (.string (st l[i].k)):=(htn _).trans (hc i hil).1;have c1:wr.cell? ⟨b,o+i*3+1,none⟩=some (.string (st l[i].v)):=(htn _).trans (hc i hil).2.1;have c2:wr.cell? ⟨b,o+i*3+2,none⟩=some (.bool l[i].gone):=(htn _).trans (hc i hil).2.2;obtain⟨x,hx0⟩:∃x,l[i]=x:=⟨_,rfl⟩;rw [hx0]at c0 c1 c2 hk hE;clear hx0 hc htn hdr RR;have HK:=zz hk;have HE:=zz hE;have qx:=(Below.refl wr.heap.size wr).alloc (Nat.le_refl _) (.cells #[.string (st x.k),.string (st x.v),.bool x.gone] 116);have H5:Hid (z1S g Z P' c W0 (wr.alloc (.cells #[.string (st x.k),.string (st x.v),.bool x.gone] 116))):=⟨HT.out.1.later qx,HT.out.2.trans (Ptp.below qx)⟩;have HX:=zz (Blk.new wr 116 #[.string (st x.k),.string (st x.v),.bool x.gone]);clear hk hE qx HT;go_upto_region 5 with(fail)
   generalize hW5:wr.alloc (.cells #[.string (st x.k),.string (st x.v),.bool x.gone] 116)=W5 at*;clear hW5;generalize wr.heap.size=gx at*;have hx:=HX.out;have x0:(W5).cell? ⟨gx,0,none⟩=some (.string (st x.k)):=hx.cell 0;have x1:(W5).cell? ⟨gx,1,none⟩=some (.string (st x.v)):=hx.cell 1;have x2:(W5).cell? ⟨gx,2,none⟩=some (.bool x.gone):=hx.cell 2;clear hx;obtain⟨⟨D,t,hT,hL,hroom⟩,hk2⟩:=HK.out;subst hL;have HRM:=zz hroom;have HK2:=zz hk2;have hs5:=zz (HS.out.turn H5.out.2.turn HNS.out);have hb5:=zz (HB.out.turn H5.out.2.turn HNB.out);clear hroom hk2 HK c0 c1 c2;go_wp2_with fail
   refine(zF8 hQ gs g gb Z P' c W5 H5.out.1 hT hs5.out hb5.out x HRM.out).mono ?_;rintro e w6 ⟨rfl,hd6⟩;have RF:Hid (DoSt Q W0 w6 g Z c R (chgP P' c (Ct.cells D t) x) (chgC (Ct.cells D t) x) (l.drop (i+1))):=⟨⟨hd6.1,H5.out.2.trans hd6.2⟩,HK2.out,HE.out⟩;clear hd6 HK2 HE HRM hs5 hb5 hT x0 x1 x2;go_wp2_with fail
   go_roundw
   case rel=>exact⟨i+1,_,_,by go_num,by omega,RF⟩
   case measure=>simp [intOf];omega
  ·obtain rfl:i=l.length:=by omega
   have hE:=RR.out.E;rw [List.drop_length]at hE;have hF:z1S g Z R c w wr:=by
    have h1:=HT.out;rw [show P'=R from hE]at h1;exact⟨h1.1,HPT.out.trans h1.2⟩
   have HF:=zz hF;clear hF hE HT RR;go_wp2_with fail
   go_end0
   exact⟨rfl,HF.out⟩
def stKs:List (Option TypeId):= [some 180,some 184,some 5,some 102,some 66]
theorem Ptp.sameK{ks:List (Option TypeId)}{Z Z':Pz}{w w':World}{P:Pgr}(s:Ptp Z w Z' w')(p:Pg w Z P)(h1:some 91∉ks)(h2:some 151∉ks)(h3:some 76∉ks)(h0:none∉ks)(h4:some 124∉ks):SameK ks w w':=fun b t ht hb=>
 s.turn.block b (z3B hb) fun e=>by
  rcases p.kinds e with h|h|h|h|h
  ·exact SameK.not h h1 hb ht
  ·exact SameK.not h h2 hb ht
  ·exact SameK.not h h3 hb ht
  ·exact SameK.not h h0 hb ht
  ·exact SameK.not h h4 hb ht
theorem Lg.tree{Z:Pz}{w w':World}{P P':Pgr}{gl:Nat}{l:Wl}(g:Lg w gl Z.h l)(s:Ptp Z w Z w')(p:Pg w Z P)(p':Pg w' Z P')(hD:P'.D=P.D)(hl:l.D=P.D):Lg w' gl Z.h l:=by
 obtain⟨lv,sv,g⟩:=g;have hs:SameK stKs w w':=s.sameK p (by decide) (by decide) (by decide) (by decide) (by decide);exact⟨lv,sv,by rw [hl,←hD];exact p'.dk,g.lb.sameK hs (by decide),KSl.same g.live hs (by decide),g.str.same hs (by decide)⟩
def Pgr.on(P:Pgr)(D:Dsk):Pgr:={P with D:=D}
def Pz.on(Z:Pz)(h:Zn):Pz:={Z with h:=h}
theorem Wrt.at{w w':World}{b:Nat}{f:SF}(h:Wrt w b f)(hb:w'.heap[b]? =w.heap[b]?)(hs:SameK [some 5] w w'):Wrt w' b f:=by
 refine⟨h.in90,?_⟩;obtain⟨m,hm,hr⟩:=h.mp;exact⟨m,hm.at hb,fun a ha=>(hr a ha).keep fun _ _ h=>h.same hs (by decide)⟩
theorem Pg.log{Z:Pz}{w w':World}{P:Pgr}{gl:Nat}{h':Zn}{D':Dsk}{cs:Array Value}(p:Pg w Z P)(k:Dk w' h' D')(m:Mtp Z.h gl w h' w')(hl:Blk w gl 180 cs):Pg w' (Z.on h') (P.on D'):=by
 have hs:SameK [some 151,some 91,some 5] w w':=m.sameL p.dk hl (by decide) (by decide) (by decide) (by decide);have hk:∀b,b<w.heap.size→z0H w b=some none→¬Z.h.has b→w'.heap[b]? =w.heap[b]? :=fun b hb hk hn=>m.turn.block b hb (by
  rintro(e|e)
  ·exact hn e
  ·subst e;rw [z0K hl]at hk;cases hk)
 have hn:∀b,b<w.heap.size→¬Z.h.has b→¬h'.has b:=fun b hb hn e=>(m.has b e).elim hn fun h=>by omega
 have hb:=p.blk.sameK hs (by decide);have hm:=p.mt.blk.sameK hs (by decide);exact⟨k,⟨by show Blk w' Z.gm _ #[.pointer (some ⟨h'.g,0,none⟩),_,_,_];rw [m.g];exact hm⟩,by show Blk w' Z.g _ #[.pointer (some ⟨h'.g,0,none⟩),_,_,_,_,_,_,_];rw [m.g];exact hb,
  p.tb.at (hk _ p.tb.lt p.tb.kind p.m1),p.wr.at (hk _ p.wr.lt p.wr.kind p.m2) (hs.less (by decide)),p.gn.at (hk _ p.gn.lt p.gn.kind p.m3),p.n1,p.n2,p.n3,hn _ p.tb.lt p.m1,hn _ p.wr.lt p.m2,hn _ p.gn.lt p.m3⟩
theorem zId{w:World}{gl hg:Nat}{a:Int}{n size:Nat}{lv sv:Value}{last synced:Nat}(h:BitsOk w)(hl:Lb w gl hg a n size lv sv last synced):gl≠0:=by
 rintro rfl;have h0:=h 0 (by omega);rw [Blk.cell hl 0]at h0;cases h0
theorem Tg.log{Z:Pz}{w w':World}{P:Pgr}{c:Int→List UInt8}{g gl hg n size last synced:Nat}{a:Int}{lv sv:Value}{h':Zn}{D':Dsk}(t:Tg w g Z P c)(k:Dk w' h' D')(m:Mtp Z.h gl w h' w')(hl:Lb w gl hg a n size lv sv last synced)(hok:D'.Ok)(hst:z44 D' P.a P.tb c):Tg w' g (Z.on h') (P.on D') c:=by
 have hs:SameK [some 102] w w':=m.sameL t.pg.dk hl (by decide) (by decide) (by decide) (by decide);have hz:¬Z.h.has 0:=fun h=>t.z0 (.inr (.inr (.inr (.inr (.inr h)))))
 refine⟨t.pg.log k m hl,t.blk.sameK hs (by decide),⟨hok,hst,t.pr.wlen,t.pr.a0,t.pr.a1⟩,fun i hi=> ?_,?_⟩
 ·have hb:=m.turn.block 0 t.bits.pos (by
   rintro(e|e)
   ·exact hz e
   ·exact zId t.bits hl e.symm)
  rw [←t.bits i hi];unfold World.cell?;rw [hb]
 ·have hp:=t.bits.pos;rintro(e|e|e|e|e|e)
  ·exact t.z0 (.inl e)
  ·exact t.z0 (.inr (.inl e))
  ·exact t.z0 (.inr (.inr (.inl e)))
  ·exact t.z0 (.inr (.inr (.inr (.inl e))))
  ·exact t.z0 (.inr (.inr (.inr (.inr (.inl e)))))
  ·rcases m.has 0 e with h|h
   ·exact hz h
   ·omega
structure Sop(gl:Nat)(Z:Pz)(w:World)(Z':Pz)(w':World):Prop where
 g:Z'.g=Z.g
 hg:Z'.h.g=Z.h.g
 turn:Turn (fun b=>Z.has b∨b=gl) w w'
 has:∀b,Z'.has b→Z.has b∨w.heap.size≤b
section
variable {gl:Nat} {Z Z1 Z':Pz} {w w1 w':World}
theorem Sop.below(hb:Below w.heap.size w w'):Sop gl Z w Z w':=⟨rfl,rfl,Turn.of_below hb,fun _ h=> .inl h⟩
theorem Sop.trans(a:Sop gl Z w Z1 w1)(b:Sop gl Z1 w1 Z' w'):Sop gl Z w Z' w':=
 ⟨b.g.trans a.g,b.hg.trans a.hg,a.turn.trans b.turn (fun x hx=>hx.elim (fun h=>(a.has x h).elim (fun h=> .inl (.inl h)) .inr) fun h=> .inl (.inr h)),fun x hx=>(b.has x hx).elim (a.has x) fun h=> .inr (Nat.le_trans a.turn.size h)⟩
theorem Sop.ptp(s:Ptp Z w Z' w'):Sop gl Z w Z' w':=⟨s.g,s.hg,s.turn.mono fun b hb _=> .inl hb,s.has⟩
theorem Sop.mtp{h':Zn}(m:Mtp Z.h gl w h' w'):Sop gl Z w (Z.on h') w':=⟨rfl,m.g,m.turn.mono fun b hb _=>hb.elim (fun h=> .inl (.inr (.inr (.inr (.inr (.inr h)))))) .inr,fun b hb=>by
 rcases hb with e|e|e|e|e|e
 ·exact .inl (.inl e)
 ·exact .inl (.inr (.inl e))
 ·exact .inl (.inr (.inr (.inl e)))
 ·exact .inl (.inr (.inr (.inr (.inl e))))
 ·exact .inl (.inr (.inr (.inr (.inr (.inl e)))))
 ·exact(m.has b e).imp (fun h=> .inr (.inr (.inr (.inr (.inr h))))) id⟩
end
structure Sto(w:World)(gs g gl:Nat)(Z:Pz)(P:Pgr)(c:Int→List UInt8)(l:Wl):Prop where
 blk:Blk w gs 66 #[.pointer (some ⟨g,0,none⟩),.pointer (some ⟨Z.g,0,none⟩),.pointer (some ⟨gl,0,none⟩)]
 T:Tg w g Z P c
 lg:Lg w gl Z.h l
 D:l.D=P.D
 ok:l.Ok
section
variable {gs g gl:Nat} {Z:Pz} {w w':World} {P P':Pgr} {c:Int→List UInt8} {l l':Wl}
theorem Sto.later(s:Sto w gs g gl Z P c l)(hb:Below w.heap.size w w'):Sto w' gs g gl Z P c l:=⟨s.blk.later hb,s.T.later hb,s.lg.later hb,s.D,s.ok⟩
theorem Sto.tree(s:Sto w gs g gl Z P c l)(d:z1S g Z P' c w w')(hD:P'.D=P.D):Sto w' gs g gl Z P' c l:=by
 have hs:SameK stKs w w':=d.2.sameK s.T.pg (by decide) (by decide) (by decide) (by decide) (by decide);exact⟨s.blk.sameK hs (by decide),d.1,s.lg.tree d.2 s.T.pg d.1.pg hD s.D,by rw [hD];exact s.D,s.ok⟩
theorem Sto.log(s:Sto w gs g gl Z P c l){h':Zn}(hl:Lg w' gl h' l')(m:Mtp Z.h gl w h' w')(hok:l'.Ok)(hst:z44 l'.D P.a P.tb c):Sto w' gs g gl (Z.on h') (P.on l'.D) c l':=by
 obtain⟨lv,sv,v⟩:=s.lg;have hs:SameK [some 66] w w':=m.sameL s.T.pg.dk v.lb (by decide) (by decide) (by decide) (by decide);obtain⟨_,_,v'⟩:=id hl;exact⟨s.blk.sameK hs (by decide),s.T.log v'.dk m v.lb hok.dok hst,hl,rfl,hok⟩
end
noncomputable def z3T(P:Pgr)(c:Int→List UInt8)(L:List Cel)(l:Wl)(x:List Chg):Pgr×Wl×Nat×Nat:=
 if z3W P x=0 then
  (if(z0F l (z0V x)).2.2=0 then(chgsP c (P.on (z0F l (z0V x)).1.D) L x,(z0F l (z0V x)).1,(z0F l (z0V x)).2.1,0)
  else(P.on (z0F l (z0V x)).1.D,(z0F l (z0V x)).1,0,(z0F l (z0V x)).2.2))
 else(P,l,0,z3W P x)
def zCK(P:Pgr)(c:Int→List UInt8)(l:Wl)(t:List UInt8):Prop:=z44 (z0F l t).1.D P.a P.tb c
structure StoDone(w w':World)(gs g gl:Nat)(Z:Pz)(P':Pgr)(c:Int→List UInt8)(l':Wl)(Z':Pz):Prop where
 s:Sto w' gs g gl Z' P' c l'
 o:Sop gl Z w Z' w'
theorem Kin.putT(P:Pgr)(l:List TStp)(x:Cel):Kin P (putT P l x).1:=by
 unfold Go.Proofs.YthbhkdhljlganaaGreatDoor.putT
 split
 ·exact Kin.refl P
 ·split
  ·exact Kin.refl P
  ·split
   ·exact Kin.refl P
   ·split
    ·exact Kin.refl P
    ·exact Kin.up _ _ _ _
theorem Kin.deleteT(P:Pgr)(c:Int→List UInt8)(l:List TStp)(k:List UInt8):Kin P (deleteT P c l k).1:=by
 unfold Go.Proofs.YthbhkdhljlganaaGreatDoor.deleteT
 split
 ·exact Kin.refl P
 ·split
  ·exact Kin.down _ _ _ _ _
  ·exact Kin.refl P
theorem Kin.chgP(P:Pgr)(c:Int→List UInt8)(L:List Cel)(x:Chg):Kin P (chgP P c L x):=by
 unfold Go.Proofs.YthbhkdhljlganaaGreatDoor.chgP
 split
 ·split
  ·exact Kin.deleteT _ _ _ _
  ·exact Kin.refl P
 ·exact Kin.putT _ _ _
theorem chgP_D(P:Pgr)(c:Int→List UInt8)(L:List Cel)(x:Chg):(chgP P c L x).D=P.D:=(Kin.chgP P c L x).D
theorem zC0(c:Int→List UInt8):∀ (l:List Chg) (P:Pgr) (L:List Cel),(chgsP c P L l).D=P.D
 | [],P,L=>rfl
 |x::r,P,L=>by
  rw [chgsP,zC0 c r,chgP_D]
theorem Mtp.behind{h h':Zn}{g:Nat}{w w1 w':World}(m:Mtp h g w1 h' w')(hb:Below w.heap.size w w1):Mtp h g w h' w':=
 ⟨m.g,(Turn.of_below hb).trans m.turn fun x hx=> .inl hx,fun x hx=>(m.has x hx).imp id fun h=>Nat.le_trans hb.size h⟩
def VApl(w:World)(gl:Nat)(h:Zn)(r:Wl×Nat×Nat):VP:=fun v wg=>v= .tuple #[.int .u64 (r.2.1:Int),.int .i64 (r.2.2:Int)]∧∃h',Lg wg gl h' r.1∧Mtp h gl w h' wg
theorem VApl.stays{w:World}{gl:Nat}{h:Zn}{r:Wl×Nat×Nat}:Stays (VApl w gl h r):=fun v w1 w2 hb ⟨he,h',hl,hm⟩=>
 ⟨he,h',hl.later hb,hm.g,hm.turn.trans (Turn.of_below hb) fun x hx=> .inl hx,hm.has⟩
theorem zAn{l:List Chg}(h:zGQ l):(z0V l).length≤100000:=by
 have:=z4Z h.2;unfold z0V;rw [List.length_append];have h2:=z2j 8 l.length (by have:=h.1;omega);have h3:=h.1;omega
theorem zDF{Q:Prm}(hQ:Q.Ok)(gs g gl:Nat)(Z:Pz)(P:Pgr)(c:Int→List UInt8)(L:List Cel)(l:Wl)(x:List Chg)(w:World)(v0:Value)(hs:Sto w gs g gl Z P c l)(hr:Ch (fun b=>¬Z.has b∧b≠gl) w v0 x)(hx:x.length≤1000000∧∀y∈x,y.k.length≤65536∧y.v.length≤65536)
 (hp:l.D.pend.length≤800000) (hk:z3W P x=0→zCK P c l (z0V x)∧((z0F l (z0V x)).2.2=0→z4B Q c (P.on (z0F l (z0V x)).1.D) L x)):
 Calls Tryz.prog 21 #[.pointer (some ⟨gs,0,none⟩),v0] w fun e w'=>e= .returned (.tuple #[.int .u64 ((z3T P c L l x).2.2.1:Int),.int .i64 ((z3T P c L l x).2.2.2:Int)])∧∃Z',StoDone w w' gs g gl Z (z3T P c L l x).1 c (z3T P c L l x).2.1 Z':=by
 have HS:=zz hs;have HR:=zz hr;have HK:=zz hk;obtain⟨A,c0,rfl,hxc,hcm,-,-⟩:=hr.at;obtain⟨R,hR⟩:∃R,z3T P c L l x=R:=⟨_,rfl⟩;have HRR:=zz hR;rw [hR];have hmy:=zCb gs Z P _ _ x w hs.T.pg hs.blk hr hx.1 hx.2;have HMY:=zz hmy;clear hmy hs hr hk hR hx;go_enter Tryz.func21,Tryz.ntmps21
 go_wp2_with fail
 refine HMY.out.mono ?_;rintro e w1 ⟨rfl,hb1⟩;clear HMY;have HS1:=zz (HS.out.later hb1);have HR1:Hid (Ch (fun b=>(¬Z.has b∧b≠gl)∧b<w1.heap.size) w1 (.slice A x.length c0) x):=by
  have h1:Ch (fun b=>(¬Z.has b∧b≠gl)∧b<w.heap.size) w (.slice A x.length c0) x:=Sl.lt HR.out (by omega);have hsz:=hb1.size;exact(Sl.below h1 hb1 fun b h=>h.2).more fun b h=>⟨h.1,by omega⟩
 have HB1:=zz hb1;clear hb1 HR HS;by_cases hm:z3W P x=0
 ·have HK2:=zz (HK.out hm);obtain⟨r,hr0⟩:∃r,z0F l (z0V x)=r:=⟨_,rfl⟩;have HRE:Hid ((if r.2.2=0 then(chgsP c (P.on r.1.D) L x,r.1,r.2.1,0)else(P.on r.1.D,r.1,0,r.2.2))=R):=by
   rw [Hid,←HRR.out];unfold z3T;rw [if_pos hm,hr0]
  have hz:((z3W P x:Nat):Int)=0:=by omega
  rw [hz];have HK3:Hid (z44 r.1.D P.a P.tb c∧(r.2.2=0→z4B Q c (P.on r.1.D) L x)):=by
   have:=HK2.out;unfold zCK at this;rw [hr0]at this;exact this
  have HRO:=zz hr0;have HCO:=zz (zAZ hm);have HOK:Hid (r.1.Ok):=by rw [←hr0];exact Wl.Ok.append HS1.out.ok _
  clear hz hr0 hm HK HK2 HRR;go_upto_region 4 with(fail)
  have HSH:Hid (∀wg,Below w1.heap.size w1 wg→Calls Tryz.prog 56 #[.slice A x.length c0] wg fun e w'=>e= .returned (.string (st (z0V x)))∧Below wg.heap.size wg w'):=fun wg hwg=>zGV _ _ x wg (Sl.below HR1.out hwg fun b h=>h.2) HCO.out
  have HAP:Hid (∀wg,Below w1.heap.size w1 wg→Calls Tryz.prog 55 #[.pointer (some ⟨gl,0,none⟩),.string (st (z0V x))] wg fun e w'=>∃v,e= .returned v∧Turn (fun b=>Z.h.has b∨b=gl) wg w'∧VApl w1 gl Z.h r v w'):=fun wg hwg=>by
   have hsl:=zAn HCO.out;refine(z9r Z.h l gl (z0V x) wg (HS1.out.lg.later hwg) HS1.out.ok (HS1.out.T.bits.later hwg) (by omega) hp).mono ?_;rintro e w' ⟨rfl,h',hlg,hm⟩;rw [HRO.out]at hlg ⊢;exact⟨_,rfl,hm.turn,rfl,h',hlg,hm.behind hwg⟩
  have HGL:Hid (∃cs,Blk w1 gl 180 cs):=by
   obtain⟨lv,sv,v⟩:=HS1.out.lg;exact⟨_,v.lb⟩
  have HK4:Hid (∀wg,Turn (trE [TrP.of 6 (fun b=>Z.h.has b∨b=gl)]) w1 wg→Blk wg gs 66 #[.pointer (some ⟨g,0,none⟩),.pointer (some ⟨Z.g,0,none⟩),.pointer (some ⟨gl,0,none⟩)]):=fun wg h=>HS1.out.blk.turn h (by
   rintro⟨p,hp,hF⟩;simp only [List.mem_cons,List.not_mem_nil,or_false]at hp;subst hp;rcases hF with hF|hF
   ·exact Pz.not_kind HS1.out.T.pg (z0K HS1.out.blk) (by decide) (by decide) (by decide) (by decide) (.inr (.inr (.inr (.inr (.inr hF)))))
   ·obtain⟨cs,hcs⟩:=HGL.out;exact absurd hF (Blk.ne HS1.out.blk hcs (by decide)))
  clear HGL;refine z1H [TrP.of 6 (fun b=>Z.h.has b∨b=gl)] (by kernel_rfl) (by kernel_rfl) ?_;apply Exists.intro;apply And.intro
  ·repeat(first
    |(apply z1D rfl
      intro K hK;go_simp;refine hK _ ?_;clear hK K)
    |(apply z1t rfl (by kernel_rfl)
      ·intro wg hwg _;have hb:=HK4.out wg hwg;have s2:wg.cell? ⟨gs,2,none⟩=some (.pointer (some ⟨gl,0,none⟩)):=hb.cell 2;unfold z06;go_simp
       first
        |exact z00 _ _
        |(fail)
      intro K hK;go_simp;refine hK _ ?_;clear hK K))
   apply zCC (c:= .string (st (z0V x))) rfl (by kernel_rfl)
   ·intro wg hwg hf;have hwg2:=z59 (fun p hp=>by simp only [List.mem_cons,List.not_mem_nil,or_false]at hp;subst hp;exact .inr (by kernel_rfl)) hwg;unfold z06;go_simp;exact z0x (HSH.out wg hwg2)
   intro K hK;go_simp;refine hK _ ?_;clear hK K;apply z3U (V:=VApl w1 gl Z.h r) (TrP.of 6 (fun b=>Z.h.has b∨b=gl));exact rfl
   kernel_rfl
   ·intro wg hwg hf;have hwg2:=z59 (fun p hp=>by simp only [List.mem_cons,List.not_mem_nil,or_false]at hp;subst hp;exact .inl rfl) hwg;clear hwg hf;unfold steps;go_simp;apply z20;exact HAP.out wg hwg2
   intro xv hxv K hK;obtain⟨wx,hwx,hbx⟩:=hxv;have hbo:=hbx;obtain⟨rfl,_⟩:=hbo;go_simp;refine hK _ ?_;clear hK K hbx hwx
   repeat(first
    |(apply z1D rfl
      intro K hK;go_simp;refine hK _ ?_;clear hK K)
    |(apply z1t rfl (by kernel_rfl)
      ·intro wg hwg _
       skip
       unfold z06;go_simp
       first
        |exact z00 _ _
        |(fail)
      intro K hK;go_simp;refine hK _ ?_;clear hK K))
   refine z32 (fun wf hE hf=> ?_);have g6:=hf 6 _ _ rfl;clear hf hE;obtain⟨_,h',hlg,hm⟩:=g6;have H6:=zz (HS1.out.log hlg hm HOK.out HK3.out.1);have HO6:Hid (Sop gl Z w (Z.on h') wf):=(Sop.below HB1.out).trans (Sop.mtp hm);have HC6:Hid (Ch (fun b=>¬ (Z.on h').has b) wf (.slice A x.length c0) x):=by
    have h1:Ch (fun b=>(¬Z.has b∧b≠gl)∧b<w1.heap.size) wf (.slice A x.length c0) x:=Sl.keep HR1.out fun b o hb=>World.cell?_of_block (hm.turn.block b hb.2 (by
     rintro(e|e)
     ·exact hb.1.1 (.inr (.inr (.inr (.inr (.inr e)))))
     ·exact hb.1.2 e))
    exact Sl.more h1 fun b hb e=>by
     rcases(Sop.mtp hm).has b e with h2|h2
     ·exact hb.1.1 h2
     ·omega
   have HKR:=zz HK3.out.2;have HRE2:=HRE;clear hlg hm HS1 HR1 HB1 HK3 HK4 HAP HSH HRE HRO;by_cases hz:r.2.2=0
   ·have hz1:((r.2.2:Nat):Int)=0:=by omega
    have HRE:Hid ((chgsP c (P.on r.1.D) L x,r.1,r.2.1,0)=R):=by
     rw [Hid,←HRE2.out,if_pos hz]
    have HKK:=zz (HKR.out hz);rw [hz1];clear hz hz1 HRE2 HKR;go_wp2_with fail
    refine(zCn hQ gs g (Z.on h') (P.on r.1.D) c L x wf _ H6.out.T H6.out.blk HC6.out HKK.out (by have:=HCO.out.1;omega)).mono ?_;rintro e w8 ⟨rfl,hd8⟩;have H8:=zz (H6.out.tree hd8 (zC0 _ _ _ _));have HO8:Hid (Sop gl Z w (Z.on h') w8):=HO6.out.trans (Sop.ptp hd8.2);clear hd8 H6 HO6 HC6 HKK;go_wp2_with fail
    go_ret2
    rw [←HRE.out];exact⟨rfl,_,H8.out,HO8.out⟩
   ·have hz1:(((r.2.2:Nat):Int) != 0)=true:=by simp;omega
    have HRE:Hid ((P.on r.1.D,r.1,0,r.2.2)=R):=by
     rw [Hid,←HRE2.out,if_neg hz]
    clear hz HRE2 HKR HC6;go_wp2_with fail
    go_ret2
    rw [←HRE.out];exact⟨rfl,_,H6.out,HO6.out⟩
  ·apply And.intro
   ·repeat(first
     |exact trivial
     |(refine⟨z61 _ _,?_⟩)
     |(refine⟨z9B VApl.stays (fun p hp hn hw=>by simp only [List.mem_cons,List.not_mem_nil,or_false]at hp;subst hp;exact absurd rfl hn),?_⟩)
     )
   ·rfl
 ·have HRE:Hid ((P,l,0,z3W P x)=R):=by
   rw [Hid,←HRR.out];unfold z3T;rw [if_neg hm]
  obtain⟨m,hm0⟩:∃m,z3W P x=m:=⟨_,rfl⟩;rw [hm0]at hm HRE ⊢;have hz:((m:Int) != 0)=true:=by simp;omega
  clear HRR HK hm0;go_wp2_with fail
  go_ret2
  rw [←HRE.out];exact⟨rfl,Z,HS1.out,Sop.below HB1.out⟩
end
end Go.Proofs.YthbhkdhljlganaaGreatDoor
