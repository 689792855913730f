/- Part 24. -/
import Derived.Test.YthnlcbamjehpdaaGreatDoorViewCollectsJ23
namespace Go.Proofs.YthnlcbamjehpdaaGreatDoor
set_option linter.unusedVariables false
set_option maxHeartbeats 16000000
set_option maxRecDepth 100000
section
open Go
theorem WfL.bounds{j:Nat}{l r:List (Kid j)}{lo':Key}{hi':Option Key}{k:Key}(h1:z1E l (some k)=some lo')(h2:WfL (Wf j) l (some k)):¬Lt k lo':=by
 cases l with
 |nil=>injection h1 with h1;subst h1;exact fun h=>h.irrefl
 |cons a l=>
  obtain⟨_,a2,a3⟩:=WfL.all (Wf.all j) (a::l) _ h2;obtain rfl:a.1=lo':=by injection h1
  exact(((a3 a.1 rfl).2 (a.1,z0C a.2.1) (by simp [z0E])).2 k rfl).not
theorem Cx.WfC.up{j D:Nat}{id:Nat}{l r:List (Kid j)}{k:Key}{up:Cx (j+1) D}{lo:Key}{hi:Option Key}(w:(Cx.step id l k r up).WfC lo hi):
 ∃lo' hi',up.WfC lo' hi'/\∀x,inB lo hi x->inB lo' hi' x:=by
 obtain⟨rfl,lo',hi',h1,rfl,h3,h4,h5,h6⟩:=w;refine⟨lo',hi',h1,fun x hx=>⟨z4r (WfL.bounds (r:=r) (hi':=hi') h3 h4) hx.1,fun y hy=> ?_⟩⟩;cases r with
 |nil=>exact hx.2 y hy
 |cons a r=>
  obtain⟨_,b2,b3⟩:=WfL.all (Wf.all j) (a::r) _ h6;exact(hx.2 a.1 rfl).trans (((b3 a.1 rfl).2 (a.1,z0C a.2.1) (by simp [z0E])).2 y hy)
theorem Cx.WfC.sides:∀ {j D:Nat} (cx:Cx j D) {lo:Key} {hi:Option Key} {key:Key},cx.WfC lo hi->inB lo hi key->(∀x∈cx.cl,Lt x.1 lo)/\∀x∈cx.cr,Lt key x.1
 |_,_,.top,lo,hi,key,w,hk=>⟨fun x hx=>(by cases hx),fun x hx=>(by cases hx)⟩
 |_,_,.step (j:=j) id l k r up,lo,hi,key,w,hk=>by
  obtain⟨lo',hi',h1,h2⟩:=w.up;obtain⟨s1,s2⟩:=Cx.WfC.sides up h1 (h2 key hk);obtain⟨rfl,lo'',hi'',g1,rfl,g3,g4,g5,g6⟩:=w;have hll:¬Lt lo lo'':=WfL.bounds (r:=r) (hi':=hi'') g3 g4;obtain⟨a1,_,a3⟩:=WfL.all (Wf.all j) l _ g4;obtain⟨b1,_,b3⟩:=WfL.all (Wf.all j) r _ g6;have hl:∀x∈z0d l,Lt x.1 lo:=by
   intro x hx;cases l with
   |nil=>simp [z0d]at hx
   |cons a l=>exact((a3 a.1 rfl).1 x hx).2 lo rfl
  refine⟨fun x hx=> ?_,fun x hx=> ?_⟩
  .rcases yF.1 hx with hx|hx
   .have hin:inB lo'' hi'' lo:=by
     refine⟨hll,fun y hy=> ?_⟩;cases r with
     |nil=>exact g5 y hy
     |cons a r=>exact(g5 a.1 rfl).trans (((WfL.all (Wf.all j) (a::r) _ g6).2.2 a.1 rfl).2 (a.1,z0C a.2.1) (by simp [z0E]) |>.2 y hy)
    obtain⟨t1,_⟩:=Cx.WfC.sides up g1 hin;exact z14 (t1 x hx) hll
   .exact hl x hx
  .rcases yF.1 hx with hx|hx
   .cases r with
    |nil=>simp [z0d]at hx
    |cons a r=>exact z14 (hk.2 a.1 rfl) ((b3 a.1 rfl).1 x hx).1
   .exact s2 x hx
structure At(Q:Prm)(T:(D:Nat)×Ct D)(key:Key){j D:Nat}(cx:Cx j D)(h:Nat)(t:Ct j):Prop where
 whole:T=⟨D,cx.plug h t⟩
 root:cx.root h
 wf:∃lo hi,cx.WfC lo hi/\Wf j lo hi t/\inB lo hi key
 cfl:cx.FlC Q
 fl:FlIn Q j t
 need:cx.need Q<=Ct.n j t
theorem z9F{j:Nat}{ks:List (Kid j)}{i:Nat}(h:i<ks.length):(z0E ks)[i]? =some (ks[i].1,z0C ks[i].2.1):=by
 unfold z0E;rw [Zj,yK h];rfl
theorem zHD{j:Nat}{ks:List (Kid j)}{lo:Key}{hi:Option Key}{key:Key}(h1:z1E ks none=some lo)(h2:WfL (Wf j) ks hi)(hk:inB lo hi key):
 ∃l k r,ks=l++k::r/\z23 (z0E ks) key=l.length/\inB k.1 (z1E r hi) key:=by
 obtain⟨_,a2,a3⟩:=WfL.all (Wf.all j) ks hi h2;have hne:ks≠ []:=by rintro rfl;cases h1
 have hlen:=z2h ks;have hge:∀i,(hi:i<ks.length)->z05 (z0E ks) key<=i->¬Lt ks[i].1 key:=by
  intro i hi hf;have hm:(ks[i].1,z0C ks[i].2.1)∈(z0E ks).drop (z05 (z0E ks) key):=by
   rw [List.mem_drop_iff_getElem];refine⟨i-z05 (z0E ks) key,by rw [hlen];omega,?_⟩;simp only [z0E,Z5];have:z05 (List.map (fun k=>(k.1,z0C k.2.1)) ks) key+(i-z05 (List.map (fun k=>(k.1,z0C k.2.1)) ks) key)=i:=by
    have:z05 (z0E ks) key=z05 (List.map (fun k=>(k.1,z0C k.2.1)) ks) key:=rfl;omega
   simp only [this]
  exact zBE a2 hm
 have hltt:∀i,(hi:i<ks.length)->i<z05 (z0E ks) key->Lt ks[i].1 key:=by
  intro i hi hf;have hm:(ks[i].1,z0C ks[i].2.1)∈(z0E ks).take (z05 (z0E ks) key):=by
   rw [List.mem_take_iff_getElem];refine⟨i,by rw [hlen];omega,?_⟩;simp only [z0E,Z5]
  exact z5l hm
 have hf0:z05 (z0E ks) key<=ks.length:=by rw [<-hlen];exact z1o _ _
 have hk0:∀h0:0<ks.length,ks[0].1=lo:=by
  intro h0;cases ks with
  |nil=>simp at h0
  |cons a ks=>injection h1
 have hpos:0<ks.length:=ZO.2 hne;have cut:∀i,(hi:i<ks.length)->ks=ks.take i++ks[i]::ks.drop (i+1):=fun i hi=>by
  rw [<-yL hi,yT]
 have hnx:∀i,z1E (ks.drop i) hi=if h:i<ks.length then some ks[i].1 else hi:=by
  intro i;by_cases h:i<ks.length
  .rw [dif_pos h,yL h];rfl
  .rw [dif_neg h,YW (by omega)];rfl
 unfold z23;cases hh:isK (z0E ks) key with
 |true=>
  have hi0:=z8N hh;rw [hlen]at hi0;obtain⟨v,hv⟩:=zFD hh;have he:ks[z05 (z0E ks) key].1=key:=by
   rw [z9F hi0]at hv;injection hv with hv
   exact congrArg (·.1) hv
  refine⟨_,_,_,cut _ hi0,by simp;omega,?_⟩;refine⟨by rw [he];exact fun h=>h.irrefl,fun y hy=> ?_⟩;rw [hnx]at hy
  split at hy
  .rename_i h5;injection hy with hy
   subst hy;have h6:∀ (i i':Nat) (h:i<ks.length) (h':i'<ks.length),i<i'->Lt ks[i].1 ks[i'].1:=fun i i' h h' hii=>by
    have:=ZF.1 a2 i i' (by rw [hlen];omega) (by rw [hlen];omega) hii;simpa [z0E]using this
   have h7:=h6 _ _ hi0 h5 (by omega);rw [he]at h7;exact h7
  .exact hk.2 y hy
 |false=>
  simp only [yu,yv];have h0:0<z05 (z0E ks) key:=by
   rcases Y3 (z05 (z0E ks) key)with h|h
   .exfalso;have h5:=hge 0 hpos (by omega);rw [hk0 hpos]at h5;have e:lo=key:=by
     rcases z76 (a:=lo) (b:=key)with h6|h6|h6
     .exact absurd h6 h5
     .exact h6
     .exact absurd h6 hk.1
    have h7:(z0E ks)[z05 (z0E ks) key]? =some (ks[0].1,z0C ks[0].2.1):=by
     rw [h];exact z9F hpos
    have:=zFE hh h7;exact this (by rw [hk0 hpos];exact e)
   .exact h
  refine⟨_,_,_,cut (z05 (z0E ks) key-1) (by omega),by simp;omega,?_⟩;refine⟨(hltt _ (by omega) (by omega)).not,fun y hy=> ?_⟩;rw [show z05 (z0E ks) key-1+1=z05 (z0E ks) key by omega,hnx]at hy
  split at hy
  .rename_i h5;injection hy with hy
   subst hy;have h6:=hge _ h5 (y5 _);have h7:=z9F h5;have h8:=zFE hh h7;rcases z76 (a:=key) (b:=ks[z05 (z0E ks) key].1)with h9|h9|h9
   .exact h9
   .exact absurd h9.symm h8
   .exact absurd h9 h6
  .exact hk.2 y hy
theorem z2e{i:Nat}(h0:0<i)(h1:i<90):z0F (z0C i)=(i:Int):=by
 have:=z42 (x:=i) (by unfold U64;omega) [];rw [yf]at this;unfold z0F;rw [this];simp only;rw [yA (by omega)]
theorem At.down{Q:Prm}{T:(D:Nat)×Ct D}{key:Key}{j D:Nat}{cx:Cx (j+1) D}{h:Nat}{t:Ct (j+1)}(a:At Q T key cx h t)(hz:∀q∈Ct.subs (j+1) t,0<q.1):
 ∃ (l:List (Kid j)) (k:Key) (h':Nat) (t':Ct j) (r:List (Kid j)),t=(l++(k,(h',t'))::r:List (Kid j))/\z23 (z0E (j:=j) t) key=l.length/\At Q T key (Cx.step h l k r cx) h' t':=by
 obtain⟨lo,hi,w1,w2,w3⟩:=a.wf;obtain⟨w4,w5⟩:=w2;obtain⟨l,⟨k,h',t'⟩,r,e,e2,e3⟩:=zHD w4 w5 w3;have hfl:FlL Q (l++(k,(h',t'))::r):=by
  have:=a.fl;rw [e]at this;exact this
 rw [z4i,z0l]at hfl;have hn:=a.need;refine⟨l,k,h',t',r,e,e2,?_,⟨hz (h',Ct.page j t') ?_,a.root⟩,?_,⟨hfl.1,hfl.2.2,?_,a.cfl⟩,?_,?_⟩
 .rw [a.whole,e];rfl
 .rw [e];show _∈z0B (l++(k,(h',t'))::r);rw [z0w,z04];simp
 .rw [e]at w5;rw [z3A]at w5;refine⟨k,z1E r hi,⟨rfl,lo,hi,w1,rfl,?_,w5.1,w5.2.2.1,w5.2.2.2⟩,w5.2.1,e3⟩;rw [e,z2F]at w4;exact w4
 .rw [e]at hn;have:Ct.n (j+1) (l++(k,(h',t'))::r:List (Kid j))=l.length+1+r.length:=by
   show(l++(k,(h',t'))::r).length=_;rw [y6,y8];omega
  omega
 .exact((z1S Q j t').1 hfl.2.1).2
 .exact((z1S Q j t').1 hfl.2.1).1
theorem zJ4{Q:Prm}{T:(D:Nat)×Ct D}{key:Key}{pf:Int->Pag}:∀ {j D:Nat} {cx:Cx j D} {h:Nat} {t:Ct j},At Q T key cx h t->(∀q∈(h,Ct.page j t)::Ct.subs j t,pf (q.1:Int)=q.2)->(∀q∈Ct.subs j t,0<q.1/\q.1<90)->(0<j->0<Ct.n j t)->
 ∃w n cs h',∃cx':Cx 0 D,z3E pf key (j+1) (h:Int)=some w/\w.length=j+1/\w.reverse++cx.steps h=⟨(h':Int),0,(true,n,cs)⟩::cx'.steps h'/\At Q T key cx' h' (show Ct 0 from(n,cs))
 |0,D,cx,h,t,a,hp,hz,_=>by
  have e:pf (h:Int)=(true,t.1,t.2):=hp (h,Ct.page 0 t) (by simp);refine⟨[⟨(h:Int),0,(true,t.1,t.2)⟩],t.1,t.2,h,cx,?_,rfl,rfl,a⟩;rw [z3E,e,yB (.inl rfl)]
 |j+1,D,cx,h,t,a,hp,hz,hn=>by
  obtain⟨l,k,h',t',r,e,e2,a'⟩:=a.down fun q hq=>(hz q hq).1
  have e3:pf (h:Int)=(false,0,z0E (j:=j) t):=hp (h,Ct.page (j+1) t) (by simp);have hsub:Ct.subs (j+1) t=z0B l++((h',Ct.page j t')::Ct.subs j t'++z0B r):=by
   rw [e];show z0B (l++(k,(h',t'))::r)=_;rw [z0w,z04]
  have hz':∀q∈(h',Ct.page j t')::Ct.subs j t',0<q.1/\q.1<90:=fun q hq=>hz q (by rw [hsub];simp only [yF];exact .inr (.inl hq))
  have hfl:=(z1S Q j t').2 ⟨a'.need,a'.fl⟩;have hlt:z0E (j:=j) t=z0E l++(k,z0C h')::z0E r:=by rw [e,z1p,z0u]
  have hne:¬ (z0E (j:=j) t= []):=by rw [hlt];simp
  have hc:z0F (cellAt (z0E (j:=j) t) (z23 (z0E (j:=j) t) key)).2=(h':Int):=by
   rw [e2,hlt];unfold cellAt;rw [yx (by rw [z2h];omega),z2h,Zs];exact z2e (hz' (h',Ct.page j t') (by simp)).1 (hz' (h',Ct.page j t') (by simp)).2
  by_cases hn0:0<j/\¬0<Ct.n j t'
  .exfalso;obtain⟨j',rfl⟩:∃j',j=j'+1:=⟨j-1,by omega⟩;obtain⟨lo,hi,_,w2,_⟩:=a'.wf;cases t' with
   |nil=>cases w2.1
   |cons x y=>exact hn0.2 (by simp [Ct.n])
  .obtain⟨w,n,cs,h'',cx',i1,i2,i3,i4⟩:=zJ4 a' (fun q hq=>hp q (ym _ (by rw [hsub];simp only [yF];exact .inr (.inl hq)))) (fun q hq=>hz' q (by simp [hq])) (fun h0=>by
    rcases Y3 (Ct.n j t')with h1|h1
    .exact absurd ⟨h0,by omega⟩ hn0
    .exact h1)
   refine⟨⟨(h:Int),l.length,z08 l k h' r⟩::w,n,cs,h'',cx',?_,by rw [y8,i2],?_,i4⟩
   .rw [z3E,e3];simp only [yu,false_or];rw [yA hne,hc,i1,e2];simp only [Z0];rw [hlt];rfl
   .rw [ZK,yM];exact i3
section
variable {Q:Prm} {P:Pgr} {c:Int->List UInt8} {D:Nat} {t:Ct D}
theorem Tree.zero(T:Tree Q P c D t):∀q∈Ct.subs D t,0<q.1/\q.1<90:=by
 intro q hq;have h1:=T.rep.rep.nodup;unfold z8q at h1;rw [yy,YA]at h1;refine⟨?_,T.rep.rep.lt q (by unfold z8q;simp [hq])⟩;rcases Y3 q.1 with h|h
 .exact absurd (yP.2 ⟨q,hq,h⟩) h1.1
 .exact h
theorem Tree.at0(T:Tree Q P c D t)(key:Key):At Q ⟨D,t⟩ key (Cx.top (D:=D)) 0 t:=
 ⟨rfl,rfl,⟨[],none,⟨rfl,rfl⟩,T.wf,⟨fun h=>by cases key<;>simp [Lt,z1P]at h,fun y hy=>by cases hy⟩⟩,trivial,T.fl,T.root⟩
theorem Tree.way(T:Tree Q P c D t)(key:Key):∃w n cs h,∃cx:Cx 0 D,z3E (P.pgD c) key (D+1) 0=some w/\w.length=D+1/\w.reverse=⟨(h:Int),0,(true,n,cs)⟩::cx.steps h/\At Q ⟨D,t⟩ key cx h (show Ct 0 from(n,cs)):=by
 obtain⟨w,n,cs,h,cx,h1,h2,h3,h4⟩:=zJ4 (pf:=P.pgD c) (T.at0 key) (fun q hq=>T.rep.pgD (p:=q.2) hq) T.zero (fun h0=>by
  have:=T.root;obtain⟨D',rfl⟩:∃D',D=D'+1:=⟨D-1,by omega⟩;simp only [z9S]at this;omega)
 refine⟨w,n,cs,h,cx,h1,h2,?_,h4⟩;simpa [Cx.steps]using h3
theorem At.upi{key:Key}{cx:Cx 0 D}{h n:Nat}{cs:List Cel}(T:Tree Q P c D t)(a:At Q ⟨D,t⟩ key cx h (show Ct 0 from(n,cs))){cs':List Cel}(hb:Big Q.K (true,n,cs'))(hin:∀lo hi,inB lo hi key->(∀x∈cs,inB lo hi x.1)->∀x∈cs',inB lo hi x.1):
 UpI Q P c cx h (show Ct 0 from(n,cs')) (true,n,cs):=by
 have hw:t=cx.plug h (show Ct 0 from(n,cs)):=by
  have:=a.whole;exact eq_of_heq (ZL this).2
 have hp:=z32 cx h (show Ct 0 from(n,cs)) a.root;rw [<-hw]at hp;obtain⟨lo,hi,w1,w2,w3⟩:=a.wf;have hc:=(cx.FlC_iff Q).1 a.cfl;refine⟨⟨⟨a.root,⟨lo,hi,w1,hb.asc,hin lo hi w3 w2.2⟩,fun q hq=>T.ok q (hp.mem_iff.2 ?_),hb,?_,hc.1,trivial,fun q hq=>T.rep.rep.lt q (hp.mem_iff.2 ?_)⟩,hc.2⟩,T.rep.perm hp⟩
 .rw [zAi,yf]at hq;simp [hq]
 .have:=T.ch;rw [hw,z6L cx h _ a.root]at this;exact this
 .rw [zAi,yf]at hq;simp [hq]
theorem At.cells{key:Key}{cx:Cx 0 D}{h n:Nat}{cs:List Cel}(a:At Q ⟨D,t⟩ key cx h (show Ct 0 from(n,cs))):
 Ct.cells D t=cx.cl++cs++cx.cr/\(∀x∈cx.cl,Lt x.1 key)/\∀x∈cx.cr,Lt key x.1:=by
 have hw:t=cx.plug h (show Ct 0 from(n,cs)):=by
  have:=a.whole;exact eq_of_heq (ZL this).2
 obtain⟨lo,hi,w1,w2,w3⟩:=a.wf;obtain⟨s1,s2⟩:=Cx.WfC.sides cx w1 w3;refine⟨by rw [hw,z29];rfl,fun x hx=>z14 (s1 x hx) w3.1,s2⟩
theorem At.sum{key:Key}{cx:Cx 0 D}{h n:Nat}{cs:List Cel}(a:At Q ⟨D,t⟩ key cx h (show Ct 0 from(n,cs)))(wt:Nat->Nat->Nat):wS wt D t=cx.wS wt+wt 0 cs.length:=by
 have hw:t=cx.plug h (show Ct 0 from(n,cs)):=by
  have:=a.whole;exact eq_of_heq (ZL this).2
 rw [hw,z4C];rfl
theorem z3b{A B C:List Cel}{k:Key}(hA:∀x∈A,Lt x.1 k)(hC:∀x∈C,Lt k x.1):z05 (A++B++C) k=A.length+z05 B k:=by
 unfold z05;have h1:∀L:List Cel,((A++L).takeWhile fun c=>Op.bytesLess c.1 k).length=A.length+(L.takeWhile fun c=>Op.bytesLess c.1 k).length:=fun L=>by
  induction A with
  |nil=>simp
  |cons a A ih=>
   rw [Y8,Y0,yB (z0K.2 (hA a (by simp))),y8,y8,ih fun x hx=>hA x (by simp [hx])];omega
 rw [yM,h1]
 congr 1
 induction B with
 |nil=>
  rw [yz];cases C with
  |nil=>rfl
  |cons x C=>
   rw [Y0,yA]
   .rfl
   .rw [z0K];exact(hC x (by simp)).not
 |cons b B ih=>
  rw [Y8,Y0,Y0]
  split
  .rw [y8,y8,ih]
  .rfl
theorem z5G{A B C:List Cel}{k:Key}(hA:∀x∈A,Lt x.1 k)(hC:∀x∈C,Lt k x.1):isK (A++B++C) k=isK B k:=by
 unfold isK;rw [z3b hA hC,yM,yx (by omega),YU];rcases Y5 (z05 B k) B.length with h|h
 .rw [Yh h]
 .rw [yx h,ZE h];have:=z1o B k;rw [show z05 B k-B.length=0 by omega];cases C with
  |nil=>rfl
  |cons x C=>
   simp only [ZR];exact yV.2 fun e=>(hC x (by simp)).ne e.symm
theorem z8L{A B C:List Cel}{k:Key}(hA:∀x∈A,Lt x.1 k)(hC:∀x∈C,Lt k x.1):z4g (A++B++C) k=z4g B k:=by unfold z4g;rw [z5G hA hC]
theorem zDs{A B C:List Cel}{x:Cel}(hA:∀y∈A,Lt y.1 x.1)(hC:∀y∈C,Lt x.1 y.1):putC (A++B++C) x=A++putC B x++C:=by
 unfold putC;rw [z3b hA hC,z8L hA hC];have h1:=z1o B x.1;have h2:=z9A B x.1;rw [yM,List.take_append,ya (by omega),YU,Yz h1];rw [show A.length+z05 B x.1+z4g B x.1=A.length+(z05 B x.1+z4g B x.1) by omega,List.drop_append,YW (by omega),YU,ZU h2];simp
theorem zDO{A B C:List Cel}{k:Key}(hA:∀y∈A,Lt y.1 k)(hC:∀y∈C,Lt k y.1):delC (A++B++C) k=A++delC B k++C:=by
 unfold delC;rw [z3b hA hC,z8L hA hC];have h1:=z1o B k;have h2:=z9A B k;rw [yM,List.take_append,ya (by omega),YU,Yz h1];rw [show A.length+z05 B k+z4g B k=A.length+(z05 B k+z4g B k) by omega,List.drop_append,YW (by omega),YU,ZU h2];simp
theorem zFo(cs:List Cel)(x:Cel):cs.length<=(putC cs x).length:=by
 have:=z3h cs x;unfold z4g at this
 split at this<;>omega
theorem zGM(hQ:Q.Ok)(T:Tree Q P c D t){x:Cel}(hk:x.1.length<=Q.K)(hx:x.1.length+x.2.length<=480)(hf:1+(Ct.subs D t).length+D+3<=90):
 ∃w,z3E (P.pgD c) x.1 (D+1) 0=some w/\w.length=D+1/\(putT P w x).2=0/\Kin P (putT P w x).1/\
  ∃D' t',UpR Q (putT P w x).1 c D (putC (Ct.cells D t) x) (wS z9m D t) (wS wHi D t) (wS z4V D t) 2 (1+(Ct.subs D t).length+D+2) (Ct.n D t) D' t':=by
 obtain⟨w,n,cs,h,cx,h1,h2,h3,a⟩:=T.way x.1;have hpg:P.pages.length=1+(Ct.subs D t).length:=by rw [T.rep.len];unfold z8q;rw [y8];omega
 have e:putT P w x=(upP P (cx.steps h) (h:Int) (z15 (true,n,cs) x),0):=by
  unfold putT;rw [yA (by have:=hQ.K;omega),h3];simp only;rw [yA (by omega),yA (by omega)]
 have hleaf:POk (true,n,cs)/\KOk Q.K (true,n,cs):=by
  have hw:t=cx.plug h (show Ct 0 from(n,cs)):=eq_of_heq (ZL a.whole).2;have hp:=z32 cx h (show Ct 0 from(n,cs)) a.root;rw [<-hw]at hp;exact T.ok (h,(true,n,cs)) (hp.mem_iff.2 (YO _ (by exact YJ)))
 have hb0:=hleaf.1.big hleaf.2;have hz0:=hleaf.1.parts.2.2;have hb:=hb0.put (by omega) hx hk;have hz:szP (z15 (true,n,cs) x)<=2600:=by
  have h1:=hb.sz;have h2:=hb0.sz;have h3:=z6i cs x;have h4:=z2Y hx;have h5:(z15 (true,n,cs) x).2.2=putC cs x:=rfl;have h6:((true,n,cs):Pag).2.2=cs:=rfl;rw [h5]at h1;rw [h6]at h2;omega
 have u:=a.upi T (cs':=putC cs x) hb fun lo hi h4 h5 y hy=>by
  rcases z6J hy with rfl|hy
  .exact h4
  .exact h5 y hy
 have hneed:cx.need Q<=Ct.n 0 (show Ct 0 from(n,putC cs x)):=yD a.need (zFo cs x);have hcnt:z2s cx h (show Ct 0 from(n,putC cs x))+cx.dep+2<=90:=by
  rw [<-u.pages,hpg];have:=cx.depth;omega
 obtain⟨D',t',R,R2⟩:=zKD hQ cx h _ _ P u hneed hz hcnt;obtain⟨c1,c2,c3⟩:=a.cells;refine⟨w,h1,h2,by rw [e],by rw [e];exact Kin.up _ _ _ _,D',t',?_⟩;rw [e];have e2:putC (Ct.cells D t) x=cx.cl++putC cs x++cx.cr:=by rw [c1,zDs c2 c3]
 rw [e2,a.sum,a.sum,a.sum];have g0:∀n,z4V 0 n=0:=fun n=>rfl
 have hrn:1<=D->cx.rn (Ct.n 0 (show Ct 0 from(n,putC cs x)))=Ct.n D t:=fun h0=>by
  rw [eq_of_heq (ZL a.whole).2,z7T];cases cx with
  |top=>omega
  |step=>rfl
 refine⟨R.tree,R.cells,R.d0,R.d1,R.low,fun hK=> ?_,R.d3,?_,fun h0=> ?_,fun h0=>⟨(R.rt1 h0).1,fun hK h1=> ?_⟩⟩
 rotate_left 2
 .rcases Y3 D with h4|h4
  .have h5:=cx.depth;have h6:=(R2 (by omega)).1 h0;have h7:=z3h cs x;have h8:Ct.n D t=cx.rn (Ct.n 0 (show Ct 0 from(n,cs))):=by rw [eq_of_heq (ZL a.whole).2,z7T]
   have h9:cx.rn (Ct.n 0 (show Ct 0 from(n,cs)))=cs.length:=by
    cases cx with
    |top=>rfl
    |step id l k r up=>have:=up.depth;omega
   have h10:Ct.n 0 (show Ct 0 from(n,putC cs x))=(putC cs x).length:=rfl;omega
  .have h5:=R.rt0 h0;rw [hrn h4]at h5;exact h5
 .have h4:=(R.rt1 h0).2 hK h1;rw [hrn h1]at h4;exact h4
 .have h4:=R.quo hK;have h5:wS z4V 0 (show Ct 0 from(n,putC cs x))=0:=rfl;have h6:wS wHi 0 (show Ct 0 from(n,putC cs x))=wHi 0 cs.length:=rfl;rw [g0];rw [h5,h6]at h4;exact h4
 .have h4:=R.cnt;have h5:=cx.depth;rw [<-u.pages,hpg]at h4;omega
end
def lvC:(j:Nat)->Nat->Ct j->List (Nat×Pag)
 |0,i,t=> [(i,Ct.page 0 t)]
 |j+1,_,ks=>List.flatMap (fun k:Kid j=>lvC j k.2.1 k.2.2) ks
def zAy{j:Nat}(ks:List (Kid j)):List (Nat×Pag):=List.flatMap (fun k:Kid j=>lvC j k.2.1 k.2.2) ks
def Cx.lcr:{j D:Nat}->Cx j D->List (Nat×Pag)
 |_,_,.top=> []
 |_,_,.step _ _ _ r up=>zAy r++up.lcr
theorem z77:∀ (j i:Nat) (t:Ct j),(lvC j i t).map (fun q=>(q.1,q.2.2.1))=Ct.lvs j i t/\(lvC j i t).flatMap (fun q=>q.2.2.2)=Ct.cells j t/\(∀q∈lvC j i t,q∈(i,Ct.page j t)::Ct.subs j t)/\∀q∈lvC j i t,q.2.1=true
 |0,i,t=>⟨rfl,by simp [lvC,Ct.page,Ct.cells],fun q hq=>by obtain rfl:=yJ.1 hq;simp,fun q hq=>by obtain rfl:=yJ.1 hq;rfl⟩
 |j+1,i,ks=>by
  have ih:=fun(k:Kid j)=>z77 j k.2.1 k.2.2
  refine⟨?_,?_,fun q hq=> ?_,fun q hq=> ?_⟩
  .show List.map _ (List.flatMap (fun k:Kid j=>lvC j k.2.1 k.2.2) ks)=List.flatMap (fun k:Kid j=>Ct.lvs j k.2.1 k.2.2) ks;rw [List.map_flatMap]
   congr 1
   funext k
   exact(ih k).1
  .show List.flatMap _ (List.flatMap (fun k:Kid j=>lvC j k.2.1 k.2.2) ks)=List.flatMap (fun k:Kid j=>Ct.cells j k.2.2) ks;rw [List.flatMap_assoc]
   congr 1
   funext k
   exact(ih k).2.1
  .obtain⟨k,hk,hq⟩:=YE.1 (show q∈List.flatMap (fun k:Kid j=>lvC j k.2.1 k.2.2) ks from hq);exact ym _ (YE.2 ⟨k,hk,(ih k).2.2.1 q hq⟩)
  .obtain⟨k,hk,hq⟩:=YE.1 (show q∈List.flatMap (fun k:Kid j=>lvC j k.2.1 k.2.2) ks from hq);exact(ih k).2.2.2 q hq
theorem zDc{j:Nat}(ks:List (Kid j)):(zAy ks).map (fun q=>(q.1,q.2.2.1))=z4x ks/\(zAy ks).flatMap (fun q=>q.2.2.2)=z0d ks/\(∀q∈zAy ks,q∈z0B ks)/\∀q∈zAy ks,q.2.1=true:=by
 have h:=z77 (j+1) 0 ks;refine⟨h.1,h.2.1,fun q hq=> ?_,h.2.2.2⟩;obtain⟨k,hk,hq⟩:=YE.1 (show q∈List.flatMap (fun k:Kid j=>lvC j k.2.1 k.2.2) ks from hq);exact YE.2 ⟨k,hk,(z77 j k.2.1 k.2.2).2.2.1 q hq⟩
theorem zAI:∀ {j D:Nat} (cx:Cx j D) (h:Nat),cx.lcr.map (fun q=>(q.1,q.2.2.1))=cx.lr/\cx.lcr.flatMap (fun q=>q.2.2.2)=cx.cr/\(∀q∈cx.lcr,q∈cx.pgs h)/\∀q∈cx.lcr,q.2.1=true
 |_,_,.top,h=>⟨rfl,rfl,fun q hq=>(by cases hq),fun q hq=>by cases hq⟩
 |_,_,.step id l k r up,h=>by
  obtain⟨a1,a2,a3,a4⟩:=zAI up id;obtain⟨b1,b2,b3,b4⟩:=zDc r;refine⟨?_,?_,fun q hq=> ?_,fun q hq=> ?_⟩
  .rw [Cx.lcr,Cx.lr,Y6,a1,b1]
  .rw [Cx.lcr,Cx.cr,Yq,a2,b2]
  .rw [z0R];simp only [yF];rcases yF.1 hq with hq|hq
   .exact .inl (.inr (.inr (b3 q hq)))
   .exact .inr (a3 q hq)
  .rcases yF.1 hq with hq|hq
   .exact b4 q hq
   .exact a4 q hq
theorem zCE{pf:Int->Pag}:∀ (l:List (Nat×Pag)) (n:Nat) (cs:List Cel) (m:Nat),l.length<m->(∀q∈l,pf (q.1:Int)=q.2/\0<q.1)->z88 (l.map fun q=>(q.1,q.2.2.1)) 0->n=z7u (l.map fun q=>(q.1,q.2.2.1)) 0->
 z0r pf m (true,n,cs)=some (cs++l.flatMap fun q=>q.2.2.2)
 |_,_,_,0,hm,_,_,_=>by omega
 | [],n,cs,m+1,hm,hp,hc,hn=>by
   have:n=0:=hn;rw [z0r,yB this];simp
 |(i,x)::l,n,cs,m+1,hm,hp,hc,hn=>by
  have hn:n=i:=hn;subst hn;have h1:=hp (n,x) (by simp);rw [z0r,yA (by have:=h1.2;simp only at this ⊢;omega)];have e:pf (((true,n,cs):Pag).2.1:Int)=x:=h1.1;rw [e];obtain⟨b,n',cs'⟩:=x;have ih:=zCE l n' cs' m (by simp at hm;omega) (fun q hq=>hp q (by simp [hq])) hc.2 hc.1;have e2:z0r pf m (b,n',cs')=z0r pf m (true,n',cs'):=by cases m<;>rfl
  rw [e2,ih];simp
section
variable {Q:Prm} {P:Pgr} {c:Int->List UInt8} {D:Nat} {t:Ct D}
theorem zF0{key:Key}{cx:Cx 0 D}{h n:Nat}{cs:List Cel}(a:At Q ⟨D,t⟩ key cx h (show Ct 0 from(n,cs))):t=cx.plug h (show Ct 0 from(n,cs)):=eq_of_heq (ZL a.whole).2
theorem At.perm{key:Key}{cx:Cx 0 D}{h n:Nat}{cs:List Cel}(a:At Q ⟨D,t⟩ key cx h (show Ct 0 from(n,cs))):(z8q D t).Perm (cx.pgs h++ [(h,((true,n,cs):Pag))]):=by
 have hp:=z32 cx h (show Ct 0 from(n,cs)) a.root;rw [<-zF0 a]at hp;exact hp
theorem Tree.chain(T:Tree Q P c D t){key:Key}{cx:Cx 0 D}{h n:Nat}{cs:List Cel}(a:At Q ⟨D,t⟩ key cx h (show Ct 0 from(n,cs))):z0r (P.pgD c) 91 (true,n,cs)=some (cs++cx.cr):=by
 have hp:=a.perm;obtain⟨l1,l2,l3,l4⟩:=zAI cx h;have hch:=T.ch;rw [zF0 a,z6L cx h _ a.root]at hch;rw [yM,z69]at hch;obtain⟨_,h1,h2⟩:=hch;rw [<-l2];have hz:∀q∈cx.lcr,0<q.1:=fun q hq=>by
  have h5:=l3 q hq;rcases Y3 q.1 with h6|h6
  .exfalso;have h7:q∈z8q D t:=hp.mem_iff.2 (yS _ h5);rcases y9.1 h7 with h8|h8
   .have h9:=l4 q hq;rw [h8]at h9;cases D with
    |zero=>
     cases cx with
     |top=>cases hq
     |step id l k r up=>have:=up.depth;omega
    |succ D=>cases h9
   .have:=(T.zero q h8).1;omega
  .exact h6
 refine zCE cx.lcr n cs 91 ?_ (fun q hq=>⟨T.rep.pgD (p:=q.2) (hp.mem_iff.2 (yS _ (l3 q hq))),hz q hq⟩) (by rw [l1];exact h2) (by rw [l1];exact h1);have hle:∀ {j D:Nat} (cx:Cx j D) (h:Nat),cx.lcr.length<=(cx.pgs h).length:=by
  have hl1:∀ (j i:Nat) (t:Ct j),(lvC j i t).length<=1+(Ct.subs j t).length:=by
   intro j
   induction j with
   |zero=>intro i t;simp [lvC]
   |succ j ih=>
    intro i ks;have:∀l:List (Kid j),(zAy l).length<=(z0B l).length:=fun l=>by
     induction l with
     |nil=>simp [zAy]
     |cons k l il=>
      have e1:zAy (k::l)=lvC j k.2.1 k.2.2++zAy l:=by simp [zAy]
      rw [e1,z04,y6,y6,y8];have:=ih k.2.1 k.2.2;omega
    have:=this ks;show(zAy ks).length<=1+(z0B ks).length;omega
  have hl2:∀ {j:Nat} (l:List (Kid j)),(zAy l).length<=(z0B l).length:=fun {j} l=>by
   induction l with
   |nil=>simp [zAy]
   |cons k l il=>
    have e1:zAy (k::l)=lvC j k.2.1 k.2.2++zAy l:=by simp [zAy]
    rw [e1,z04,y6,y6,y8];have:=hl1 j k.2.1 k.2.2;omega
  intro j D cx
  induction cx with
  |top=>intro h;exact yU _
  |step id l k r up ih=>
   intro h;have h1:=ih id;have h2:=hl2 r;rw [z0R,Cx.lcr];simp only [y6,y8,yW];omega
 have h1:=hle cx h;have h2:=T.rep.le90;have h3:=hp.length_eq;rw [y6]at h3;simp only [y8,yW]at h3;omega
end
def z7N(L:List Cel)(frm to_:Key)(open_:Bool):List Cel:=(L.drop (z05 L frm)).takeWhile fun c=>open_||Op.bytesLess c.1 to_
def zJh(l:List Cel)(lim:Int):List Cel:=if lim<0 then l else l.take lim.toNat
def z34(L:List Cel)(frm to_:Key)(open_:Bool)(lim:Int):List Cel:=zJh (z7N L frm to_ open_) lim
structure Vsn where
 t:Nat
 v:List UInt8
 gone:Bool
deriving DecidableEq
structure Rw where
 k:List UInt8
 vs:List Vsn
deriving DecidableEq
def z10(k:List UInt8)(t:Nat):List UInt8:=100::z1b k t
def z90(x:Vsn):List UInt8:=if x.gone then [1]else 0::x.v
def z7s(k:List UInt8)(x:Vsn):Cel:=(z10 k x.t,z90 x)
def ttlK:List UInt8:= [109]
def z62(last hor:Nat):List UInt8:=z0C last++z0C hor
def rwC(r:Rw):List Cel:=r.vs.reverse.map (z7s r.k)
def z0x(l:List Rw):List Cel:=l.flatMap rwC
def z1Y(l:List Rw)(key:List UInt8):List Vsn:=match l.find? (fun r=>r.k==key)with
 |some r=>r.vs
 |none=> []
structure VOk(x:Vsn):Prop where
 t0:0<x.t
 t64:x.t<U64
 v:x.v.length<=256
 g:x.gone=true->x.v= []
structure RwOk(r:Rw):Prop where
 k0:r.k≠ []
 k64:r.k.length<=64
 ne:r.vs≠ []
 asc:r.vs.Pairwise fun a b=>a.t<b.t
 vs:∀x∈r.vs,VOk x
structure RowsOk(l:List Rw):Prop where
 rw:∀r∈l,RwOk r
 asc:l.Pairwise fun a b=>Lt a.k b.k
theorem zJk(x:UInt8)(a b:List UInt8):Lt (x::a) (x::b)↔Lt a b:=by unfold Lt;rw [z1m]
theorem z2I{a b:List UInt8}{x y:Nat}(hx:x<U64)(hy:y<U64):Lt (z10 a x) (z10 b y)↔(if a=b then y<x else Lt a b):=by
 unfold z10;rw [zJk];unfold Lt;rw [zDY a b x y hx hy];by_cases h:a=b
 .rw [yB h,yB h];by_cases h1:y<x
  .rw [yB h1];simp [h1]
  .rw [yA h1];by_cases h2:x<y
   .rw [yB h2];simp [h1]
   .rw [yA h2];simp [h1]
 .rw [yA h,yA h]
theorem z4J(k:List UInt8)(t:Nat):Lt (z10 k t) ttlK:=by
 unfold Lt z10 ttlK;rw [z12,yB (by decide)];decide
theorem z2z{a b:List UInt8}{x y:Nat}(hx:x<U64)(hy:y<U64)(h:z10 a x=z10 b y):a=b/\x=y:=by
 have h1:=z2I (a:=a) (b:=b) hx hy;have h2:=z2I (a:=b) (b:=a) hy hx;rw [h]at h1 h2;have hn:¬Lt (z10 b y) (z10 b y):=fun h=>h.irrefl
 by_cases e:a=b
 .subst e;rw [yB rfl]at h1 h2;refine⟨rfl,?_⟩;by_cases q:y<x
  .exact absurd (h1.2 q) hn
  .by_cases q2:x<y
   .exact absurd (h2.2 q2) hn
   .omega
 .rw [yA e]at h1;rw [yA (fun q=>e q.symm)]at h2;rcases z76 (a:=a) (b:=b)with q|q|q
  .exact absurd (h1.2 q) hn
  .exact absurd q e
  .exact absurd (h2.2 q) hn
theorem z3e{r:Rw}{c:Cel}(h:c∈rwC r):∃x∈r.vs,c=z7s r.k x:=by
 obtain⟨x,hx,rfl⟩:=yP.1 h;exact⟨x,Zu.1 hx,rfl⟩
theorem zK0{r:Rw}(h:RwOk r):Asc (rwC r):=by
 unfold Asc rwC;rw [Zk,List.pairwise_reverse];exact(List.Pairwise.and_mem.1 h.asc).imp fun {a b} hab=>(z2I (h.vs b hab.2.1).t64 (h.vs a hab.1).t64).2 (by rw [yB rfl];exact hab.2.2)
theorem zFz{l:List Rw}(h:RowsOk l):Asc (z0x l):=by
 unfold Asc z0x;rw [List.pairwise_flatMap];refine⟨fun r hr=>zK0 (h.rw r hr),(List.Pairwise.and_mem.1 h.asc).imp fun {a b} hab x hx y hy=> ?_⟩;obtain⟨u,hu,rfl⟩:=z3e hx;obtain⟨v,hv,rfl⟩:=z3e hy;exact(z2I ((h.rw a hab.1).vs u hu).t64 ((h.rw b hab.2.1).vs v hv).t64).2 (by rw [yA (Lt.ne hab.2.2)];exact hab.2.2)
theorem z61:∀ {L:List Cel} (ha:Asc L) (to_:Key) (opn:Bool),L.takeWhile (fun c=>opn||Op.bytesLess c.1 to_)=L.filter fun c=>opn||Op.bytesLess c.1 to_
 | [],_,_,_=>rfl
 |c::L,ha,to_,opn=>by
  obtain⟨h1,h2⟩:=yh.1 ha;rw [Y0,Yf];by_cases h:(opn||Op.bytesLess c.1 to_)=true
  .rw [yB h,yB h,z61 h2]
  .rw [yA h,yA h]
   symm
   rw [YX];intro d hd he;apply h;cases opn with
   |true=>rfl
   |false=>
    simp only [QJ]at he ⊢;exact z0K.2 ((h1 d hd).trans (z0K.1 he))
theorem z5N:∀ {L:List Cel} (ha:Asc L) (frm to_:Key) (opn:Bool),z7N L frm to_ opn=L.filter fun c=> !Op.bytesLess c.1 frm&&(opn||Op.bytesLess c.1 to_)
 | [],_,_,_,_=>rfl
 |c::L,ha,frm,to_,opn=>by
  obtain⟨h1,h2⟩:=yh.1 ha;have ih:=z5N h2 frm to_ opn;by_cases h:Op.bytesLess c.1 frm=true
  .have e:z05 (c::L) frm=z05 L frm+1:=by unfold z05;rw [Y0,yB h];rfl
   unfold z7N at ih ⊢;rw [e,Yr,ih,Yf,yA (by rw [h];simp)]
  .have e:z05 (c::L) frm=0:=by unfold z05;rw [Y0,yA h];rfl
   unfold z7N;rw [e,QZ,z61 ha];apply Qe;intro d hd;have hd2:Op.bytesLess d.1 frm=false:=by
    rw [z30];have hc:¬Lt c.1 frm:=fun q=>h (z0K.2 q)
    rcases y9.1 hd with rfl|hd
    .exact hc
    .exact fun q=>hc ((h1 d hd).trans q)
   rw [hd2];rfl
def vwC(l:List Rw)(tl:List Cel):List Cel:=z0x l++tl
def zEK(tl:List Cel):Prop:=tl= []∨∃v,tl= [(ttlK,v)]
theorem z4w{l:List Rw}(h:RowsOk l){tl:List Cel}(ht:zEK tl):Asc (vwC l tl):=by
 unfold Asc vwC;rw [YL];refine⟨zFz h,?_,fun x hx y hy=> ?_⟩
 .rcases ht with rfl|⟨v,rfl⟩
  .exact List.Pairwise.nil
  .exact ZT _ _
 .rcases ht with rfl|⟨v,rfl⟩
  .cases hy
  .obtain rfl:=yJ.1 hy;obtain⟨r,hr,hx⟩:=YE.1 hx;obtain⟨u,hu,rfl⟩:=z3e hx;exact z4J _ _
theorem zCd{l:List Rw}(h:RowsOk l){tl:List Cel}(ht:zEK tl)(frm to_:Key)(hto:¬Lt ttlK to_):z7N (vwC l tl) frm to_ false=l.flatMap fun r=>(rwC r).filter fun c=> !Op.bytesLess c.1 frm&&Op.bytesLess c.1 to_:=by
 rw [z5N (z4w h ht)];unfold vwC z0x;have e:tl.filter (fun c=> !Op.bytesLess c.1 frm&&(false||Op.bytesLess c.1 to_))= []:=by
  rw [YX];intro c hc;rcases ht with rfl|⟨v,rfl⟩
  .cases hc
  .obtain rfl:=yJ.1 hc;simp only [QJ,z30.2 hto,Bool.and_false];simp
 rw [List.filter_append,e,yf,List.filter_flatMap];simp only [QJ]
def z6w(key:List UInt8):List UInt8:=if 64<key.length then z10 (key.take 64) 0++ [0]else z10 key 18446744073709551615
theorem zJl{k key:List UInt8}(hk:k.length<=64)(h:64<key.length):Lt k key↔¬Lt (key.take 64) k:=by
 have e:key=key.take 64++key.drop 64:=(yT 64 key).symm;have hl:(key.take 64).length=64:=by rw [yC];omega
 have hd:key.drop 64≠ []:=fun q=>by have:=congrArg List.length q;rw [yI]at this;simp at this;omega
 generalize key.take 64=a at*;generalize key.drop 64=d at*;subst e;clear h;have key2:∀ (a k:List UInt8),k.length<=a.length->(Lt k (a++d)↔¬Lt a k):=by
  intro a
  induction a with
  |nil=>
   intro k hk;obtain rfl:k= []:=yX (by simpa using hk);obtain⟨x,r,rfl⟩:=Zq hd;constructor
   .intro _ q;exact q.irrefl
   .intro _;unfold Lt;simp [z1P]
  |cons x a ih=>
   intro k hk;cases k with
   |nil=>
    constructor
    .intro _ q;unfold Lt at q;simp [z1P]at q
    .intro _;unfold Lt;simp [z1P]
   |cons y k=>
    have:=ih k (by simpa using hk);unfold Lt at this ⊢;rw [Y8,z12,z12];by_cases h1:y.toNat<x.toNat
    .rw [yB h1,yA (by omega),yB h1];simp
    .rw [yA h1];by_cases h2:x.toNat<y.toNat
     .rw [yB h2,yB h2];simp
     .rw [yA h2,yA h2,yA h1];exact this
 exact key2 a k (by omega)
theorem zGW:(18446744073709551615:Nat)<U64:=by unfold U64;omega
theorem z64:(0:Nat)<U64:=by unfold U64;omega
theorem zBP{a b:List UInt8}(h:Lt a b):¬Lt b (a++ [0]):=by
 rw [<-z30];exact zAK _ _ (z0K.2 h)
theorem z5d(a:List UInt8):Lt a (a++ [0]):=z0K.1 (zFM a)
theorem zJQ{k key:List UInt8}{t:Nat}(hk:k.length<=64)(ht:t<U64):Op.bytesLess (z10 k t) (z6w key)=Op.bytesLess k key:=by
 rw [Zd,z0K,z0K];unfold z6w;by_cases h:64<key.length
 .rw [yB h,zJl hk h];rcases z76 (a:=k) (b:=key.take 64)with q|q|q
  .exact⟨fun _=>q.not,fun _=>((z2I ht z64).2 (by rw [yA q.ne];exact q)).trans (z5d _)⟩
  .refine⟨fun _=>by rw [q];exact fun q=>q.irrefl,fun _=> ?_⟩;subst q;by_cases h0:0<t
   .exact((z2I ht z64).2 (by rw [yB rfl];exact h0)).trans (z5d _)
   .obtain rfl:t=0:=by omega
    exact z5d _
  .refine⟨fun hh=>absurd hh (zBP ((z2I z64 ht).2 (by rw [yA q.ne];exact q))),fun hh=>absurd q hh⟩
 .rw [yA h,z2I ht zGW];by_cases e:k=key
  .rw [yB e];subst e;refine⟨fun q=>by unfold U64 at ht;omega,fun q=>absurd q fun q=>q.irrefl⟩
  .rw [yA e]
def z3v(l:List Rw)(key:List UInt8):Option Rw:=l.find? fun r=> !Op.bytesLess r.k key
theorem zDS{l:List Rw}{p:Rw->Bool}{f:Rw->List Cel}(hne:∀r∈l,f r≠ []):(l.flatMap fun r=>if p r then f r else []).take 1=match l.find? p with
 |none=> []
 |some r=>(f r).take 1:=by
 induction l with
 |nil=>rfl
 |cons r l ih=>
  rw [yb,Qo];by_cases h:p r=true
  .rw [yB h,h];simp only;obtain⟨c,cs,hc⟩:=Zq (hne r (by simp));rw [hc];rfl
  .have h':p r=false:=by simpa using h
   rw [yA h,h',yz];exact ih fun r hr=>hne r (by simp [hr])
theorem zG1{r:Rw}(h:RwOk r):rwC r≠ []:=by
 unfold rwC;intro q;have:=congrArg List.length q;simp at this;exact h.ne this
theorem z4f{α β:Type}{l:List α}{f g:α->List β}(h:∀x∈l,f x=g x):l.flatMap f=l.flatMap g:=by
 induction l with
 |nil=>rfl
 |cons a l ih=>rw [yb,yb,h a (by simp),ih fun x hx=>h x (by simp [hx])]
theorem zBG{l:List Cel}{p:Cel->Bool}{b:Bool}(h:∀c∈l,p c=b):l.filter p=if b then l else []:=by
 cases b with
 |true=>rw [yB rfl,Ys];exact h
 |false=>rw [yA (by simp),YX];intro c hc;rw [h c hc];simp
theorem zB4{l:List Rw}(h:RowsOk l){tl:List Cel}(ht:zEK tl)(key:List UInt8):z34 (vwC l tl) (z6w key) ttlK false 1=match z3v l key with
 |none=> []
 |some r=>(rwC r).take 1:=by
 unfold z34 zJh;rw [yA (by omega),show(1:Int).toNat=1 from rfl,zCd h ht _ _ (fun q=>q.irrefl)];rw [z4f (g:=fun r=>if !Op.bytesLess r.k key then rwC r else [])]
 .exact zDS fun r hr=>zG1 (h.rw r hr)
 .intro r hr;apply zBG;intro c hc;obtain⟨x,hx,rfl⟩:=z3e hc;show(!Op.bytesLess (z10 r.k x.t) (z6w key)&&Op.bytesLess (z10 r.k x.t) ttlK)=_;rw [zJQ (h.rw r hr).k64 ((h.rw r hr).vs x hx).t64,z0K.2 (z4J _ _),Bool.and_true]
theorem zAH{l:List Rw}(h:RowsOk l){tl:List Cel}(ht:zEK tl){key:List UInt8}{at_:Nat}(ha:at_<U64):z7N (vwC l tl) (z10 key at_) (z10 key 0++ [0]) false=(((z1Y l key).filter fun x=>decide (x.t<=at_)).reverse).map (z7s key):=by
 have hto:¬Lt ttlK (z10 key 0++ [0]):=by
  unfold Lt ttlK z10;rw [Y8,z12,yA (by decide),yB (by decide)];decide
 rw [zCd h ht _ _ hto];have hf:∀r∈l,((rwC r).filter fun c=> !Op.bytesLess c.1 (z10 key at_)&&Op.bytesLess c.1 (z10 key 0++ [0]))=if r.k==key then((r.vs.filter fun x=>decide (x.t<=at_)).reverse).map (z7s key)else []:=by
  intro r hr;have ok:=h.rw r hr;by_cases e:r.k=key
  .subst e;rw [yB (by simp)];unfold rwC;rw [List.filter_map,<-List.filter_reverse]
   congr 1
   apply Qe;intro x hx;have hx:=Zu.1 hx;have h1:Op.bytesLess (z10 r.k x.t) (z10 r.k at_)=decide (at_<x.t):=by
    rw [Zd,z0K,z2I (ok.vs x hx).t64 ha,yB rfl];simp
   have h2:Lt (z10 r.k x.t) (z10 r.k 0++ [0]):=((z2I (ok.vs x hx).t64 z64).2 (by rw [yB rfl];exact(ok.vs x hx).t0)).trans (z5d _);show(!Op.bytesLess (z10 r.k x.t) (z10 r.k at_)&&Op.bytesLess (z10 r.k x.t) (z10 r.k 0++ [0]))=_;rw [h1,z0K.2 h2,Bool.and_true];by_cases q:x.t<=at_
   .rw [yq q,yZ (by omega)];rfl
   .rw [yZ q,yq (by omega)];rfl
  .rw [yA (by simpa using e),YX];intro c hc;obtain⟨x,hx,rfl⟩:=z3e hc;show ¬ (!Op.bytesLess (z10 r.k x.t) (z10 key at_)&&Op.bytesLess (z10 r.k x.t) (z10 key 0++ [0]))=true;rcases z76 (a:=r.k) (b:=key)with q|q|q
   .rw [z0K.2 ((z2I (ok.vs x hx).t64 ha).2 (by rw [yA q.ne];exact q))];simp
   .exact absurd q e
   .rw [z30.2 (zBP ((z2I z64 (ok.vs x hx).t64).2 (by rw [yA q.ne];exact q)))];simp
 rw [z4f hf];clear hf ht;have hasc:=h.asc;clear h;unfold z1Y
 induction l with
 |nil=>rfl
 |cons r l ih=>
  obtain⟨h1,h2⟩:=yh.1 hasc;rw [yb,Qo];by_cases e:r.k=key
  .have eb:(r.k==key)=true:=by simpa using e
   rw [yB eb,eb];simp only;have hn:(l.flatMap fun r=>if r.k==key then((r.vs.filter fun x=>decide (x.t<=at_)).reverse).map (z7s key)else [])= []:=by
    rw [List.flatMap_eq_nil_iff];intro q hq;rw [yA];simp only [Z9];intro q2;have:=h1 q hq;rw [e,q2]at this;exact this.irrefl
   rw [hn,yf]
  .have eb:(r.k==key)=false:=by simpa using e
   rw [yA (by rw [eb];simp),eb,yz];exact ih h2
theorem zIS{l:List Rw}(h:RowsOk l){tl:List Cel}(ht:zEK tl)(key:List UInt8):z34 (vwC l tl) (z10 key 18446744073709551615) (z10 key 0++ [0]) false (-1)=((z1Y l key).reverse).map (z7s key):=by
 unfold z34 zJh;rw [yB (by omega),zAH h ht zGW]
 congr 2
 rw [Ys];intro x hx;unfold z1Y at hx
 split at hx
 .rename_i r hr;have:=((h.rw r (yr hr)).vs x hx).t64;unfold U64 at this;exact yq (by omega)
 .cases hx
end
section
open Go Go.RowKit
structure Chg where
 k:List UInt8
 v:List UInt8
 gone:Bool
def chC(x:Chg):List Value:= [.string (st x.k),.string (st x.v),.bool x.gone]
def chs(l:List Chg):List Value:=l.flatMap chC
theorem zEc(a b:List Chg):chs (a++b)=chs a++chs b:=by simp [chs]
theorem zIf:∀ {l:List Chg} {j:Nat} (h:j<l.length),(chs l)[j*3]? =some (.string (st l[j].k))/\(chs l)[j*3+1]? =some (.string (st l[j].v))/\(chs l)[j*3+2]? =some (.bool l[j].gone)
 |a::l,0,h=>⟨rfl,rfl,rfl⟩
 |a::l,j+1,h=>by
  have ih:=zIf (l:=l) (j:=j) (by simpa using h);have e:chs (a::l)=chC a++chs l:=rfl;have e2:∀m,(chs (a::l))[(j+1)*3+m]? =(chs l)[j*3+m]? :=fun m=>by
   rw [e,yx (by simp only [chC,y8,yW];omega)]
   congr 1
   simp only [chC,y8,yW];omega
  have h0:=e2 0;simp only [YQ]at h0;rw [h0,e2 1,e2 2];simpa using ih
def Ch(S:Nat->Prop)(w:World)(v:Value)(l:List Chg):Prop:=Sl S w 3 v l.length (chs l)
theorem Ch.lt{S:Nat->Prop}{w:World}{v:Value}{l:List Chg}(h:Ch S w v l):Ch (fun b=>b<w.heap.size) w v l:=(Sl.lt h (by omega)).more fun _ h=>h.2
theorem Ch.at{S:Nat->Prop}{w:World}{v:Value}{l:List Chg}(h:Ch S w v l):∃A c,v= .slice A l.length c/\l.length<=c/\c<=maxLen/\(A=none->c=0)/\
 (0<l.length->∃b o,A=some ⟨b,o,none⟩/\S b/\∀j (hj:j<l.length),w.cell? ⟨b,o+j*3,none⟩=some (.string (st l[j].k))/\w.cell? ⟨b,o+j*3+1,none⟩=some (.string (st l[j].v))/\w.cell? ⟨b,o+j*3+2,none⟩=some (.bool l[j].gone)):=by
 obtain⟨h1,A,c,rfl,h2,h3,h4,h5⟩:=h;refine⟨A,c,rfl,h2,h3,h4,fun h0=> ?_⟩;obtain⟨b,o,rfl,hS,hc⟩:=h5 h0;refine⟨b,o,rfl,hS,fun j hj=> ?_⟩;have ha:=zIf hj;exact⟨hc _ _ ha.1,hc _ _ ha.2.1,hc _ _ ha.2.2⟩
def z7r(x:Chg):List UInt8:=z0y x.k++(z3I x.gone++if x.gone then []else z0y x.v)
def z1e(l:List Chg):List UInt8:=z0C l.length++l.flatMap z7r
def ChOk(l:List Chg):Prop:=l.length<=11/\∀x∈l,x.k.length<=480/\(x.gone=false->x.v.length<=480)
theorem zHG{x:Chg}(h:x.k.length<=480/\(x.gone=false->x.v.length<=480)):(z7r x).length<=1000:=by
 have h1:=z1j x.k (by omega);have h2:(z0C x.k.length).length<=10:=z09 (by unfold U64;omega);unfold z7r;cases hg:x.gone with
 |true=>
  have:(z3I true).length=1:=rfl;simp only [y6,YN,yW];omega
 |false=>
  have h3:=h.2 hg;have h4:=z1j x.v (by omega);have h5:(z0C x.v.length).length<=10:=z09 (by unfold U64;omega);have:(z3I false).length=1:=rfl;simp only [y6,yu,yv];omega
theorem z6D:∀ {l:List Chg},(∀x∈l,x.k.length<=480/\(x.gone=false->x.v.length<=480))->(l.flatMap z7r).length<=1000*l.length
 | [],_=>by simp
 |a::l,h=>by
  have h1:=zHG (h a (by simp));have h2:=z6D fun x hx=>h x (ym _ hx)
  rw [yb,y6,y8];omega
def chN(x:Chg):Nat:=if x.gone then x.k.length else x.k.length+x.v.length
def z3x(x:Chg):Bool:=decide (240<x.k.length)||decide (480<chN x)
def z2A(l:List Chg):Nat:=(l.filter fun x=> !x.gone).length
def z3s(P:Pgr)(l:List Chg):Nat:=if 11<l.length then 151 else if l.any z3x then 100 else if 90<P.pages.length+(8+2*z2A l)then 141 else 0
theorem z9O(l:List Chg):z2A l<=l.length:=YI _ _
theorem z7M(a b:List Chg):z2A (a++b)=z2A a+z2A b:=by simp [z2A]
theorem z9H{P:Pgr}{l:List Chg}(h:z3s P l=0):l.length<=11/\(∀x∈l,x.k.length<=240/\chN x<=480)/\P.pages.length+(8+2*z2A l)<=90:=by
 unfold z3s at h
 split at h
 .cases h
 .split at h
  .cases h
  .split at h
   .cases h
   .rename_i h1 h2 h3;refine⟨by omega,fun x hx=> ?_,by omega⟩;have:=List.any_eq_false.1 (by simpa using h2:l.any z3x=false) x hx;unfold z3x at this;simp only [Z2,yd,not_or]at this;omega
theorem zFS{P:Pgr}{l:List Chg}(h:z3s P l=0):ChOk l:=by
 have h1:=z9H h;refine⟨h1.1,fun x hx=> ?_⟩;have h2:=h1.2.1 x hx;refine⟨by omega,fun hg=> ?_⟩;have h3:=h2.2;unfold chN at h3;rw [hg]at h3;simp only [yu,yv]at h3;omega
theorem zI6(gs:Nat)(Z:Pz)(P:Pgr)(S:Nat->Prop)(v0:Value)(l:List Chg)(w:World)(hp:Pg w Z P){v1 v2:Value}(hs:Blk w gs 120 #[v1,.pointer (some ⟨Z.g,0,none⟩),v2])(hr:Ch S w v0 l)(hl:l.length<=1000000)(hx:∀x∈l,x.k.length<=65536/\x.v.length<=65536):
 Calls Tryz.prog 76 #[.pointer (some ⟨gs,0,none⟩),v0] w fun e w'=>e= .returned (.int .i64 (z3s P l:Int))/\Below w.heap.size w w':=by
 have HP:=zz hp;have HS:=zz hs;obtain⟨A,c,rfl,hlc,hcm,hA0,hA⟩:=hr.lt.at;have HA:=zz hA;have HX:=zz hx;clear hA hr hA0 hx hp hs;by_cases h11:11<l.length
 .have HE:Hid (z3s P l=151):=by unfold z3s;rw [Hid,yB h11]
  go_enter Tryz.func76,Tryz.ntmps76
  go_wp2_with fail
  go_ret
  rw [HE.out];exact⟨rfl,y7 _ _⟩
 .have HM:Hid (z3s P l=if l.any z3x then 100 else if 90<P.pages.length+(8+2*z2A l)then 141 else 0):=by unfold z3s;rw [Hid,yA h11]
  go_enter Tryz.func76,Tryz.ntmps76
  go_wp2_with fail
  go_loopw [5,14] (fun nv iv wr=>∃ (i m:Nat),iv= .int .i64 (i:Int)/\nv= .int .i64 (m:Int)/\i<=l.length/\m<=100/\Hid (m=8+2*z2A (l.take i)/\(l.take i).any z3x=false/\Below w.heap.size w wr)) (fun _ iv _=>l.length-(intOf iv).toNat)
  case atStart=>exact⟨0,8,rfl,rfl,by omega,by omega,by simp [z2A],by simp,y7 _ _⟩
  case round=>
   obtain⟨i,m,rfl,rfl,hi,hm,RR⟩:=hrel;have hbl:=RR.out.2.2;by_cases hil:i<l.length
   .obtain⟨b,o,rfl,hbs,hc⟩:=HA.out (by omega);have c0:wr.cell? ⟨b,o+i*3,none⟩=some (.string (st l[i].k)):=(hbl.cell (p:=⟨b,o+i*3,none⟩) hbs).trans (hc i hil).1;have c1:wr.cell? ⟨b,o+i*3+1,none⟩=some (.string (st l[i].v)):=(hbl.cell (p:=⟨b,o+i*3+1,none⟩) hbs).trans (hc i hil).2.1;have c2:wr.cell? ⟨b,o+i*3+2,none⟩=some (.bool l[i].gone):=(hbl.cell (p:=⟨b,o+i*3+2,none⟩) hbs).trans (hc i hil).2.2;have hx:=HX.out _ (yQ hil);have htk:l.take (i+1)=l.take i++ [l[i]]:=yO hil;have hmem:l[i]∈l:=yQ hil;obtain⟨x,hx0⟩:∃x,l[i]=x:=⟨_,rfl⟩;rw [hx0]at c0 c1 c2 hx htk hmem;have HTK:=zz htk;have HMEM:=zz hmem;clear hx0 hc htk hmem;obtain⟨k,v,gn⟩:=x;simp only at c0 c1 c2 hx;have hB5:=zz (Blk.new wr 96 #[.string (st k),.string (st v),.bool gn]);have HQ5:=zz (hbl.alloc hbl.size (.cells #[.string (st k),.string (st v),.bool gn] 96));have hma:m=8+2*z2A (l.take i):=RR.out.1;have hpl:=z9O (l.take i);rw [yC]at hpl;have HRM:=zz hma;have HRA:=zz RR.out.2.1;have hm2:m<=30:=by omega
    have ew:IntKind.i64.wrap ((k.length:Int)+(v.length:Int))=(k.length:Int)+(v.length:Int):=z1C (by omega) (by omega);have ew2:IntKind.i64.wrap ((m:Int)+2)=((m+2:Nat):Int):=by rw [z1C (by omega) (by omega)];omega
    clear hma hpl hbl RR hm;by_cases h240:240<k.length
    .have z1:decide ((240:Int)<(k.length:Int))=true:=yq (by omega);cases gn with
     |true=>
      have BAD:z3x ⟨k,v,true⟩=true:=by simp [z3x,h240]
      have HE:Hid (z3s P l=100):=by
       rw [Hid,HM.out,yB (Z6.2 ⟨_,HMEM.out,BAD⟩)]
      clear HM;go_wp2_with fail
      go_ret
      rw [HE.out];exact⟨rfl,HQ5.out⟩
     |false=>
      have BAD:z3x ⟨k,v,false⟩=true:=by simp [z3x,h240]
      have HE:Hid (z3s P l=100):=by
       rw [Hid,HM.out,yB (Z6.2 ⟨_,HMEM.out,BAD⟩)]
      clear HM;go_wp2_with fail
      go_ret
      rw [HE.out];exact⟨rfl,HQ5.out⟩
    .have z1:decide ((240:Int)<(k.length:Int))=false:=yZ (by omega);cases gn with
     |true=>
      by_cases h480:480<k.length
      .omega
      .have z2:decide ((480:Int)<(k.length:Int))=false:=yZ (by omega);have RF:Hid (m=8+2*z2A (l.take (i+1))/\(l.take (i+1)).any z3x=false/\Below w.heap.size w (wr.alloc (.cells #[.string (st k),.string (st v),.bool true] 96))):=by
        refine⟨?_,?_,HQ5.out⟩
        .have hrm:=HRM.out;rw [HTK.out,z7M];simp [z2A]at hrm ⊢
         try omega
        .rw [HTK.out,List.any_append,HRA.out];simp [z3x,chN,yZ h240,yZ h480]
       clear HM HRM HRA HTK;go_wp2_with fail
       go_roundw
       case rel=>exact⟨i+1,m,by go_num,rfl,by omega,by omega,RF⟩
       case measure=>simp [intOf];omega
     |false=>
      by_cases h480:480<k.length+v.length
      .have z2:decide ((480:Int)<(k.length:Int)+(v.length:Int))=true:=yq (by omega);have BAD:z3x ⟨k,v,false⟩=true:=by simp [z3x,chN,h480]
       have HE:Hid (z3s P l=100):=by
        rw [Hid,HM.out,yB (Z6.2 ⟨_,HMEM.out,BAD⟩)]
       clear HM;go_wp2_with fail
       go_ret
       rw [HE.out];exact⟨rfl,HQ5.out⟩
      .have z2:decide ((480:Int)<(k.length:Int)+(v.length:Int))=false:=yZ (by omega);obtain⟨m2,hm22⟩:∃m2,m+2=m2:=⟨_,rfl⟩;rw [hm22]at ew2;have RF:Hid (m2=8+2*z2A (l.take (i+1))/\(l.take (i+1)).any z3x=false/\Below w.heap.size w (wr.alloc (.cells #[.string (st k),.string (st v),.bool false] 96))):=by
        refine⟨?_,?_,HQ5.out⟩
        .have hrm:=HRM.out;rw [HTK.out,z7M];simp [z2A]at hrm ⊢
         try omega
        .rw [HTK.out,List.any_append,HRA.out];simp [z3x,chN,yZ h240,yZ h480]
       clear HM HRM HRA HTK;go_wp2_with fail
       go_roundw
       case rel=>exact⟨i+1,m2,by go_num,rfl,by omega,by omega,RF⟩
       case measure=>simp [intOf];omega
   .obtain rfl:i=l.length:=by omega
    have hm1:=RR.out.1;have ha1:=RR.out.2.1;rw [YG]at hm1 ha1;have hl90:P.pages.length<=90:=by unfold Pgr.pages;exact yD (YI _ _) (by simp)
    have HP2:=zz (HP.out.later hbl);have HM2:Hid (z3s P l=if 90<P.pages.length+m then 141 else 0):=by
     rw [Hid,HM.out,ha1,<-hm1];rfl
    have HB:=zz hbl;have hs2:Blk wr gs 120 #[v1,.pointer (some ⟨Z.g,0,none⟩),v2]:=HS.out.later hbl;have cs1:wr.cell? ⟨gs,1,none⟩=some (.pointer (some ⟨Z.g,0,none⟩)):=hs2.cell 1;clear hs2;clear HM RR hm1 ha1 hbl HP HA HX;go_wp2_with fail
    refine(z3P Z P _ HP2.out).mono ?_;rintro e w6 ⟨v6,rfl,ho6,hb6⟩;obtain⟨A6,k6,c6,rfl⟩:=z0v ho6;obtain rfl:=z0h ho6;have hk6:(il P.pages).length=P.pages.length:=z8M _;have HB6:=zz (HB.out.trans (hb6.mono HB.out.size));clear ho6 hb6;rw [hk6];have ew:IntKind.i64.wrap ((90:Int)-(P.pages.length:Int))=(90:Int)-(P.pages.length:Int):=z1C (by omega) (by omega);by_cases h90:90<P.pages.length+m
    .have z3:decide ((90:Int)-(P.pages.length:Int)<(m:Int))=true:=yq (by omega);have HE:Hid (z3s P l=141):=by rw [Hid,HM2.out,yB h90]
     clear HM2 HP2;go_wp2_with fail
     go_ret
     rw [HE.out];exact⟨rfl,HB6.out⟩
    .have z3:decide ((90:Int)-(P.pages.length:Int)<(m:Int))=false:=yZ (by omega);have HE:Hid (z3s P l=0):=by rw [Hid,HM2.out,yA h90]
     clear HM2 HP2;go_wp2_with fail
     go_ret
     rw [HE.out];exact⟨rfl,HB6.out⟩
end
section
open Go
def ctJ:(j:Nat)->Ct j->Ct j->Ct j
 |0,a,b=>(b.1,a.2++b.2)
 |j+1,a,b=>List.append (α:=Kid j) a b
theorem z2Q(j:Nat)(a b:Ct j):Ct.page j (ctJ j a b)=zJV (Ct.page j a) (Ct.page j b):=by
 cases j with
 |zero=>rfl
 |succ j=>
  show(false,0,z0E (List.append a b))=(false,0,z0E (j:=j) a++z0E (j:=j) b);rw [<-z1p];rfl
theorem z6G(j:Nat)(a b:Ct j):Ct.subs j (ctJ j a b)=Ct.subs j a++Ct.subs j b:=by
 cases j with
 |zero=>rfl
 |succ j=>exact z0w (j:=j) a b
theorem zEj(j:Nat)(a b:Ct j):Ct.cells j (ctJ j a b)=Ct.cells j a++Ct.cells j b:=by
 cases j with
 |zero=>rfl
 |succ j=>exact z1g (j:=j) a b
theorem ctJ_n(j:Nat)(a b:Ct j):Ct.n j (ctJ j a b)=Ct.n j a+Ct.n j b:=by
 cases j with
 |zero=>exact y6
 |succ j=>exact y6 (α:=Kid j)
theorem zHN{Q:Prm}{j:Nat}{a b:Ct j}(ha:FlIn Q j a)(hb:FlIn Q j b):FlIn Q j (ctJ j a b):=by
 cases j with
 |zero=>trivial
 |succ j=>exact(z4i (j:=j)).2 ⟨ha,hb⟩
theorem ctJ_wf{j:Nat}{ka kb:Key}{hi:Option Key}{a b:Ct j}(ha:Wf j ka (some kb) a)(hb:Wf j kb hi b)(hh:∀y,hi=some y->Lt kb y)(hl:Lt ka kb):Wf j ka hi (ctJ j a b):=by
 cases j with
 |zero=>
  obtain⟨a1,a2⟩:=ha;obtain⟨b1,b2⟩:=hb;refine⟨?_,?_⟩
  .show Asc (a.2++b.2);rw [z6c];exact⟨a1,b1,fun x hx y hy=>z14 ((a2 x hx).2 kb rfl) (b2 y hy).1⟩
  .show ∀x∈a.2++b.2,inB ka hi x.1;intro x hx;rcases yF.1 hx with hx|hx
   .exact⟨(a2 x hx).1,fun y hy=>((a2 x hx).2 kb rfl).trans (hh y hy)⟩
   .exact⟨(z4r (b:=kb) hl.not (b2 x hx).1),(b2 x hx).2⟩
 |succ j=>
  obtain⟨a1,a2⟩:=ha;obtain⟨b1,b2⟩:=hb;have hn:∀e:Option Key,z1E (j:=j) b e=some kb:=fun e=>by
   cases b with
   |nil=>cases b1
   |cons x b=>exact b1
  refine⟨?_,?_⟩
  .show z1E (j:=j) (List.append a b) none=some ka;have:=z2F (j:=j) a b none;refine this.trans ?_;cases a with
   |nil=>cases a1
   |cons x a=>exact a1
  .show WfL (Wf j) (List.append a b) hi;refine(z3A (j:=j) a).2 ⟨?_,b2⟩;rw [hn];exact a2
theorem zEk{j:Nat}{a b:Ct j}{ia ib e:Nat}{A B:List (Nat×Nat)}:
 z88 (A++(Ct.lvs j ia a++Ct.lvs j ib b)++B) e->z88 (A++Ct.lvs j ia (ctJ j a b)++B) e:=by
 intro hc;cases j with
 |zero=>
  have e1:Ct.lvs 0 ia a++Ct.lvs 0 ib b= [(ia,a.1),(ib,b.1)]:=rfl;have e2:Ct.lvs 0 ia (ctJ 0 a b)= [(ia,b.1)]:=rfl;rw [e1]at hc;rw [e2];rw [yM,z69]at hc ⊢;exact⟨hc.1,hc.2.2⟩
 |succ j=>
  have e1:Ct.lvs (j+1) ia a++Ct.lvs (j+1) ib b=Ct.lvs (j+1) ia (ctJ (j+1) a b):=(z3d (j:=j) a b).symm;rw [<-e1];exact hc
theorem zHP{A B:List Cel}{s:Cel}(h1:∀x∈A,Lt x.1 s.1)(h2:∀x∈B,Lt s.1 x.1):delC (A++s::B) s.1=A++B:=by
 have hf:z05 (A++s::B) s.1=A.length:=z6u h1 fun x hx=>by
  rcases y9.1 hx with rfl|hx
  .exact fun h=>h.irrefl
  .exact(h2 x hx).not
 have hk:isK (A++s::B) s.1=true:=by
  unfold isK;rw [hf];simp
 rw [zCM hk,hf];simp
theorem Wf.first{j:Nat}{lo:Key}{hi:Option Key}{t:Ct (j+1)}(w:Wf (j+1) lo hi t):∃k r,t=(k::r:List (Kid j))/\k.1=lo:=by
 cases t with
 |nil=>cases w.1
 |cons k r=>exact⟨k,r,rfl,by have:=w.1;injection this⟩
theorem zE4{j:Nat}{lo:Key}{hi:Option Key}{t:Ct j}(w:Wf j lo hi t)(hl:(Ct.page j t).1=false):z9b (Ct.page j t) lo=Ct.page j t:=by
 cases j with
 |zero=>cases hl
 |succ j=>
  obtain⟨k,r,rfl,rfl⟩:=w.first;rfl
theorem z5I{cs:List Cel}{k:Key}{x:Cel}(h:x∈delC cs k):x∈cs:=by
 unfold delC at h;rcases yF.1 h with h|h
 .exact yY h
 .exact yo h
theorem z6h(cs:List Cel)(k:Key):z07 (delC cs k)<=z07 cs/\(delC cs k).length<=cs.length:=by
 unfold delC;have e:cs=cs.take (z05 cs k)++cs.drop (z05 cs k):=(yT _ _).symm;have h1:z07 cs=z07 (cs.take (z05 cs k))+z07 (cs.drop (z05 cs k)):=by rw [<-z0W,<-e]
 have h2:z07 (cs.drop (z05 cs k+z4g cs k))<=z07 (cs.drop (z05 cs k)):=by
  rw [<-QU];generalize cs.drop (z05 cs k)=Y;have:z07 Y=z07 (Y.take (z4g cs k))+z07 (Y.drop (z4g cs k)):=by rw [<-z0W,yT]
  omega
 refine⟨by rw [z0W];omega,?_⟩;rw [y6,yC,yI];omega
theorem zAn:∀ (n:Nat),∀a b:Nat,b<n->a<=b->(z0C a).length<=(z0C b).length
 |0,_,_,h,_=>by omega
 |n+1,a,b,hb,h=>by
  by_cases ha:a<128
  .rw [z2q ha];have:=z1u b;simpa using this
  .have hb2:¬b<128:=by omega
   rw [z4u ha,z4u hb2,y8,y8];have:=zAn n (a / 128) (b / 128) (by omega) (Nat.div_le_div_right h);omega
theorem zIB{leaf:Bool}{n:Nat}{a b:List Cel}(h:z07 a<=z07 b)(hl:a.length<=b.length)(leaf':Bool):szP (leaf,n,a)<=szP (leaf',n,b):=by
 unfold szP z2v;have:=zAn (b.length+1) a.length b.length (by omega) hl;simp only;omega
theorem POk.del{x:Pag}(h:POk x)(k:Key):POk (z40 x k)/\szP (z40 x k)<=szP x:=by
 have hs:szP (z40 x k)<=szP x:=zIB (z6h x.2.2 k).1 (z6h x.2.2 k).2 _;refine⟨POk.mk' h.parts.1 (z3y (h.asc.delC k) fun y hy=>z11 none _ h.parts.2.1 y (z5I hy)) ?_,hs⟩;have:=h.parts.2.2;omega
theorem KOk.del{K:Nat}{x:Pag}(h:KOk K x)(k:Key):KOk K (z40 x k):=⟨h.1,fun y hy=>h.2 y (z5I hy)⟩
def z50(pf:Int->Pag)(n:Nat)(i:Nat):Prop:=∃w,z3E pf [] n (i:Int)=some w/\w.length=n
theorem zDG(cs:List Cel):z23 cs []=0:=by
 have h:z05 cs []=0:=by
  unfold z05;cases cs with
  |nil=>rfl
  |cons c cs=>
   rw [Y0,yA]
   .rfl
   .cases c.1<;>simp [Op.bytesLess]
 unfold z23;rw [h]
 split<;>rfl
theorem z5H{pf:Int->Pag}{n i f:Nat}{k:Key}{rest:List Cel}(h:pf (i:Int)=(false,0,(k,z0C f)::rest))(hf:z50 pf n f)(h0:0<f)(h9:f<90):z50 pf (n+1) i:=by
 obtain⟨w,h1,h2⟩:=hf;refine⟨⟨(i:Int),0,(false,0,(k,z0C f)::rest)⟩::w,?_,by rw [y8,h2]⟩;rw [z3E,h];simp only [yu,false_or];rw [yA (by simp),zDG];have:z0F (cellAt ((k,z0C f)::rest) 0).2=(f:Int):=z2e h0 h9;rw [this,h1];rfl
theorem zBN{Q:Prm}(hQ:Q.Ok){pf:Int->Pag}:∀ (j:Nat) (t:Ct j) (h:Nat),(∀q∈(h,Ct.page j t)::Ct.subs j t,pf (q.1:Int)=q.2)->(∀q∈Ct.subs j t,0<q.1/\q.1<90)->FlIn Q j t->(0<j->0<Ct.n j t)->z50 pf (j+1) h
 |0,t,h,hp,hz,hf,hn=>by
  have e:pf (h:Int)=(true,t.1,t.2):=hp (h,Ct.page 0 t) (by simp);refine⟨[⟨(h:Int),0,(true,t.1,t.2)⟩],?_,rfl⟩;rw [z3E,e,yB (.inl rfl)]
 |j+1,t,h,hp,hz,hf,hn=>by
  obtain⟨⟨k,f,t'⟩,r,rfl⟩:∃k r,t=(k::r:List (Kid j)):=by
   cases t with
   |nil=>exact absurd (hn (by omega)) (by simp [Ct.n])
   |cons k r=>exact⟨k,r,rfl⟩
  have hs:Ct.subs (j+1) ((k,(f,t'))::r:List (Kid j))=(f,Ct.page j t')::Ct.subs j t'++z0B r:=z04 r (k,(f,t'));have hfl:=(z0l (j:=j)).1 hf;have h1:=(z1S Q j t').1 hfl.1;have hm:=z7A hQ j;refine z5H (n:=j+1) (f:=f) (k:=k) (rest:=z0E r) (hp (h,Ct.page (j+1) ((k,(f,t'))::r:List (Kid j))) YJ) ?_ (hz (f,Ct.page j t') (by rw [hs];simp)).1 (hz (f,Ct.page j t') (by rw [hs];simp)).2;exact zBN hQ j t' f (fun q hq=>hp q (ym _ (by rw [hs];exact yS _ hq))) (fun q hq=>hz q (by rw [hs];exact yS _ (ym _ hq))) h1.2 (fun _=>by omega)
def Cx.frames:{j D:Nat}->Cx j D->Nat->List (Nat×Pag)
 |_,_,.top,_=> []
 |_,_,.step id l k r up,h=>(id,z08 l k h r)::up.frames id
def Cx.sibs:{j D:Nat}->Cx j D->List (Nat×Pag)
 |_,_,.top=> []
 |_,_,.step _ l _ r up=>z0B l++z0B r++up.sibs
theorem Cx.pgs_perm:∀ {j D:Nat} (cx:Cx j D) (h:Nat),(cx.pgs h).Perm (cx.frames h++cx.sibs)
 |_,_,.top,h=>List.Perm.refl _
 |_,_,.step id l k r up,h=>by
  rw [z0R,Cx.frames,Cx.sibs];refine(Zh _ (Cx.pgs_perm up id)).trans (z0a fun a=> ?_);simp only [YY,YV,QD];omega
theorem Cx.zero_in:∀ {j D:Nat} (cx:Cx j D) (h:Nat),cx.root h->0<h->0∈(cx.frames h).map (·.1)
 |_,_,.top,h,hr,h0=>by have:h=0:=hr;omega
 |_,_,.step id l k r up,h,hr,h0=>by
  rw [Cx.frames,yy,y9];rcases Y3 id with h1|h1
  .exact .inl h1.symm
  .exact .inr (Cx.zero_in up id hr.2 h1)
theorem zCr{j D:Nat}{cx:Cx j D}{h:Nat}{L:List (Nat×Pag)}(hr:cx.root h)(h0:0<h)(hn:((cx.pgs h++L).map (·.1)).Nodup):∀q,q∈cx.sibs∨q∈L->0<q.1:=by
 intro q hq;have hp:(cx.pgs h++L).Perm (cx.frames h++(cx.sibs++L)):=by
  rw [<-yM];exact List.Perm.append_right _ (cx.pgs_perm h)
 have hn:=(hp.map (·.1)).nodup hn;rw [Y6,ZI]at hn;have hz:=cx.zero_in h hr h0;have:=hn.2.2 0 hz q.1 (QP (by simpa using hq));omega
theorem zEu{Q:Prm}(hQ:Q.Ok){pf:Int->Pag}:∀ {j D:Nat} (cx:Cx j D) (h:Nat),z50 pf (j+1) h->cx.root h->cx.FlC Q->h<90->(∀q∈cx.pgs h,pf (q.1:Int)=q.2)->(∀q∈cx.sibs,0<q.1/\q.1<90)->(∀q∈cx.frames h,q.1<90)->z50 pf (D+1) 0
 |_,_,.top,h,hl,hr,_,_,_,_,_=>by obtain rfl:h=0:=hr;exact hl
 |_,_,.step (j:=j) id l k r up,h,hl,hr,hf,h9,hp,hs,hfr=>by
  obtain⟨f1,f2,f3,f4⟩:=hf;have hid:id<90:=hfr (id,z08 l k h r) (by rw [Cx.frames];simp);refine zEu hQ up id ?_ hr.2 f4 hid (fun q hq=>hp q (by rw [z0R];simp [hq])) (fun q hq=>hs q (by rw [Cx.sibs];simp [hq])) (fun q hq=>hfr q (by rw [Cx.frames];simp [hq]));have hpg:=hp (id,z08 l k h r) (by rw [z0R];simp);cases l with
  |nil=>exact z5H (k:=k) (rest:=z0E r) hpg hl hr.1 h9
  |cons a l=>
   have hin:∀q∈(a.2.1,Ct.page j a.2.2)::Ct.subs j a.2.2,q∈z0B (a::l):=fun q hq=>by rw [z04];exact yS _ hq
   have h1:=(z1S Q j a.2.2).1 (z0l.1 f1).1;have hm:=z7A hQ j;have hpos:=hs (a.2.1,Ct.page j a.2.2) (by rw [Cx.sibs];simp [hin (a.2.1,Ct.page j a.2.2) (by simp)]);refine z5H (f:=a.2.1) (k:=a.1) (rest:=z0E l++(k,z0C h)::z0E r) hpg ?_ hpos.1 hpos.2;exact zBN hQ j a.2.2 a.2.1 (fun q hq=>hp q (by rw [z0R];simp [hin q hq])) (fun q hq=>hs q (by rw [Cx.sibs];simp [hin q (by simp [hq])])) h1.2 (fun _=>by omega)
section
variable {Q:Prm} {P:Pgr} {c:Int->List UInt8} {j D:Nat} {h:Nat} {t:Ct j} {st:Pag}
theorem UpK.out{id:Nat}{l r:List (Kid j)}{k:Key}{up:Cx (j+1) D}(u:UpK Q (.step id l k r up) h t)(hok:szP (Ct.page j t)<=2048)(hfl:FlT Q j t)(h9:h<90):
 UpJ Q up id (show Ct (j+1)from(l++(k,(h,t))::r:List (Kid j)))/\Ct.page (j+1) (show Ct (j+1)from(l++(k,(h,t))::r:List (Kid j)))=z08 l k h r:=by
 obtain⟨lo,hi,w1,w2⟩:=u.wf;obtain⟨c1,c2,c4⟩:=u.cfk;obtain⟨c5,c6⟩:=(up.FlC_iff Q).1 c4;obtain⟨q1,lo',hi',q2,q3,q4,q5,q6,q7⟩:=w1;have hroot:=u.root;have hsub:Ct.subs (j+1) (show Ct (j+1)from(l++(k,(h,t))::r:List (Kid j)))=z0B l++((h,Ct.page j t)::Ct.subs j t++z0B r):=by
  show z0B (l++(k,(h,t))::r)=_;rw [z0w,z04]
 have hst:=u.ok (id,z08 l k h r) (by rw [z0R];simp);have hpg:Ct.page (j+1) (show Ct (j+1)from(l++(k,(h,t))::r:List (Kid j)))=z08 l k h r:=zAX l k h t r;refine⟨⟨⟨hroot.2,⟨lo',hi',q2,?_,?_⟩,?_,?_,?_,c5,?_,?_⟩,c6⟩,hpg⟩
 .show z1E (l++(k,(h,t))::r) none=some lo';rw [z2F];exact q4
 .show WfL (Wf j) (l++(k,(h,t))::r) hi';rw [z3A];subst q1 q3;exact⟨q5,w2,q6,q7⟩
 .intro q hq;have old:∀q,q∈up.pgs id∨q∈z0B l∨q∈z0B r∨q∈Ct.subs j t->POk q.2/\KOk Q.K q.2:=fun q hq=>u.ok q (by rw [z0R];simp only [yF];rcases hq with hq|hq|hq|hq<;>simp [hq])
  rw [hsub]at hq;simp only [yF,y9]at hq;rcases hq with hq|hq|(rfl|hq)|hq
  .exact old q (.inl hq)
  .exact old q (.inr (.inl hq))
  .exact⟨u.big.ok hok,u.big.key⟩
  .exact old q (.inr (.inr (.inr hq)))
  .exact old q (.inr (.inr (.inl hq)))
 .rw [hpg];exact hst.1.big hst.2
 .have hch:=u.ch;rw [Cx.ll,Cx.lr]at hch;show z88 (up.ll++z4x (l++(k,(h,t))::r)++up.lr) 0;rw [z3d,z1U];simpa only [yM]using hch
 .show FlL Q (l++(k,(h,t))::r);rw [z4i,z0l];exact⟨c1,hfl,c2⟩
 .intro q hq;have old:∀q,q∈up.pgs id∨q∈z0B l∨q∈z0B r∨q∈Ct.subs j t->q.1<90:=fun q hq=>u.i90 q (by rw [z0R];simp only [yF];rcases hq with hq|hq|hq|hq<;>simp [hq])
  rw [hsub]at hq;simp only [yF,y9]at hq;rcases hq with hq|hq|(rfl|hq)|hq
  .exact old q (.inl hq)
  .exact old q (.inr (.inl hq))
  .exact h9
  .exact old q (.inr (.inr (.inr hq)))
  .exact old q (.inr (.inr (.inl hq)))
theorem UpK.virt{id:Nat}{l r l' r':List (Kid j)}{k ka kb:Key}{up:Cx (j+1) D}{ia ib:Nat}{A B:Ct j}(u:UpK Q (.step id l k r up) h t)
 (hd:l++(k,(h,t))::r=l'++(ka,(ia,A))::(kb,(ib,B))::r') (ha0:0<ia) (hA:Big Q.K (Ct.page j A)) (hB:Big Q.K (Ct.page j B)) (hsz:szP (Ct.page j A)+szP (Ct.page j B)<=4600)
 (hfA:FlIn Q j A) (hfB:FlIn Q j B) (hfl':FlL Q l') (hfr':FlL Q r')
 (hin:∀q,q∈z0B l'∨q∈z0B r'∨q∈Ct.subs j A∨q∈Ct.subs j B->q∈z0B l∨q∈z0B r∨q∈Ct.subs j t):
 UpK Q (.step id l' ka r' up) ia (ctJ j A B)/\z40 (z08 l k h r) kb=z08 l' ka ia r'/\Lt ka kb/\(∃hi,Wf j kb hi B)/\(∃lo hi,(Cx.step id l' ka r' up).WfC lo hi/\Wf j lo hi (ctJ j A B)):=by
 obtain⟨lo,hi,w1,w2⟩:=u.wf;obtain⟨c1,c2,c4⟩:=u.cfk;obtain⟨q1,lo',hi',q2,q3,q4,q5,q6,q7⟩:=w1;have hroot:=u.root;have hall:z1E (l++(k,(h,t))::r) none=some lo'/\WfL (Wf j) (l++(k,(h,t))::r) hi':=by
  rw [z2F,z3A];subst q1 q3;exact⟨q4,q5,w2,q6,q7⟩
 rw [hd]at hall;obtain⟨g1,g2⟩:=hall;obtain⟨_,asc,_⟩:=WfL.all (Wf.all j) _ hi' g2;rw [z2F]at g1;rw [z3A]at g2;obtain⟨g3,g4,g5,g6,g7,g8⟩:=g2;have hlt:Lt ka kb:=g5 kb rfl;have hwJ:Wf j ka (z1E r' hi') (ctJ j A B):=ctJ_wf g4 g6 g7 hlt;have hwC:(Cx.step id l' ka r' up).WfC ka (z1E r' hi'):=⟨rfl,lo',hi',q2,rfl,g1,g3,fun y hy=>hlt.trans (g7 y hy),g8⟩;have hstep:z08 l k h r=(false,0,z0E l'++(ka,z0C ia)::(kb,z0C ib)::z0E r'):=by
  unfold z08;have e:z0E (l++(k,(h,t))::r)=z0E (l'++(ka,(ia,A))::(kb,(ib,B))::r'):=by rw [hd]
  rw [z1p,z0u,z1p,z0u,z0u]at e;rw [e]
 have hdel:z40 (z08 l k h r) kb=z08 l' ka ia r':=by
  rw [hstep];unfold z40 z08;rw [z1p,z0u,z0u]at asc;have e:z0E l'++(ka,z0C ia)::(kb,z0C ib)::z0E r'=(z0E l'++ [(ka,z0C ia)])++(kb,z0C ib)::z0E r':=by simp
  rw [e]at asc;rw [z6c]at asc;obtain⟨s1,s2,s3⟩:=asc;have:=zHP (A:=z0E l'++ [(ka,z0C ia)]) (B:=z0E r') (s:=(kb,z0C ib)) (fun x hx=>s3 x hx _ (by simp)) (yh.1 s2).1;simp only [e];rw [this];simp
 have hst:=u.ok (id,z08 l k h r) (by rw [z0R];simp);refine⟨⟨⟨ha0,hroot.2⟩,⟨_,_,hwC,hwJ⟩,?_,?_,?_,⟨hfl',hfr',c4⟩,zHN hfA hfB,?_⟩,hdel,hlt,⟨_,g6⟩,_,_,hwC,hwJ⟩
 .intro q hq;rw [z0R,z6G]at hq;have old:∀q,q∈z0B l∨q∈z0B r∨q∈Ct.subs j t->POk q.2/\KOk Q.K q.2:=fun q hq=>u.ok q (by rw [z0R];simp only [yF];rcases hq with hq|hq|hq<;>simp [hq])
  simp only [yF,y9,yH,yp]at hq;rcases hq with((rfl|hq|hq)|hq)|hq|hq
  .rw [<-hdel];exact⟨(hst.1.del kb).1,hst.2.del kb⟩
  .exact old q (hin q (.inl hq))
  .exact old q (hin q (.inr (.inl hq)))
  .exact u.ok q (by rw [z0R];simp [hq])
  .exact old q (hin q (.inr (.inr (.inl hq))))
  .exact old q (hin q (.inr (.inr (.inr hq))))
 .rw [z2Q];have asJ:=hwJ.keys;rw [z2Q]at asJ;refine⟨hB.next,asJ.1,fun x hx=> ?_,⟨hB.key.1,fun x hx=> ?_⟩,?_⟩
  .rcases yF.1 hx with hx|hx
   .exact hA.small x hx
   .exact hB.small x hx
  .rcases yF.1 hx with hx|hx
   .exact hA.key.2 x hx
   .exact hB.key.2 x hx
  .have h1:=hA.sz;have h2:=hB.sz;have h3:=z55 ((Ct.page j A).2.2++(Ct.page j B).2.2);rw [z0W]at h3;have h4:=z5f (n:=(Ct.page j B).2.1) (cs:=(Ct.page j A).2.2++(Ct.page j B).2.2) hB.next (by omega);rw [z0W]at h4;show z2v ((Ct.page j B).2.1:Int) ((Ct.page j A).2.2++(Ct.page j B).2.2)<=4600;omega
 .have hch:=u.ch;rw [Cx.ll,Cx.lr]at hch ⊢;have e:up.ll++z4x l++Ct.lvs j h t++(z4x r++up.lr)=up.ll++z4x (l++(k,(h,t))::r)++up.lr:=by
   rw [z3d,z1U];simp only [yM]
  rw [e,hd,z3d,z1U,z1U]at hch;have:=zEk (A:=up.ll++z4x l') (B:=z4x r'++up.lr) (e:=0) (ia:=ia) (ib:=ib) (a:=A) (b:=B) (by simpa only [yM]using hch);simpa only [yM]using this
 .intro q hq;rw [z0R,z6G]at hq;have old:∀q,q∈z0B l∨q∈z0B r∨q∈Ct.subs j t->q.1<90:=fun q hq=>u.i90 q (by rw [z0R];simp only [yF];rcases hq with hq|hq|hq<;>simp [hq])
  simp only [yF,y9,yH,yp]at hq;rcases hq with((rfl|hq|hq)|hq)|hq|hq
  .exact u.i90 (id,z08 l k h r) (by rw [z0R];simp)
  .exact old q (hin q (.inl hq))
  .exact old q (hin q (.inr (.inl hq)))
  .exact u.i90 q (by rw [z0R];simp [hq])
  .exact old q (hin q (.inr (.inr (.inl hq))))
  .exact old q (hin q (.inr (.inr (.inr hq))))
end
section
variable {Q:Prm} {P:Pgr} {c:Int->List UInt8} {j D:Nat} {h:Nat} {t:Ct j} {st:Pag}
structure Pair{j:Nat}(l:List (Kid j))(k:Key)(h:Nat)(t:Ct j)(r l':List (Kid j))(ka:Key)(ia:Nat)(A:Ct j)(kb:Key)(ib:Nat)(B:Ct j)(r':List (Kid j)):Prop where
 hd:l++(k,(h,t))::r=l'++(ka,(ia,A))::(kb,(ib,B))::r'
 at_:l.length-1=l'.length
 or_:(l= []/\l'= []/\ka=k/\ia=h/\A=t/\r=(kb,(ib,B))::r')∨(l=l'++ [(ka,(ia,A))]/\kb=k/\ib=h/\B=t/\r=r')
theorem zFc{l:List (Kid j)}(k:Key)(h:Nat)(t:Ct j){r:List (Kid j)}(hn:2<=l.length+1+r.length):∃l' ka ia A kb ib B r',Pair l k h t r l' ka ia A kb ib B r':=by
 rcases List.eq_nil_or_concat l with rfl|⟨l',⟨ka,ia,A⟩,rfl⟩
 .cases r with
  |nil=>simp at hn
  |cons b r'=>
   obtain⟨kb,ib,B⟩:=b;exact⟨[],k,h,t,kb,ib,B,r',rfl,rfl,.inl ⟨rfl,rfl,rfl,rfl,rfl,rfl⟩⟩
 .refine⟨l',ka,ia,A,k,h,t,r,?_,?_,.inr ⟨List.concat_eq_append ..,rfl,rfl,rfl,rfl⟩⟩
  .simp
  .simp
theorem Pair.len{l r l' r':List (Kid j)}{k ka kb:Key}{ia ib:Nat}{A B:Ct j}(p:Pair l k h t r l' ka ia A kb ib B r'):l.length+1+r.length=l'.length+2+r'.length:=by
 have:=congrArg List.length p.hd;simp only [y6,y8]at this;omega
theorem z8O{id:Nat}{l r l' r':List (Kid j)}{k ka kb:Key}{ia ib:Nat}{A B:Ct j}(p:Pair l k h t r l' ka ia A kb ib B r'):
 z08 l k h r=(false,0,z0E l'++(ka,z0C ia)::(kb,z0C ib)::z0E r'):=by
 unfold z08;have e:z0E (l++(k,(h,t))::r)=z0E (l'++(ka,(ia,A))::(kb,(ib,B))::r'):=by rw [p.hd]
 rw [z1p,z0u,z1p,z0u,z0u]at e;rw [e]
theorem z8C{A B:List Cel}{x:Cel}:cellAt (A++x::B) A.length=x:=by
 unfold cellAt;rw [yx (y5 _),Zs];rfl
theorem z75{id:Nat}{l r l' r':List (Kid j)}{k ka kb:Key}{ia ib:Nat}{A B:Ct j}(p:Pair l k h t r l' ka ia A kb ib B r')(pf:Int->Pag)(ha:0<ia/\ia<90)(hb:0<ib/\ib<90)
 (hpa:l≠ []->pf (ia:Int)=Ct.page j A) (hpb:l= []->pf (ib:Int)=Ct.page j B) (hB:∃hi,Wf j kb hi B):
 lvA ⟨(id:Int),l.length,z08 l k h r⟩=(ia:Int)/\lvB ⟨(id:Int),l.length,z08 l k h r⟩=(ib:Int)/\lvK ⟨(id:Int),l.length,z08 l k h r⟩=kb/\
 z7v pf ⟨(id:Int),l.length,z08 l k h r⟩ (Ct.page j t)=Ct.page j (ctJ j A B):=by
 have hpg:=z8O (id:=id) p;have e1:cellAt (z08 l k h r).2.2 (l.length-1)=(ka,z0C ia):=by
  rw [hpg,p.at_,<-z2h l'];exact z8C
 have e2:cellAt (z08 l k h r).2.2 (l.length-1+1)=(kb,z0C ib):=by
  rw [hpg,p.at_,<-z2h l'];have:z0E l'++(ka,z0C ia)::(kb,z0C ib)::z0E r'=(z0E l'++ [(ka,z0C ia)])++(kb,z0C ib)::z0E r':=by simp
  have h2:(z0E l').length+1=(z0E l'++ [(ka,z0C ia)]).length:=by simp
  simp only [this,h2];exact z8C
 have a1:lvA ⟨(id:Int),l.length,z08 l k h r⟩=(ia:Int):=by unfold lvA;simp only;rw [e1];exact z2e ha.1 ha.2
 have a2:lvB ⟨(id:Int),l.length,z08 l k h r⟩=(ib:Int):=by unfold lvB;simp only;rw [e2];exact z2e hb.1 hb.2
 have a3:lvK ⟨(id:Int),l.length,z08 l k h r⟩=kb:=by unfold lvK;simp only;rw [e2]
 refine⟨a1,a2,a3,?_⟩;have a4:lvL pf ⟨(id:Int),l.length,z08 l k h r⟩ (Ct.page j t)=Ct.page j A:=by
  unfold lvL;rw [a1];rcases p.or_ with⟨rfl,_,_,_,rfl,_⟩|⟨rfl,_⟩
  .rfl
  .rw [yA (by simp)];exact hpa (by simp)
 have a5:zFQ pf ⟨(id:Int),l.length,z08 l k h r⟩ (Ct.page j t)=Ct.page j B:=by
  unfold zFQ;rw [a2];rcases p.or_ with⟨rfl,_,_,_,rfl,_⟩|⟨rfl,_,_,rfl,_⟩
  .exact hpb rfl
  .rw [yA (by simp)]
 obtain⟨hi,wB⟩:=hB;have hleaf:∀x:Ct j,(Ct.page j x).1=(Ct.page j t).1:=fun x=>by cases j<;>rfl
 unfold z7v;rw [a4,z2Q]
 congr 1
 unfold lvR;rw [a5,a3]
 split
 .rfl
 .rename_i hf;exact zE4 wB (by rw [hleaf];simpa using hf)
structure DnI(Q:Prm)(P:Pgr)(c:Int->List UInt8){j D:Nat}(cx:Cx j D)(h:Nat)(t:Ct j)(st:Pag):Prop extends UpI Q P c cx h t st where
 left:z50 (P.pgD c) (j+1) h
 small:szP (Ct.page j t)<=2600
theorem UpI.left'(hQ:Q.Ok){cx:Cx (j+1) D}{t':Ct (j+1)}(u:UpI Q P c cx h t' st){k0 k1:Key}{f:Nat}{t0:Ct j}{rest:List (Kid j)}(e:t'=((k0,(f,t0))::rest:List (Kid j))){rest':List Cel}(e2:st=(false,0,(k1,z0C f)::rest'))(hpos:∀q∈Ct.subs (j+1) t',0<q.1):
 z50 (P.pgD c) (j+1+1) h:=by
 subst e2;have hs:Ct.subs (j+1) t'=(f,Ct.page j t0)::Ct.subs j t0++z0B rest:=by rw [e];exact z04 rest (k0,(f,t0))
 have hfl:FlL Q ((k0,(f,t0))::rest):=by have:=u.fl;rw [e]at this;exact this
 have h1:=(z1S Q j t0).1 (z0l.1 hfl).1;have hm:=z7A hQ j;have hin:∀q∈(f,Ct.page j t0)::Ct.subs j t0,q∈Ct.subs (j+1) t':=fun q hq=>by rw [hs];exact yS _ hq
 have h9:∀q∈Ct.subs (j+1) t',q.1<90:=fun q hq=>u.i90 q (YO _ hq)
 have hget:∀q∈Ct.subs (j+1) t',P.pgD c (q.1:Int)=q.2:=fun q hq=>u.rep.pgD (p:=q.2) (YO _ (ym _ hq))
 refine z5H (f:=f) (k:=k1) (rest:=rest') (u.rep.pgD (by simp)) ?_ (hpos _ (hin (f,Ct.page j t0) (by simp))) (h9 _ (hin (f,Ct.page j t0) (by simp)));exact zBN hQ j t0 f (fun q hq=>hget q (hin q hq)) (fun q hq=>⟨hpos q (hin q (by simp [hq])),h9 q (hin q (by simp [hq]))⟩) h1.2 (fun _=>by omega)
structure LvR(Q:Prm)(P:Pgr)(c:Int->List UInt8){j D:Nat}(id:Nat)(l:List (Kid j))(k:Key)(r:List (Kid j))(up:Cx (j+1) D)(h:Nat)(t:Ct j)(R:Pgr×Pag)(t':Ct (j+1)):Prop where
 page:R.2=Ct.page (j+1) t'
 dn:DnI Q R.1 c up id t' (z08 l k h r)
 cells:up.cl++Ct.cells (j+1) t'++up.cr=(Cx.step id l k r up).cl++Ct.cells j t++(Cx.step id l k r up).cr
 cases_:(szP R.2<=2048/\Ct.n (j+1) t'+1=l.length+1+r.length/\z2s up id t'+1=z2s (Cx.step id l k r up) h t)∨
  (szP R.2<=2048/\Ct.n (j+1) t'=l.length+1+r.length/\z2s up id t'=z2s (Cx.step id l k r up) h t)∨
  (2048<szP R.2/\Ct.n (j+1) t'=l.length+1+r.length/\z2s up id t'=z2s (Cx.step id l k r up) h t/\(z2s (Cx.step id l k r up) h t+D+3<=90∨(0<j/\Ct.n j t<=1)))
theorem zCY(hQ:Q.Ok){id:Nat}{l r:List (Kid j)}{k:Key}{up:Cx (j+1) D}(u:DnI Q P c (Cx.step id l k r up) h t st)(hs:szP (Ct.page j t)<512)(hn:z7p Q j<=Ct.n j t+1)
 (hreg:(Q.a=1/\Q.m=2)∨z2s (Cx.step id l k r up) h t+D+3<=90) (hD:D<=90):
 ∃t',LvR Q P c id l k r up h t (z0e P c ⟨(id:Int),l.length,z08 l k h r⟩ (h:Int) (Ct.page j t)) t':=by
 have hneed:up.need Q<=l.length+1+r.length:=u.cok;have hm2:=hQ.m2;have h2:2<=l.length+1+r.length:=by
  have:2<=up.need Q:=by
   cases up with
   |top=>exact y5 2
   |step=>exact hm2
  omega
 obtain⟨l',ka,ia,A,kb,ib,B,r',p⟩:=zFc k h t (l:=l) (r:=r) h2;have hlen:=p.len;have hnd:=u.rep.rep.nodup;have hroot:=u.root;have hpos:=zCr (cx:=Cx.step id l k r up) hroot hroot.1 hnd;have hcfk:=u.cfk;obtain⟨f1,f2,f3⟩:=hcfk;have hmin:=z7A hQ j;have hsib:∀q,q∈z0B l∨q∈z0B r->0<q.1/\q.1<90/\POk q.2/\KOk Q.K q.2/\P.pgD c (q.1:Int)=q.2:=fun q hq=>by
  have hq1:q∈(Cx.step id l k r up).pgs h:=by rw [z0R];simp only [yF];rcases hq with hq|hq<;>simp [hq]
  have hq2:q∈(Cx.step id l k r up).sibs:=by rw [Cx.sibs];simp only [yF];rcases hq with hq|hq<;>simp [hq]
  have:=u.ok q (yS _ hq1);exact⟨hpos q (.inl hq2),u.i90 q (yS _ hq1),this.1,this.2,u.rep.pgD (p:=q.2) (yS _ hq1)⟩
 have hh:0<h/\h<90:=⟨hroot.1,u.lt⟩;have hzt:0<szP (Ct.page j t):=by have:=zAj (x:=Ct.page j t);omega
 have hAB:(0<ia/\ia<90)/\(0<ib/\ib<90)/\(l≠ []->P.pgD c (ia:Int)=Ct.page j A)/\(l= []->P.pgD c (ib:Int)=Ct.page j B)/\Big Q.K (Ct.page j A)/\Big Q.K (Ct.page j B)/\
  szP (Ct.page j A)+szP (Ct.page j B)<=2560/\FlIn Q j A/\FlIn Q j B/\FlL Q l'/\FlL Q r'/\z7p Q j<=Ct.n j A+Ct.n j B/\
  (∀q,q∈z0B l'∨q∈z0B r'∨q∈Ct.subs j A∨q∈Ct.subs j B->q∈z0B l∨q∈z0B r∨q∈Ct.subs j t)/\
  (∃sa sb,((h,st)::(z0B l++z0B r++Ct.subs j t)).Perm ((ia,sa)::(ib,sb)::(z0B l'++z0B r'++(Ct.subs j A++Ct.subs j B))))/\1<=Ct.n j A+Ct.n j B:=by
  rcases p.or_ with⟨rfl,rfl,rfl,rfl,rfl,rfl⟩|⟨rfl,rfl,rfl,rfl,rfl⟩
  .have hb:=hsib (ib,Ct.page j B) (.inr (by rw [z04];simp));have hf:=z0l.1 f2;have hfB:=(z1S Q j B).1 hf.1;refine⟨hh,⟨hb.1,hb.2.1⟩,fun h=>absurd rfl h,fun _=>hb.2.2.2.2,u.big,hb.2.2.1.big hb.2.2.2.1,by have:=hb.2.2.1.parts.2.2;simp only at this;omega,u.fl,hfB.2,f1,hf.2,by omega,?_,⟨st,Ct.page j B,?_⟩,by omega⟩
   .intro q hq;rcases hq with hq|hq|hq|hq
    .exact .inl hq
    .exact .inr (.inl (by rw [z04];simp [hq]))
    .exact .inr (.inr hq)
    .exact .inr (.inl (by rw [z04];simp [hq]))
   .rw [z04];refine z0a fun a=> ?_
    simp only [YY,YV];omega
  .have ha:=hsib (ia,Ct.page j A) (.inl (by rw [z0w,z04];simp));have hf:=z4i.1 f1;have hfA:=(z1S Q j A).1 (z0l.1 hf.2).1;have hsl:z0B (l'++ [(ka,(ia,A))])=z0B l'++((ia,Ct.page j A)::Ct.subs j A):=by rw [z0w,z04];simp [z0B]
   refine⟨⟨ha.1,ha.2.1⟩,hh,fun _=>ha.2.2.2.2,fun h=>by simp at h,ha.2.2.1.big ha.2.2.2.1,u.big,by have:=ha.2.2.1.parts.2.2;simp only at this;omega,hfA.2,u.fl,hf.1,f2,by omega,?_,⟨Ct.page j A,st,?_⟩,by omega⟩
   .intro q hq;rw [hsl];rcases hq with hq|hq|hq|hq
    .exact .inl (by simp [hq])
    .exact .inr (.inl hq)
    .exact .inl (by simp [hq])
    .exact .inr (.inr hq)
   .rw [hsl];refine z0a fun a=> ?_
    simp only [YY,YV];omega
 obtain⟨ha,hb,hpa,hpb,bA,bB,hsz,fA,fB,fl',fr',hmn,hin,⟨sa,sb,hperm⟩,hone⟩:=hAB;obtain⟨v1,v2,v3,v4,lo,hi,v5,v6⟩:=u.toUpK.virt p.hd ha.1 bA bB (by omega) fA fB fl' fr' hin;obtain⟨r1,r2,r3,r4⟩:=z75 (id:=id) p (P.pgD c) ha hb hpa hpb v4;obtain⟨s,hsdef⟩:∃s:TStp,(⟨(id:Int),l.length,z08 l k h r⟩:TStp)=s:=⟨_,rfl⟩;have hspg:s.pg=z08 l k h r:=by rw [<-hsdef]
 rw [hsdef]at r1 r2 r3 r4 ⊢;have rep1:RepP P c ((ia,sa)::(ib,sb)::((id,z08 l k h r)::up.pgs id++(z0B l'++z0B r'++Ct.subs j (ctJ j A B)))):=by
  refine u.rep.perm ?_;rw [z0R,z6G];refine List.Perm.trans (l₂:=((id,z08 l k h r)::up.pgs id)++((h,st)::(z0B l++z0B r++Ct.subs j t))) (z0a fun a=>by simp only [YY,YV,QD];omega) ?_;refine(Zh _ hperm).trans (z0a fun a=>by simp only [YY,YV];omega)
 have hst:=u.ok (id,z08 l k h r) (by rw [z0R];simp);have hcnt:z2s (Cx.step id l k r up) h t=3+(up.pgs id).length+(z0B l').length+(z0B r').length+(Ct.subs j (ctJ j A B)).length:=by
  have h1:=rep1.len;have h2:=u.toUpI.pages;rw [h1]at h2;rw [<-h2];simp only [y8,y6];omega
 have hcells:up.cl++(z0d l'++Ct.cells j (ctJ j A B)++z0d r')++up.cr=(Cx.step id l k r up).cl++Ct.cells j t++(Cx.step id l k r up).cr:=by
  rw [Cx.cl,Cx.cr,zEj];have e:z0d (l++(k,(h,t))::r)=z0d (l'++(ka,(ia,A))::(kb,(ib,B))::r'):=by rw [p.hd]
  rw [z1g,z0g,z1g,z0g,z0g]at e;have e2:up.cl++z0d l++Ct.cells j t++(z0d r++up.cr)=up.cl++(z0d l++(Ct.cells j t++z0d r))++up.cr:=by simp only [yM]
  rw [e2,e];simp only [yM]
 have hidp:∀q,q∈z0B l'∨q∈z0B r'∨q∈Ct.subs j (ctJ j A B)->0<q.1:=fun q hq=>by
  have:q∈z0B l∨q∈z0B r∨q∈Ct.subs j t:=by
   rw [z6G]at hq;refine hin q ?_;rcases hq with hq|hq|hq
   .exact .inl hq
   .exact .inr (.inl hq)
   .rcases yF.1 hq with hq|hq
    .exact .inr (.inr (.inl hq))
    .exact .inr (.inr (.inr hq))
  rcases this with hq|hq|hq
  .exact(hsib q (.inl hq)).1
  .exact(hsib q (.inr hq)).1
  .exact hpos q (.inr (by simp [hq]))
 have hfirst:∃k1 rest',z08 l k h r=(false,0,(k1,z0C (match l' with| []=>ia|a::_=>a.2.1))::rest'):=by
  rw [z8O (id:=id) p];cases l' with
  |nil=>exact⟨_,_,rfl⟩
  |cons a l'=>exact⟨_,_,rfl⟩
 obtain⟨k1,rest',hfst⟩:=hfirst;have hdep:depF (P.pgD c)=D+1:=by
  have hl:=zEu hQ (pf:=P.pgD c) (Cx.step id l k r up) h u.left hroot u.cfl hh.2 (fun q hq=>u.rep.pgD (p:=q.2) (yS _ hq)) (fun q hq=>⟨hpos q (.inl hq),u.i90 q (yS _ (((Cx.pgs_perm _ h).mem_iff).2 (YO _ hq)))⟩)
   (fun q hq=>u.i90 q (yS _ (((Cx.pgs_perm _ h).mem_iff).2 (yS _ hq))))
  obtain⟨w,hw1,hw2⟩:=hl;have hD:D+1<=100:=by omega
  have:=z2r hw1 hD;unfold depF;have e0:((0:Nat):Int)=0:=rfl;rw [e0]at this;rw [this];exact hw2
 unfold z0e;by_cases hj:szP (z7v (P.pgD c) s (Ct.page j t))<=2048
 .
  rw [yB hj];rw [r4]at hj ⊢;rw [r1,r2,r3,hspg,v2];have hfJ:FlT Q j (ctJ j A B):=by rw [z1S,ctJ_n];exact⟨hmn,v1.fl⟩
  obtain⟨o1,o2⟩:=v1.out hj hfJ ha.2;have okJ:=v1.big.ok hj;have rep2:RepP ((P.wp (ia:Int) (Ct.page j (ctJ j A B))).free (ib:Int)) c (up.pgs id++(id,z08 l k h r)::Ct.subs (j+1) (show Ct (j+1)from(l'++(ka,(ia,ctJ j A B))::r':List (Kid j)))):=by
   have hsub:Ct.subs (j+1) (show Ct (j+1)from(l'++(ka,(ia,ctJ j A B))::r':List (Kid j)))=z0B l'++((ia,Ct.page j (ctJ j A B))::Ct.subs j (ctJ j A B)++z0B r'):=by
    show z0B (l'++(ka,(ia,ctJ j A B))::r')=_;rw [z0w,z04]
   have q1:=rep1.wp okJ;have q2:=q1.perm (List.Perm.swap _ _ _);refine(q2.free).perm ?_;rw [hsub];refine z0a fun a=> ?_
   simp only [YY,YV];omega
  have uI:UpI Q ((P.wp (ia:Int) (Ct.page j (ctJ j A B))).free (ib:Int)) c up id (show Ct (j+1)from(l'++(ka,(ia,ctJ j A B))::r':List (Kid j))) (z08 l k h r):=⟨o1,rep2⟩;have hszp:szP (z08 l' ka ia r')<=2048:=by rw [<-v2];exact yD (hst.1.del kb).2 hst.1.parts.2.2
  have hposJ:∀q∈Ct.subs (j+1) (show Ct (j+1)from(l'++(ka,(ia,ctJ j A B))::r':List (Kid j))),0<q.1:=by
   intro q hq;have hq:q∈z0B (l'++(ka,(ia,ctJ j A B))::r'):=hq;rw [z0w,z04]at hq;simp only [yF,y9]at hq;rcases hq with hq|(rfl|hq)|hq
   .exact hidp q (.inl hq)
   .exact ha.1
   .exact hidp q (.inr (.inr hq))
   .exact hidp q (.inr (.inl hq))
  refine⟨_,o2.symm,⟨uI,?_,by rw [o2];omega⟩,?_,.inl ⟨hszp,?_,?_⟩⟩
  .cases l' with
   |nil=>exact uI.left' hQ rfl hfst hposJ
   |cons a l'=>obtain⟨ak,ai,at'⟩:=a;exact uI.left' hQ rfl hfst hposJ
  .show up.cl++z0d (l'++(ka,(ia,ctJ j A B))::r')++up.cr=_;rw [z1g,z0g,<-hcells];simp only [yM]
  .show(l'++(ka,(ia,ctJ j A B))::r').length+1=_;rw [hlen,y6,y8];omega
  .rw [hcnt];unfold z2s;have hsub:Ct.subs (j+1) (show Ct (j+1)from(l'++(ka,(ia,ctJ j A B))::r':List (Kid j)))=z0B l'++((ia,Ct.page j (ctJ j A B))::Ct.subs j (ctJ j A B)++z0B r'):=by
    show z0B (l'++(ka,(ia,ctJ j A B))::r')=_;rw [z0w,z04]
   rw [hsub];simp only [y6,y8];omega
 .rw [yA hj];rw [r4]at hj;have hbig:2048<szP (Ct.page j (ctJ j A B)):=by omega
  have h26:szP (Ct.page j (ctJ j A B))<=2600:=by
   have h1:=bA.sz;have h2:=bB.sz;have h3:=v1.big.sz;rw [z2Q]at h3 ⊢;have h4:z07 (zJV (Ct.page j A) (Ct.page j B)).2.2=z07 (Ct.page j A).2.2+z07 (Ct.page j B).2.2:=z0W _ _;omega
  obtain⟨m,hm⟩:∃m,z0c (Ct.page j (ctJ j A B)).2.2=m:=⟨_,rfl⟩;obtain⟨sk,H⟩:=z6H hQ v6 v1.big v1.one v1.fl hbig h26;rw [hm]at H;obtain⟨t1,t2,t3⟩:=v1.two hQ v5 H hb.2 ha.2;have hnat:(lvB s).toNat=ib:=by rw [r2];simp
  have eR:zBk (Ct.page j (ctJ j A B))=Ct.page j (ctR j (ctJ j A B) m):=by rw [z3Y,<-hm];rfl
  have ePar:zDd (P.pgD c) s (Ct.page j t)=Ct.page (j+1) (z4z l' ka ia (ctJ j A B) r' ib m sk):=by
   unfold zDd;rw [r4,r3,hnat,hspg,v2,eR,<-H.key ib,t1]
  have hpages:P.pages.length=z2s (Cx.step id l k r up) h t:=u.toUpI.pages;by_cases hstay:z78 P (P.pgD c) s (Ct.page j t)
  .
   rw [yB hstay];obtain⟨y1,y2,y3⟩:=hstay;rw [hdep,hpages]at y2;have hQ12:Q.a=1/\Q.m=2:=by
    rcases hreg with h1|h1
    .exact h1
    .omega
   have hnt:z7p Q j<=Ct.n j t:=by
    have hnp:=Ct.n_page j t;cases j with
    |zero=>
     simp only [z7p,hQ12.1];rcases Y3 (Ct.n 0 t)with h0|h0
     .exfalso;have het:(Ct.page 0 t).2.2= []:=yX (by rw [hnp];exact h0);have hnext:∀x:Pag,KOk Q.K x->(z0C (x.2.1:Int).toNat).length=1:=fun x hx=>z5o (by have:=hx.1;omega)
      have key:∀X Y:Pag,KOk Q.K Y->szP Y<=2048->KOk Q.K X->z07 X.2.2=z07 Y.2.2->X.2.2.length=Y.2.2.length->szP X<=2048:=fun X Y hY hs hX hc hl=>by
       unfold szP z2v at hs ⊢;rw [hnext X hX,hc,hl];rw [hnext Y hY]at hs;omega
      have kJ:=v1.big.key;rcases p.or_ with⟨e1,e2,e3,e4,e5,e6⟩|⟨e1,e2,e3,e4,e5⟩
      .have hb':=hsib (ib,Ct.page 0 B) (.inr (by rw [e6,z04];simp));have:=key _ _ hb'.2.2.2.1 hb'.2.2.1.parts.2.2 kJ (by rw [z2Q];show z07 ((Ct.page 0 A).2.2++(Ct.page 0 B).2.2)=_;rw [e5,het];rfl) (by rw [z2Q];show((Ct.page 0 A).2.2++(Ct.page 0 B).2.2).length=_;rw [e5,het];rfl);omega
      .have ha':=hsib (ia,Ct.page 0 A) (.inl (by rw [e1,z0w,z04];simp));have:=key _ _ ha'.2.2.2.1 ha'.2.2.1.parts.2.2 kJ (by rw [z2Q];show z07 ((Ct.page 0 A).2.2++(Ct.page 0 B).2.2)=_;rw [e4,het,yf]) (by rw [z2Q];show((Ct.page 0 A).2.2++(Ct.page 0 B).2.2).length=_;rw [e4,het,yf]);omega
     .exact h0
    |succ j=>
     simp only [z7p,hQ12.2];rcases y3 with y3|y3
     .cases y3
     .rw [hnp]at y3;omega
   have hfl:FlT Q j t:=by rw [z1S];exact⟨hnt,u.fl⟩
   obtain⟨o1,o2⟩:=u.toUpK.out (by omega) hfl hh.2;have okt:=u.big.ok (by omega:szP (Ct.page j t)<=2048);have hsub:Ct.subs (j+1) (show Ct (j+1)from(l++(k,(h,t))::r:List (Kid j)))=z0B l++((h,Ct.page j t)::Ct.subs j t++z0B r):=by
    show z0B (l++(k,(h,t))::r)=_;rw [z0w,z04]
   have rep2:RepP (P.wp (h:Int) (Ct.page j t)) c (up.pgs id++(id,z08 l k h r)::Ct.subs (j+1) (show Ct (j+1)from(l++(k,(h,t))::r:List (Kid j)))):=by
    have q1:RepP P c ((h,st)::((Cx.step id l k r up).pgs h++Ct.subs j t)):=u.rep.perm Qh;refine(q1.wp okt).perm ?_;rw [hsub,z0R];refine z0a fun a=> ?_
    simp only [YY,YV,QD];omega
   have uI:UpI Q (P.wp (h:Int) (Ct.page j t)) c up id (show Ct (j+1)from(l++(k,(h,t))::r:List (Kid j))) (z08 l k h r):=⟨o1,rep2⟩;have hposJ:∀q∈Ct.subs (j+1) (show Ct (j+1)from(l++(k,(h,t))::r:List (Kid j))),0<q.1:=by
    intro q hq;rw [hsub]at hq;simp only [yF,y9]at hq;rcases hq with hq|(rfl|hq)|hq
    .exact(hsib q (.inl hq)).1
    .exact hh.1
    .exact hpos q (.inr (by simp [hq]))
    .exact(hsib q (.inr hq)).1
   refine⟨_,by rw [hspg];exact o2.symm,⟨uI,?_,by rw [o2];have:=hst.1.parts.2.2;simp only at this;omega⟩,?_,.inr (.inl ⟨by rw [hspg];exact hst.1.parts.2.2,?_,?_⟩)⟩
   .cases l with
    |nil=>exact uI.left' hQ rfl rfl hposJ
    |cons a l=>obtain⟨ak,ai,at'⟩:=a;exact uI.left' hQ rfl rfl hposJ
   .show up.cl++z0d (l++(k,(h,t))::r)++up.cr=_;rw [z1g,z0g,Cx.cl,Cx.cr];simp only [yM]
   .show(l++(k,(h,t))::r).length=_;rw [y6,y8];omega
   .unfold z2s;rw [hsub,z0R];simp only [y6,y8,yW];omega
  .
   rw [yA hstay];have eL:z4b (zB0 (Ct.page j (ctJ j A B))) (Ct.page j t).1 ib=Ct.page j (ctL j (ctJ j A B) m ib):=by
    have:(Ct.page j t).1=(Ct.page j (ctJ j A B)).1:=by cases j<;>rfl
    rw [this,z59,<-hm];rfl
   rw [r4,r1,hnat,r2,eR,eL,ePar];have rep2:RepP ((P.wp (ia:Int) (Ct.page j (ctL j (ctJ j A B) m ib))).wp (ib:Int) (Ct.page j (ctR j (ctJ j A B) m))) c (up.pgs id++(id,z08 l k h r)::Ct.subs (j+1) (z4z l' ka ia (ctJ j A B) r' ib m sk)):=by
    have q1:=rep1.wp (H.okL ib (by omega));have q2:=(q1.perm (List.Perm.swap _ _ _)).wp H.okR;refine q2.perm ?_;rw [z2o,<-z3Z j (ctJ j A B) m ib];refine z0a fun a=> ?_
    simp only [YY,YV];omega
   have uI:UpI Q ((P.wp (ia:Int) (Ct.page j (ctL j (ctJ j A B) m ib))).wp (ib:Int) (Ct.page j (ctR j (ctJ j A B) m))) c up id (z4z l' ka ia (ctJ j A B) r' ib m sk) (z08 l k h r):=⟨t2,rep2⟩;have hposJ:∀q∈Ct.subs (j+1) (z4z l' ka ia (ctJ j A B) r' ib m sk),0<q.1:=by
    intro q hq;rw [z2o]at hq;have hss:∀q,q∈Ct.subs j (ctL j (ctJ j A B) m ib)∨q∈Ct.subs j (ctR j (ctJ j A B) m)->q∈Ct.subs j (ctJ j A B):=fun q hq=>by rw [<-z3Z j (ctJ j A B) m ib];simpa using hq
    simp only [yF,y9]at hq;rcases hq with hq|(rfl|hq)|(rfl|hq)|hq
    .exact hidp q (.inl hq)
    .exact ha.1
    .exact hidp q (.inr (.inr (hss q (.inl hq))))
    .exact hb.1
    .exact hidp q (.inr (.inr (hss q (.inr hq))))
    .exact hidp q (.inr (.inl hq))
   have hn2:Ct.n (j+1) (z4z l' ka ia (ctJ j A B) r' ib m sk)=l.length+1+r.length:=by rw [zGR,hlen];omega
   have hc2:z2s up id (z4z l' ka ia (ctJ j A B) r' ib m sk)=z2s (Cx.step id l k r up) h t:=by
    rw [hcnt];unfold z2s;rw [z2o,<-z3Z j (ctJ j A B) m ib];simp only [y6,y8];omega
   refine⟨_,rfl,⟨uI,?_,t3⟩,?_,?_⟩
   .cases l' with
    |nil=>exact uI.left' hQ rfl hfst hposJ
    |cons a l'=>obtain⟨ak,ai,at'⟩:=a;exact uI.left' hQ rfl hfst hposJ
   .rw [z8k,<-hcells]
   .by_cases hz:szP (Ct.page (j+1) (z4z l' ka ia (ctJ j A B) r' ib m sk))<=2048
    .exact .inr (.inl ⟨hz,hn2,hc2⟩)
    .refine .inr (.inr ⟨by simp only;omega,hn2,hc2,?_⟩);by_cases hfew:z2s (Cx.step id l k r up) h t+D+3<=90
     .exact .inl hfew
     .right;have:¬ ((Ct.page j t).1=true∨1<(Ct.page j t).2.2.length):=fun h3=>hstay ⟨by rw [ePar];omega,by rw [hpages,hdep];omega,h3⟩
      rw [Ct.n_page]at this;refine⟨?_,by omega⟩;cases j with
      |zero=>exact absurd (.inl rfl) this
      |succ j=>omega
end
end
end Go.Proofs.YthnlcbamjehpdaaGreatDoor
