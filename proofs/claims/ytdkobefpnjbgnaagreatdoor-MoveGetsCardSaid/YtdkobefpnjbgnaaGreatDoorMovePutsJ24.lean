/- Part 24. -/
import Derived.Test.YtdkobefpnjbgnaaGreatDoorMovePutsJ10
import Derived.Test.YtdkobefpnjbgnaaGreatDoorMovePutsJ23
namespace Go.Proofs.YtdkobefpnjbgnaaGreatDoor
set_option linter.unusedVariables false
set_option maxHeartbeats 16000000
set_option maxRecDepth 100000
section
open Go
theorem WfL.bounds{j:Nat}{l r:List (Kid j)}{lo':Key}{hi':Option Key}{k:Key}(h1:z1A l (some k)=some lo')(h2:WfL (Wf j) l (some k)):¬Lt k lo':=by
 cases l with
 |nil=>injection h1 with h1;subst h1;exact fun h=>h.irrefl
 |cons a l=>
  obtain⟨_,a2,a3⟩:=WfL.all (Wf.all j) (a::l) _ h2;obtain rfl:a.1=lo':=by injection h1
  exact(((a3 a.1 rfl).2 (a.1,z0A a.2.1) (by simp [z0J])).2 k rfl).not
theorem Cx.WfC.up{j D:Nat}{id:Nat}{l r:List (Kid j)}{k:Key}{up:Cx (j+1) D}{lo:Key}{hi:Option Key}(w:(Cx.step id l k r up).WfC lo hi):
 ∃lo' hi',up.WfC lo' hi'∧∀x,inB lo hi x→inB lo' hi' x:=by
 obtain⟨rfl,lo',hi',h1,rfl,h3,h4,h5,h6⟩:=w;refine⟨lo',hi',h1,fun x hx=>⟨z6E (WfL.bounds (r:=r) (hi':=hi') h3 h4) hx.1,fun y hy=> ?_⟩⟩;cases r with
 |nil=>exact hx.2 y hy
 |cons a r=>
  obtain⟨_,b2,b3⟩:=WfL.all (Wf.all j) (a::r) _ h6;exact(hx.2 a.1 rfl).trans (((b3 a.1 rfl).2 (a.1,z0A a.2.1) (by simp [z0J])).2 y hy)
theorem Cx.WfC.sides:∀ {j D:Nat} (cx:Cx j D) {lo:Key} {hi:Option Key} {key:Key},cx.WfC lo hi→inB lo hi key→(∀x∈cx.cl,Lt x.1 lo)∧∀x∈cx.cr,Lt key x.1
 |_,_,.top,lo,hi,key,w,hk=>⟨fun x hx=>(by cases hx),fun x hx=>(by cases hx)⟩
 |_,_,.step (j:=j) id l k r up,lo,hi,key,w,hk=>by
  obtain⟨lo',hi',h1,h2⟩:=w.up;obtain⟨s1,s2⟩:=Cx.WfC.sides up h1 (h2 key hk);obtain⟨rfl,lo'',hi'',g1,rfl,g3,g4,g5,g6⟩:=w;have hll:¬Lt lo lo'':=WfL.bounds (r:=r) (hi':=hi'') g3 g4;obtain⟨a1,_,a3⟩:=WfL.all (Wf.all j) l _ g4;obtain⟨b1,_,b3⟩:=WfL.all (Wf.all j) r _ g6;have hl:∀x∈z0w l,Lt x.1 lo:=by
   intro x hx;cases l with
   |nil=>simp [z0w]at hx
   |cons a l=>exact((a3 a.1 rfl).1 x hx).2 lo rfl
  refine⟨fun x hx=> ?_,fun x hx=> ?_⟩
  ·rcases List.mem_append.1 hx with hx|hx
   ·have hin:inB lo'' hi'' lo:=by
     refine⟨hll,fun y hy=> ?_⟩;cases r with
     |nil=>exact g5 y hy
     |cons a r=>exact(g5 a.1 rfl).trans (((WfL.all (Wf.all j) (a::r) _ g6).2.2 a.1 rfl).2 (a.1,z0A a.2.1) (by simp [z0J]) |>.2 y hy)
    obtain⟨t1,_⟩:=Cx.WfC.sides up g1 hin;exact z0z (t1 x hx) hll
   ·exact hl x hx
  ·rcases List.mem_append.1 hx with hx|hx
   ·cases r with
    |nil=>simp [z0w]at hx
    |cons a r=>exact z0z (hk.2 a.1 rfl) ((b3 a.1 rfl).1 x hx).1
   ·exact s2 x hx
structure At(Q:Prm)(T:(D:Nat)×Ct D)(key:Key){j D:Nat}(cx:Cx j D)(h:Nat)(t:Ct j):Prop where
 whole:T=⟨D,cx.plug h t⟩
 root:cx.root h
 wf:∃lo hi,cx.WfC lo hi∧Wf j lo hi t∧inB lo hi key
 cfl:cx.FlC Q
 fl:FlIn Q j t
 need:cx.need Q≤Ct.n j t
theorem z8x{j:Nat}{ks:List (Kid j)}{i:Nat}(h:i<ks.length):(z0J ks)[i]? =some (ks[i].1,z0A ks[i].2.1):=by
 unfold z0J;rw [List.getElem?_map,List.getElem?_eq_getElem h];rfl
theorem zHV{j:Nat}{ks:List (Kid j)}{lo:Key}{hi:Option Key}{key:Key}(h1:z1A ks none=some lo)(h2:WfL (Wf j) ks hi)(hk:inB lo hi key):
 ∃l k r,ks=l++k::r∧z21 (z0J ks) key=l.length∧inB k.1 (z1A r hi) key:=by
 obtain⟨_,a2,a3⟩:=WfL.all (Wf.all j) ks hi h2;have hne:ks≠ []:=by rintro rfl;cases h1
 have hlen:=z4Y ks;have hge:∀i,(hi:i<ks.length)→z0B (z0J ks) key≤i→¬Lt ks[i].1 key:=by
  intro i hi hf;have hm:(ks[i].1,z0A ks[i].2.1)∈(z0J ks).drop (z0B (z0J ks) key):=by
   rw [List.mem_drop_iff_getElem];refine⟨i-z0B (z0J ks) key,by rw [hlen];omega,?_⟩;simp only [z0J,List.getElem_map];have:z0B (List.map (fun k=>(k.1,z0A k.2.1)) ks) key+(i-z0B (List.map (fun k=>(k.1,z0A k.2.1)) ks) key)=i:=by
    have:z0B (z0J ks) key=z0B (List.map (fun k=>(k.1,z0A k.2.1)) ks) key:=rfl;omega
   simp only [this]
  exact zBZ a2 hm
 have hltt:∀i,(hi:i<ks.length)→i<z0B (z0J ks) key→Lt ks[i].1 key:=by
  intro i hi hf;have hm:(ks[i].1,z0A ks[i].2.1)∈(z0J ks).take (z0B (z0J ks) key):=by
   rw [List.mem_take_iff_getElem];refine⟨i,by rw [hlen];omega,?_⟩;simp only [z0J,List.getElem_map]
  exact z72 hm
 have hf0:z0B (z0J ks) key≤ks.length:=by rw [←hlen];exact z1o _ _
 have hk0:∀h0:0<ks.length,ks[0].1=lo:=by
  intro h0;cases ks with
  |nil=>simp at h0
  |cons a ks=>injection h1
 have hpos:0<ks.length:=List.length_pos_iff.2 hne;have cut:∀i,(hi:i<ks.length)→ks=ks.take i++ks[i]::ks.drop (i+1):=fun i hi=>by
  rw [←List.drop_eq_getElem_cons hi,List.take_append_drop]
 have hnx:∀i,z1A (ks.drop i) hi=if h:i<ks.length then some ks[i].1 else hi:=by
  intro i;by_cases h:i<ks.length
  ·rw [dif_pos h,List.drop_eq_getElem_cons h];rfl
  ·rw [dif_neg h,List.drop_eq_nil_of_le (by omega)];rfl
 unfold z21;cases hh:isK (z0J ks) key with
 |true=>
  have hi0:=z9p hh;rw [hlen]at hi0;obtain⟨v,hv⟩:=zDz hh;have he:ks[z0B (z0J ks) key].1=key:=by
   rw [z8x hi0]at hv;injection hv with hv
   exact congrArg (·.1) hv
  refine⟨_,_,_,cut _ hi0,by simp;omega,?_⟩;refine⟨by rw [he];exact fun h=>h.irrefl,fun y hy=> ?_⟩;rw [hnx]at hy
  split at hy
  ·rename_i h5;injection hy with hy
   subst hy;have h6:∀ (i i':Nat) (h:i<ks.length) (h':i'<ks.length),i<i'→Lt ks[i].1 ks[i'].1:=fun i i' h h' hii=>by
    have:=List.pairwise_iff_getElem.1 a2 i i' (by rw [hlen];omega) (by rw [hlen];omega) hii;simpa [z0J]using this
   have h7:=h6 _ _ hi0 h5 (by omega);rw [he]at h7;exact h7
  ·exact hk.2 y hy
 |false=>
  simp only [Bool.false_eq_true,if_false];have h0:0<z0B (z0J ks) key:=by
   rcases Nat.eq_zero_or_pos (z0B (z0J ks) key)with h|h
   ·exfalso;have h5:=hge 0 hpos (by omega);rw [hk0 hpos]at h5;have e:lo=key:=by
     rcases z7G (a:=lo) (b:=key)with h6|h6|h6
     ·exact absurd h6 h5
     ·exact h6
     ·exact absurd h6 hk.1
    have h7:(z0J ks)[z0B (z0J ks) key]? =some (ks[0].1,z0A ks[0].2.1):=by
     rw [h];exact z8x hpos
    have:=zFb hh h7;exact this (by rw [hk0 hpos];exact e)
   ·exact h
  refine⟨_,_,_,cut (z0B (z0J ks) key-1) (by omega),by simp;omega,?_⟩;refine⟨(hltt _ (by omega) (by omega)).not,fun y hy=> ?_⟩;rw [show z0B (z0J ks) key-1+1=z0B (z0J ks) key by omega,hnx]at hy
  split at hy
  ·rename_i h5;injection hy with hy
   subst hy;have h6:=hge _ h5 (Nat.le_refl _);have h7:=z8x h5;have h8:=zFb hh h7;rcases z7G (a:=key) (b:=ks[z0B (z0J ks) key].1)with h9|h9|h9
   ·exact h9
   ·exact absurd h9.symm h8
   ·exact absurd h9 h6
  ·exact hk.2 y hy
theorem zBI{i:Nat}(h0:0<i)(h1:i<90):z11 (z0A i)=(i:Int):=by
 have:=z2S (x:=i) (by unfold U64;omega) [];rw [List.append_nil]at this;unfold z11;rw [this];simp only;rw [if_neg (by omega)]
theorem At.down{Q:Prm}{T:(D:Nat)×Ct D}{key:Key}{j D:Nat}{cx:Cx (j+1) D}{h:Nat}{t:Ct (j+1)}(a:At Q T key cx h t)(hz:∀q∈Ct.subs (j+1) t,0<q.1):
 ∃ (l:List (Kid j)) (k:Key) (h':Nat) (t':Ct j) (r:List (Kid j)),t=(l++(k,(h',t'))::r:List (Kid j))∧z21 (z0J (j:=j) t) key=l.length∧At Q T key (Cx.step h l k r cx) h' t':=by
 obtain⟨lo,hi,w1,w2,w3⟩:=a.wf;obtain⟨w4,w5⟩:=w2;obtain⟨l,⟨k,h',t'⟩,r,e,e2,e3⟩:=zHV w4 w5 w3;have hfl:FlL Q (l++(k,(h',t'))::r):=by
  have:=a.fl;rw [e]at this;exact this
 rw [zB0,z1F]at hfl;have hn:=a.need;refine⟨l,k,h',t',r,e,e2,?_,⟨hz (h',Ct.page j t') ?_,a.root⟩,?_,⟨hfl.1,hfl.2.2,?_,a.cfl⟩,?_,?_⟩
 ·rw [a.whole,e];rfl
 ·rw [e];show _∈z0h (l++(k,(h',t'))::r);rw [z3V,z0X];simp
 ·rw [e]at w5;rw [z59]at w5;refine⟨k,z1A r hi,⟨rfl,lo,hi,w1,rfl,?_,w5.1,w5.2.2.1,w5.2.2.2⟩,w5.2.1,e3⟩;rw [e,z4u]at w4;exact w4
 ·rw [e]at hn;have:Ct.n (j+1) (l++(k,(h',t'))::r:List (Kid j))=l.length+1+r.length:=by
   show(l++(k,(h',t'))::r).length=_;rw [List.length_append,List.length_cons];omega
  omega
 ·exact((z3G Q j t').1 hfl.2.1).2
 ·exact((z3G Q j t').1 hfl.2.1).1
theorem zID{Q:Prm}{T:(D:Nat)×Ct D}{key:Key}{pf:Int→Pag}:∀ {j D:Nat} {cx:Cx j D} {h:Nat} {t:Ct j},At Q T key cx h t→(∀q∈(h,Ct.page j t)::Ct.subs j t,pf (q.1:Int)=q.2)→(∀q∈Ct.subs j t,0<q.1∧q.1<90)→(0<j→0<Ct.n j t)→
 ∃w n cs h',∃cx':Cx 0 D,z4T pf key (j+1) (h:Int)=some w∧w.length=j+1∧w.reverse++cx.steps h=⟨(h':Int),0,(true,n,cs)⟩::cx'.steps h'∧At Q T key cx' h' (show Ct 0 from(n,cs))
 |0,D,cx,h,t,a,hp,hz,_=>by
  have e:pf (h:Int)=(true,t.1,t.2):=hp (h,Ct.page 0 t) (by simp);refine⟨[⟨(h:Int),0,(true,t.1,t.2)⟩],t.1,t.2,h,cx,?_,rfl,rfl,a⟩;rw [z4T,e,if_pos (.inl rfl)]
 |j+1,D,cx,h,t,a,hp,hz,hn=>by
  obtain⟨l,k,h',t',r,e,e2,a'⟩:=a.down fun q hq=>(hz q hq).1
  have e3:pf (h:Int)=(false,0,z0J (j:=j) t):=hp (h,Ct.page (j+1) t) (by simp);have hsub:Ct.subs (j+1) t=z0h l++((h',Ct.page j t')::Ct.subs j t'++z0h r):=by
   rw [e];show z0h (l++(k,(h',t'))::r)=_;rw [z3V,z0X]
  have hz':∀q∈(h',Ct.page j t')::Ct.subs j t',0<q.1∧q.1<90:=fun q hq=>hz q (by rw [hsub];simp only [List.mem_append];exact .inr (.inl hq))
  have hfl:=(z3G Q j t').2 ⟨a'.need,a'.fl⟩;have hlt:z0J (j:=j) t=z0J l++(k,z0A h')::z0J r:=by rw [e,z6B,z29]
  have hne:¬ (z0J (j:=j) t= []):=by rw [hlt];simp
  have hc:z11 (cellAt (z0J (j:=j) t) (z21 (z0J (j:=j) t) key)).2=(h':Int):=by
   rw [e2,hlt];unfold cellAt;rw [List.getElem?_append_right (by rw [z4Y];omega),z4Y,Nat.sub_self];exact zBI (hz' (h',Ct.page j t') (by simp)).1 (hz' (h',Ct.page j t') (by simp)).2
  by_cases hn0:0<j∧¬0<Ct.n j t'
  ·exfalso;obtain⟨j',rfl⟩:∃j',j=j'+1:=⟨j-1,by omega⟩;obtain⟨lo,hi,_,w2,_⟩:=a'.wf;cases t' with
   |nil=>cases w2.1
   |cons x y=>exact hn0.2 (by simp [Ct.n])
  ·obtain⟨w,n,cs,h'',cx',i1,i2,i3,i4⟩:=zID a' (fun q hq=>hp q (List.mem_cons_of_mem _ (by rw [hsub];simp only [List.mem_append];exact .inr (.inl hq)))) (fun q hq=>hz' q (by simp [hq])) (fun h0=>by
    rcases Nat.eq_zero_or_pos (Ct.n j t')with h1|h1
    ·exact absurd ⟨h0,by omega⟩ hn0
    ·exact h1)
   refine⟨⟨(h:Int),l.length,z18 l k h' r⟩::w,n,cs,h'',cx',?_,by rw [List.length_cons,i2],?_,i4⟩
   ·rw [z4T,e3];simp only [Bool.false_eq_true,false_or];rw [if_neg hne,hc,i1,e2];simp only [Option.map_some];rw [hlt];rfl
   ·rw [List.reverse_cons,List.append_assoc];exact i3
section
variable {Q:Prm} {P:Pgr} {c:Int→List UInt8} {D:Nat} {t:Ct D}
theorem Tree.zero(T:Tree Q P c D t):∀q∈Ct.subs D t,0<q.1∧q.1<90:=by
 intro q hq;have h1:=T.rep.rep.nodup;unfold zCo at h1;rw [List.map_cons,List.nodup_cons]at h1;refine⟨?_,T.rep.rep.lt q (by unfold zCo;simp [hq])⟩;rcases Nat.eq_zero_or_pos q.1 with h|h
 ·exact absurd (List.mem_map.2 ⟨q,hq,h⟩) h1.1
 ·exact h
theorem Tree.at0(T:Tree Q P c D t)(key:Key):At Q ⟨D,t⟩ key (Cx.top (D:=D)) 0 t:=
 ⟨rfl,rfl,⟨[],none,⟨rfl,rfl⟩,T.wf,⟨fun h=>by cases key<;>simp [Lt,z15]at h,fun y hy=>by cases hy⟩⟩,trivial,T.fl,T.root⟩
theorem Tree.way(T:Tree Q P c D t)(key:Key):∃w n cs h,∃cx:Cx 0 D,z4T (P.pgD c) key (D+1) 0=some w∧w.length=D+1∧w.reverse=⟨(h:Int),0,(true,n,cs)⟩::cx.steps h∧At Q ⟨D,t⟩ key cx h (show Ct 0 from(n,cs)):=by
 obtain⟨w,n,cs,h,cx,h1,h2,h3,h4⟩:=zID (pf:=P.pgD c) (T.at0 key) (fun q hq=>T.rep.pgD (p:=q.2) hq) T.zero (fun h0=>by
  have:=T.root;obtain⟨D',rfl⟩:∃D',D=D'+1:=⟨D-1,by omega⟩;simp only [zD0]at this;omega)
 refine⟨w,n,cs,h,cx,h1,h2,?_,h4⟩;simpa [Cx.steps]using h3
theorem At.upi{key:Key}{cx:Cx 0 D}{h n:Nat}{cs:List Cel}(T:Tree Q P c D t)(a:At Q ⟨D,t⟩ key cx h (show Ct 0 from(n,cs))){cs':List Cel}(hb:Big Q.K (true,n,cs'))(hin:∀lo hi,inB lo hi key→(∀x∈cs,inB lo hi x.1)→∀x∈cs',inB lo hi x.1):
 UpI Q P c cx h (show Ct 0 from(n,cs')) (true,n,cs):=by
 have hw:t=cx.plug h (show Ct 0 from(n,cs)):=by
  have:=a.whole;exact eq_of_heq (Sigma.mk.inj this).2
 have hp:=z3u cx h (show Ct 0 from(n,cs)) a.root;rw [←hw]at hp;obtain⟨lo,hi,w1,w2,w3⟩:=a.wf;have hc:=(cx.FlC_iff Q).1 a.cfl;refine⟨⟨⟨a.root,⟨lo,hi,w1,hb.asc,hin lo hi w3 w2.2⟩,fun q hq=>T.ok q (hp.mem_iff.2 ?_),hb,?_,hc.1,trivial,fun q hq=>T.rep.rep.lt q (hp.mem_iff.2 ?_)⟩,hc.2⟩,T.rep.perm hp⟩
 ·rw [zA3,List.append_nil]at hq;simp [hq]
 ·have:=T.ch;rw [hw,z5r cx h _ a.root]at this;exact this
 ·rw [zA3,List.append_nil]at hq;simp [hq]
theorem At.cells{key:Key}{cx:Cx 0 D}{h n:Nat}{cs:List Cel}(a:At Q ⟨D,t⟩ key cx h (show Ct 0 from(n,cs))):
 Ct.cells D t=cx.cl++cs++cx.cr∧(∀x∈cx.cl,Lt x.1 key)∧∀x∈cx.cr,Lt key x.1:=by
 have hw:t=cx.plug h (show Ct 0 from(n,cs)):=by
  have:=a.whole;exact eq_of_heq (Sigma.mk.inj this).2
 obtain⟨lo,hi,w1,w2,w3⟩:=a.wf;obtain⟨s1,s2⟩:=Cx.WfC.sides cx w1 w3;refine⟨by rw [hw,z3t];rfl,fun x hx=>z0z (s1 x hx) w3.1,s2⟩
theorem At.sum{key:Key}{cx:Cx 0 D}{h n:Nat}{cs:List Cel}(a:At Q ⟨D,t⟩ key cx h (show Ct 0 from(n,cs)))(wt:Nat→Nat→Nat):wS wt D t=cx.wS wt+wt 0 cs.length:=by
 have hw:t=cx.plug h (show Ct 0 from(n,cs)):=by
  have:=a.whole;exact eq_of_heq (Sigma.mk.inj this).2
 rw [hw,z3f];rfl
theorem z4V{A B C:List Cel}{k:Key}(hA:∀x∈A,Lt x.1 k)(hC:∀x∈C,Lt k x.1):z0B (A++B++C) k=A.length+z0B B k:=by
 unfold z0B;have h1:∀L:List Cel,((A++L).takeWhile fun c=>Op.bytesLess c.1 k).length=A.length+(L.takeWhile fun c=>Op.bytesLess c.1 k).length:=fun L=>by
  induction A with
  |nil=>simp
  |cons a A ih=>
   rw [List.cons_append,List.takeWhile_cons,if_pos (z0L.2 (hA a (by simp))),List.length_cons,List.length_cons,ih fun x hx=>hA x (by simp [hx])];omega
 rw [List.append_assoc,h1]
 congr 1
 induction B with
 |nil=>
  rw [List.nil_append];cases C with
  |nil=>rfl
  |cons x C=>
   rw [List.takeWhile_cons,if_neg]
   ·rfl
   ·rw [z0L];exact(hC x (by simp)).not
 |cons b B ih=>
  rw [List.cons_append,List.takeWhile_cons,List.takeWhile_cons]
  split
  ·rw [List.length_cons,List.length_cons,ih]
  ·rfl
theorem zEw{A B C:List Cel}{k:Key}(hA:∀x∈A,Lt x.1 k)(hC:∀x∈C,Lt k x.1):isK (A++B++C) k=isK B k:=by
 unfold isK;rw [z4V hA hC,List.append_assoc,List.getElem?_append_right (by omega),Nat.add_sub_cancel_left];rcases Nat.lt_or_ge (z0B B k) B.length with h|h
 ·rw [List.getElem?_append_left h]
 ·rw [List.getElem?_append_right h,List.getElem?_eq_none h];have:=z1o B k;rw [show z0B B k-B.length=0 by omega];cases C with
  |nil=>rfl
  |cons x C=>
   simp only [List.getElem?_cons_zero];exact beq_eq_false_iff_ne.2 fun e=>(hC x (by simp)).ne e.symm
theorem zD3{A B C:List Cel}{k:Key}(hA:∀x∈A,Lt x.1 k)(hC:∀x∈C,Lt k x.1):z63 (A++B++C) k=z63 B k:=by unfold z63;rw [zEw hA hC]
theorem zDC{A B C:List Cel}{x:Cel}(hA:∀y∈A,Lt y.1 x.1)(hC:∀y∈C,Lt x.1 y.1):putC (A++B++C) x=A++putC B x++C:=by
 unfold putC;rw [z4V hA hC,zD3 hA hC];have h1:=z1o B x.1;have h2:=zBG B x.1;rw [List.append_assoc,List.take_append,List.take_of_length_le (by omega),Nat.add_sub_cancel_left,List.take_append_of_le_length h1];rw [show A.length+z0B B x.1+z63 B x.1=A.length+(z0B B x.1+z63 B x.1) by omega,List.drop_append,List.drop_eq_nil_of_le (by omega),Nat.add_sub_cancel_left,List.drop_append_of_le_length h2];simp
theorem zEy(cs:List Cel)(x:Cel):cs.length≤(putC cs x).length:=by
 have:=z3n cs x;unfold z63 at this
 split at this<;>omega
theorem zF4(hQ:Q.Ok)(T:Tree Q P c D t){x:Cel}(hk:x.1.length≤Q.K)(hx:x.1.length+x.2.length≤480)(hf:1+(Ct.subs D t).length+D+3≤90):
 ∃w,z4T (P.pgD c) x.1 (D+1) 0=some w∧w.length=D+1∧(putT P w x).2=0∧Kin P (putT P w x).1∧
  ∃D' t',UpR Q (putT P w x).1 c D (putC (Ct.cells D t) x) (wS z8Q D t) (wS wHi D t) (wS z3i D t) 2 (1+(Ct.subs D t).length+D+2) (Ct.n D t) D' t':=by
 obtain⟨w,n,cs,h,cx,h1,h2,h3,a⟩:=T.way x.1;have hpg:P.pages.length=1+(Ct.subs D t).length:=by rw [T.rep.len];unfold zCo;rw [List.length_cons];omega
 have e:putT P w x=(upP P (cx.steps h) (h:Int) (z0t (true,n,cs) x),0):=by
  unfold putT;rw [if_neg (by have:=hQ.K;omega),h3];simp only;rw [if_neg (by omega),if_neg (by omega)]
 have hleaf:POk (true,n,cs)∧KOk Q.K (true,n,cs):=by
  have hw:t=cx.plug h (show Ct 0 from(n,cs)):=eq_of_heq (Sigma.mk.inj a.whole).2;have hp:=z3u cx h (show Ct 0 from(n,cs)) a.root;rw [←hw]at hp;exact T.ok (h,(true,n,cs)) (hp.mem_iff.2 (List.mem_append_right _ (by exact List.mem_cons_self)))
 have hb0:=hleaf.1.big hleaf.2;have hz0:=hleaf.1.parts.2.2;have hb:=hb0.put (by omega) hx hk;have hz:szP (z0t (true,n,cs) x)≤2600:=by
  have h1:=hb.sz;have h2:=hb0.sz;have h3:=z6a cs x;have h4:=z2e hx;have h5:(z0t (true,n,cs) x).2.2=putC cs x:=rfl;have h6:((true,n,cs):Pag).2.2=cs:=rfl;rw [h5]at h1;rw [h6]at h2;omega
 have u:=a.upi T (cs':=putC cs x) hb fun lo hi h4 h5 y hy=>by
  rcases z82 hy with rfl|hy
  ·exact h4
  ·exact h5 y hy
 have hneed:cx.need Q≤Ct.n 0 (show Ct 0 from(n,putC cs x)):=Nat.le_trans a.need (zEy cs x);have hcnt:zAE cx h (show Ct 0 from(n,putC cs x))+cx.dep+2≤90:=by
  rw [←u.pages,hpg];have:=cx.depth;omega
 obtain⟨D',t',R,R2⟩:=up_ok hQ cx h _ _ P u hneed hz hcnt;obtain⟨c1,c2,c3⟩:=a.cells;refine⟨w,h1,h2,by rw [e],by rw [e];exact Kin.up _ _ _ _,D',t',?_⟩;rw [e];have e2:putC (Ct.cells D t) x=cx.cl++putC cs x++cx.cr:=by rw [c1,zDC c2 c3]
 rw [e2,a.sum,a.sum,a.sum];have g0:∀n,z3i 0 n=0:=fun n=>rfl
 have hrn:1≤D→cx.rn (Ct.n 0 (show Ct 0 from(n,putC cs x)))=Ct.n D t:=fun h0=>by
  rw [eq_of_heq (Sigma.mk.inj a.whole).2,z6l];cases cx with
  |top=>omega
  |step=>rfl
 refine⟨R.tree,R.cells,R.d0,R.d1,R.low,fun hK=> ?_,R.d3,?_,fun h0=> ?_,fun h0=>⟨(R.rt1 h0).1,fun hK h1=> ?_⟩⟩
 rotate_left 2
 ·rcases Nat.eq_zero_or_pos D with h4|h4
  ·have h5:=cx.depth;have h6:=(R2 (by omega)).1 h0;have h7:=z3n cs x;have h8:Ct.n D t=cx.rn (Ct.n 0 (show Ct 0 from(n,cs))):=by rw [eq_of_heq (Sigma.mk.inj a.whole).2,z6l]
   have h9:cx.rn (Ct.n 0 (show Ct 0 from(n,cs)))=cs.length:=by
    cases cx with
    |top=>rfl
    |step id l k r up=>have:=up.depth;omega
   have h10:Ct.n 0 (show Ct 0 from(n,putC cs x))=(putC cs x).length:=rfl;omega
  ·have h5:=R.rt0 h0;rw [hrn h4]at h5;exact h5
 ·have h4:=(R.rt1 h0).2 hK h1;rw [hrn h1]at h4;exact h4
 ·have h4:=R.quo hK;have h5:wS z3i 0 (show Ct 0 from(n,putC cs x))=0:=rfl;have h6:wS wHi 0 (show Ct 0 from(n,putC cs x))=wHi 0 cs.length:=rfl;rw [g0];rw [h5,h6]at h4;exact h4
 ·have h4:=R.cnt;have h5:=cx.depth;rw [←u.pages,hpg]at h4;omega
end
def lvC:(j:Nat)→Nat→Ct j→List (Nat×Pag)
 |0,i,t=> [(i,Ct.page 0 t)]
 |j+1,_,ks=>List.flatMap (fun k:Kid j=>lvC j k.2.1 k.2.2) ks
def zAK{j:Nat}(ks:List (Kid j)):List (Nat×Pag):=List.flatMap (fun k:Kid j=>lvC j k.2.1 k.2.2) ks
def Cx.lcr:{j D:Nat}→Cx j D→List (Nat×Pag)
 |_,_,.top=> []
 |_,_,.step _ _ _ r up=>zAK r++up.lcr
theorem z6K:∀ (j i:Nat) (t:Ct j),(lvC j i t).map (fun q=>(q.1,q.2.2.1))=Ct.lvs j i t∧(lvC j i t).flatMap (fun q=>q.2.2.2)=Ct.cells j t∧(∀q∈lvC j i t,q∈(i,Ct.page j t)::Ct.subs j t)∧∀q∈lvC j i t,q.2.1=true
 |0,i,t=>⟨rfl,by simp [lvC,Ct.page,Ct.cells],fun q hq=>by obtain rfl:=List.mem_singleton.1 hq;simp,fun q hq=>by obtain rfl:=List.mem_singleton.1 hq;rfl⟩
 |j+1,i,ks=>by
  have ih:=fun(k:Kid j)=>z6K j k.2.1 k.2.2
  refine⟨?_,?_,fun q hq=> ?_,fun q hq=> ?_⟩
  ·show List.map _ (List.flatMap (fun k:Kid j=>lvC j k.2.1 k.2.2) ks)=List.flatMap (fun k:Kid j=>Ct.lvs j k.2.1 k.2.2) ks;rw [List.map_flatMap]
   congr 1
   funext k
   exact(ih k).1
  ·show List.flatMap _ (List.flatMap (fun k:Kid j=>lvC j k.2.1 k.2.2) ks)=List.flatMap (fun k:Kid j=>Ct.cells j k.2.2) ks;rw [List.flatMap_assoc]
   congr 1
   funext k
   exact(ih k).2.1
  ·obtain⟨k,hk,hq⟩:=List.mem_flatMap.1 (show q∈List.flatMap (fun k:Kid j=>lvC j k.2.1 k.2.2) ks from hq);exact List.mem_cons_of_mem _ (List.mem_flatMap.2 ⟨k,hk,(ih k).2.2.1 q hq⟩)
  ·obtain⟨k,hk,hq⟩:=List.mem_flatMap.1 (show q∈List.flatMap (fun k:Kid j=>lvC j k.2.1 k.2.2) ks from hq);exact(ih k).2.2.2 q hq
theorem zDi{j:Nat}(ks:List (Kid j)):(zAK ks).map (fun q=>(q.1,q.2.2.1))=z7B ks∧(zAK ks).flatMap (fun q=>q.2.2.2)=z0w ks∧(∀q∈zAK ks,q∈z0h ks)∧∀q∈zAK ks,q.2.1=true:=by
 have h:=z6K (j+1) 0 ks;refine⟨h.1,h.2.1,fun q hq=> ?_,h.2.2.2⟩;obtain⟨k,hk,hq⟩:=List.mem_flatMap.1 (show q∈List.flatMap (fun k:Kid j=>lvC j k.2.1 k.2.2) ks from hq);exact List.mem_flatMap.2 ⟨k,hk,(z6K j k.2.1 k.2.2).2.2.1 q hq⟩
theorem z9q:∀ {j D:Nat} (cx:Cx j D) (h:Nat),cx.lcr.map (fun q=>(q.1,q.2.2.1))=cx.lr∧cx.lcr.flatMap (fun q=>q.2.2.2)=cx.cr∧(∀q∈cx.lcr,q∈cx.pgs h)∧∀q∈cx.lcr,q.2.1=true
 |_,_,.top,h=>⟨rfl,rfl,fun q hq=>(by cases hq),fun q hq=>by cases hq⟩
 |_,_,.step id l k r up,h=>by
  obtain⟨a1,a2,a3,a4⟩:=z9q up id;obtain⟨b1,b2,b3,b4⟩:=zDi r;refine⟨?_,?_,fun q hq=> ?_,fun q hq=> ?_⟩
  ·rw [Cx.lcr,Cx.lr,List.map_append,a1,b1]
  ·rw [Cx.lcr,Cx.cr,List.flatMap_append,a2,b2]
  ·rw [z37];simp only [List.mem_append];rcases List.mem_append.1 hq with hq|hq
   ·exact .inl (.inr (.inr (b3 q hq)))
   ·exact .inr (a3 q hq)
  ·rcases List.mem_append.1 hq with hq|hq
   ·exact b4 q hq
   ·exact a4 q hq
theorem zC3{pf:Int→Pag}:∀ (l:List (Nat×Pag)) (n:Nat) (cs:List Cel) (m:Nat),l.length<m→(∀q∈l,pf (q.1:Int)=q.2∧0<q.1)→z9j (l.map fun q=>(q.1,q.2.2.1)) 0→n=z7E (l.map fun q=>(q.1,q.2.2.1)) 0→
 z0g pf m (true,n,cs)=some (cs++l.flatMap fun q=>q.2.2.2)
 |_,_,_,0,hm,_,_,_=>by omega
 | [],n,cs,m+1,hm,hp,hc,hn=>by
   have:n=0:=hn;rw [z0g,if_pos this];simp
 |(i,x)::l,n,cs,m+1,hm,hp,hc,hn=>by
  have hn:n=i:=hn;subst hn;have h1:=hp (n,x) (by simp);rw [z0g,if_neg (by have:=h1.2;simp only at this ⊢;omega)];have e:pf (((true,n,cs):Pag).2.1:Int)=x:=h1.1;rw [e];obtain⟨b,n',cs'⟩:=x;have ih:=zC3 l n' cs' m (by simp at hm;omega) (fun q hq=>hp q (by simp [hq])) hc.2 hc.1;have e2:z0g pf m (b,n',cs')=z0g pf m (true,n',cs'):=by cases m<;>rfl
  rw [e2,ih];simp
section
variable {Q:Prm} {P:Pgr} {c:Int→List UInt8} {D:Nat} {t:Ct D}
theorem zEY{key:Key}{cx:Cx 0 D}{h n:Nat}{cs:List Cel}(a:At Q ⟨D,t⟩ key cx h (show Ct 0 from(n,cs))):t=cx.plug h (show Ct 0 from(n,cs)):=eq_of_heq (Sigma.mk.inj a.whole).2
theorem At.perm{key:Key}{cx:Cx 0 D}{h n:Nat}{cs:List Cel}(a:At Q ⟨D,t⟩ key cx h (show Ct 0 from(n,cs))):(zCo D t).Perm (cx.pgs h++ [(h,((true,n,cs):Pag))]):=by
 have hp:=z3u cx h (show Ct 0 from(n,cs)) a.root;rw [←zEY a]at hp;exact hp
theorem Tree.chain(T:Tree Q P c D t){key:Key}{cx:Cx 0 D}{h n:Nat}{cs:List Cel}(a:At Q ⟨D,t⟩ key cx h (show Ct 0 from(n,cs))):z0g (P.pgD c) 91 (true,n,cs)=some (cs++cx.cr):=by
 have hp:=a.perm;obtain⟨l1,l2,l3,l4⟩:=z9q cx h;have hch:=T.ch;rw [zEY a,z5r cx h _ a.root]at hch;rw [List.append_assoc,z8q]at hch;obtain⟨_,h1,h2⟩:=hch;rw [←l2];have hz:∀q∈cx.lcr,0<q.1:=fun q hq=>by
  have h5:=l3 q hq;rcases Nat.eq_zero_or_pos q.1 with h6|h6
  ·exfalso;have h7:q∈zCo D t:=hp.mem_iff.2 (List.mem_append_left _ h5);rcases List.mem_cons.1 h7 with h8|h8
   ·have h9:=l4 q hq;rw [h8]at h9;cases D with
    |zero=>
     cases cx with
     |top=>cases hq
     |step id l k r up=>have:=up.depth;omega
    |succ D=>cases h9
   ·have:=(T.zero q h8).1;omega
  ·exact h6
 refine zC3 cx.lcr n cs 91 ?_ (fun q hq=>⟨T.rep.pgD (p:=q.2) (hp.mem_iff.2 (List.mem_append_left _ (l3 q hq))),hz q hq⟩) (by rw [l1];exact h2) (by rw [l1];exact h1);have hle:∀ {j D:Nat} (cx:Cx j D) (h:Nat),cx.lcr.length≤(cx.pgs h).length:=by
  have hl1:∀ (j i:Nat) (t:Ct j),(lvC j i t).length≤1+(Ct.subs j t).length:=by
   intro j
   induction j with
   |zero=>intro i t;simp [lvC]
   |succ j ih=>
    intro i ks;have:∀l:List (Kid j),(zAK l).length≤(z0h l).length:=fun l=>by
     induction l with
     |nil=>simp [zAK]
     |cons k l il=>
      have e1:zAK (k::l)=lvC j k.2.1 k.2.2++zAK l:=by simp [zAK]
      rw [e1,z0X,List.length_append,List.length_append,List.length_cons];have:=ih k.2.1 k.2.2;omega
    have:=this ks;show(zAK ks).length≤1+(z0h ks).length;omega
  have hl2:∀ {j:Nat} (l:List (Kid j)),(zAK l).length≤(z0h l).length:=fun {j} l=>by
   induction l with
   |nil=>simp [zAK]
   |cons k l il=>
    have e1:zAK (k::l)=lvC j k.2.1 k.2.2++zAK l:=by simp [zAK]
    rw [e1,z0X,List.length_append,List.length_append,List.length_cons];have:=hl1 j k.2.1 k.2.2;omega
  intro j D cx
  induction cx with
  |top=>intro h;exact Nat.zero_le _
  |step id l k r up ih=>
   intro h;have h1:=ih id;have h2:=hl2 r;rw [z37,Cx.lcr];simp only [List.length_append,List.length_cons,List.length_nil];omega
 have h1:=hle cx h;have h2:=T.rep.le90;have h3:=hp.length_eq;rw [List.length_append]at h3;simp only [List.length_cons,List.length_nil]at h3;omega
end
def z6o(L:List Cel)(frm to_:Key)(open_:Bool):List Cel:=(L.drop (z0B L frm)).takeWhile fun c=>open_||Op.bytesLess c.1 to_
def zJf(l:List Cel)(lim:Int):List Cel:=if lim<0 then l else l.take lim.toNat
def z4n(L:List Cel)(frm to_:Key)(open_:Bool)(lim:Int):List Cel:=zJf (z6o L frm to_ open_) lim
structure Vsn where
 t:Nat
 v:List UInt8
 gone:Bool
deriving DecidableEq
structure Rw where
 k:List UInt8
 vs:List Vsn
deriving DecidableEq
def z1f(k:List UInt8)(t:Nat):List UInt8:=100::z1B k t
def zAM(x:Vsn):List UInt8:=if x.gone then [1]else 0::x.v
def zAJ(k:List UInt8)(x:Vsn):Cel:=(z1f k x.t,zAM x)
def ttlK:List UInt8:= [109]
def zDs(last hor:Nat):List UInt8:=z0A last++z0A hor
def rwC(r:Rw):List Cel:=r.vs.reverse.map (zAJ r.k)
def z3M(l:List Rw):List Cel:=l.flatMap rwC
def z3L(l:List Rw)(key:List UInt8):List Vsn:=match l.find? (fun r=>r.k==key)with
 |some r=>r.vs
 |none=> []
structure VOk(x:Vsn):Prop where
 t0:0<x.t
 t64:x.t<U64
 v:x.v.length≤256
 g:x.gone=true→x.v= []
structure RwOk(r:Rw):Prop where
 k0:r.k≠ []
 k64:r.k.length≤64
 ne:r.vs≠ []
 asc:r.vs.Pairwise fun a b=>a.t<b.t
 vs:∀x∈r.vs,VOk x
structure RowsOk(l:List Rw):Prop where
 rw:∀r∈l,RwOk r
 asc:l.Pairwise fun a b=>Lt a.k b.k
theorem zJ7(x:UInt8)(a b:List UInt8):Lt (x::a) (x::b)↔Lt a b:=by unfold Lt;rw [z1V]
theorem z1w{a b:List UInt8}{x y:Nat}(hx:x<U64)(hy:y<U64):Lt (z1f a x) (z1f b y)↔(if a=b then y<x else Lt a b):=by
 unfold z1f;rw [zJ7];unfold Lt;rw [zDJ a b x y hx hy];by_cases h:a=b
 ·rw [if_pos h,if_pos h];by_cases h1:y<x
  ·rw [if_pos h1];simp [h1]
  ·rw [if_neg h1];by_cases h2:x<y
   ·rw [if_pos h2];simp [h1]
   ·rw [if_neg h2];simp [h1]
 ·rw [if_neg h,if_neg h]
theorem z66(k:List UInt8)(t:Nat):Lt (z1f k t) ttlK:=by
 unfold Lt z1f ttlK;rw [z0s,if_pos (by decide)];decide
theorem z5u{a b:List UInt8}{x y:Nat}(hx:x<U64)(hy:y<U64)(h:z1f a x=z1f b y):a=b∧x=y:=by
 have h1:=z1w (a:=a) (b:=b) hx hy;have h2:=z1w (a:=b) (b:=a) hy hx;rw [h]at h1 h2;have hn:¬Lt (z1f b y) (z1f b y):=fun h=>h.irrefl
 by_cases e:a=b
 ·subst e;rw [if_pos rfl]at h1 h2;refine⟨rfl,?_⟩;by_cases q:y<x
  ·exact absurd (h1.2 q) hn
  ·by_cases q2:x<y
   ·exact absurd (h2.2 q2) hn
   ·omega
 ·rw [if_neg e]at h1;rw [if_neg (fun q=>e q.symm)]at h2;rcases z7G (a:=a) (b:=b)with q|q|q
  ·exact absurd (h1.2 q) hn
  ·exact absurd q e
  ·exact absurd (h2.2 q) hn
theorem z39{r:Rw}{c:Cel}(h:c∈rwC r):∃x∈r.vs,c=zAJ r.k x:=by
 obtain⟨x,hx,rfl⟩:=List.mem_map.1 h;exact⟨x,List.mem_reverse.1 hx,rfl⟩
theorem zJ2{r:Rw}(h:RwOk r):Asc (rwC r):=by
 unfold Asc rwC;rw [List.pairwise_map,List.pairwise_reverse];exact(List.Pairwise.and_mem.1 h.asc).imp fun {a b} hab=>(z1w (h.vs b hab.2.1).t64 (h.vs a hab.1).t64).2 (by rw [if_pos rfl];exact hab.2.2)
theorem zFk{l:List Rw}(h:RowsOk l):Asc (z3M l):=by
 unfold Asc z3M;rw [List.pairwise_flatMap];refine⟨fun r hr=>zJ2 (h.rw r hr),(List.Pairwise.and_mem.1 h.asc).imp fun {a b} hab x hx y hy=> ?_⟩;obtain⟨u,hu,rfl⟩:=z39 hx;obtain⟨v,hv,rfl⟩:=z39 hy;exact(z1w ((h.rw a hab.1).vs u hu).t64 ((h.rw b hab.2.1).vs v hv).t64).2 (by rw [if_neg (Lt.ne hab.2.2)];exact hab.2.2)
theorem z5l:∀ {L:List Cel} (ha:Asc L) (to_:Key) (opn:Bool),L.takeWhile (fun c=>opn||Op.bytesLess c.1 to_)=L.filter fun c=>opn||Op.bytesLess c.1 to_
 | [],_,_,_=>rfl
 |c::L,ha,to_,opn=>by
  obtain⟨h1,h2⟩:=List.pairwise_cons.1 ha;rw [List.takeWhile_cons,List.filter_cons];by_cases h:(opn||Op.bytesLess c.1 to_)=true
  ·rw [if_pos h,if_pos h,z5l h2]
  ·rw [if_neg h,if_neg h]
   symm
   rw [List.filter_eq_nil_iff];intro d hd he;apply h;cases opn with
   |true=>rfl
   |false=>
    simp only [Bool.false_or]at he ⊢;exact z0L.2 ((h1 d hd).trans (z0L.1 he))
theorem z50:∀ {L:List Cel} (ha:Asc L) (frm to_:Key) (opn:Bool),z6o L frm to_ opn=L.filter fun c=> !Op.bytesLess c.1 frm&&(opn||Op.bytesLess c.1 to_)
 | [],_,_,_,_=>rfl
 |c::L,ha,frm,to_,opn=>by
  obtain⟨h1,h2⟩:=List.pairwise_cons.1 ha;have ih:=z50 h2 frm to_ opn;by_cases h:Op.bytesLess c.1 frm=true
  ·have e:z0B (c::L) frm=z0B L frm+1:=by unfold z0B;rw [List.takeWhile_cons,if_pos h];rfl
   unfold z6o at ih ⊢;rw [e,List.drop_succ_cons,ih,List.filter_cons,if_neg (by rw [h];simp)]
  ·have e:z0B (c::L) frm=0:=by unfold z0B;rw [List.takeWhile_cons,if_neg h];rfl
   unfold z6o;rw [e,List.drop_zero,z5l ha];apply List.filter_congr;intro d hd;have hd2:Op.bytesLess d.1 frm=false:=by
    rw [z2T];have hc:¬Lt c.1 frm:=fun q=>h (z0L.2 q)
    rcases List.mem_cons.1 hd with rfl|hd
    ·exact hc
    ·exact fun q=>hc ((h1 d hd).trans q)
   rw [hd2];rfl
def vwC(l:List Rw)(tl:List Cel):List Cel:=z3M l++tl
def zIO(tl:List Cel):Prop:=tl= []∨∃v,tl= [(ttlK,v)]
theorem z8n{l:List Rw}(h:RowsOk l){tl:List Cel}(ht:zIO tl):Asc (vwC l tl):=by
 unfold Asc vwC;rw [List.pairwise_append];refine⟨zFk h,?_,fun x hx y hy=> ?_⟩
 ·rcases ht with rfl|⟨v,rfl⟩
  ·exact List.Pairwise.nil
  ·exact List.pairwise_singleton _ _
 ·rcases ht with rfl|⟨v,rfl⟩
  ·cases hy
  ·obtain rfl:=List.mem_singleton.1 hy;obtain⟨r,hr,hx⟩:=List.mem_flatMap.1 hx;obtain⟨u,hu,rfl⟩:=z39 hx;exact z66 _ _
theorem zCO{l:List Rw}(h:RowsOk l){tl:List Cel}(ht:zIO tl)(frm to_:Key)(hto:¬Lt ttlK to_):z6o (vwC l tl) frm to_ false=l.flatMap fun r=>(rwC r).filter fun c=> !Op.bytesLess c.1 frm&&Op.bytesLess c.1 to_:=by
 rw [z50 (z8n h ht)];unfold vwC z3M;have e:tl.filter (fun c=> !Op.bytesLess c.1 frm&&(false||Op.bytesLess c.1 to_))= []:=by
  rw [List.filter_eq_nil_iff];intro c hc;rcases ht with rfl|⟨v,rfl⟩
  ·cases hc
  ·obtain rfl:=List.mem_singleton.1 hc;simp only [Bool.false_or,z2T.2 hto,Bool.and_false];simp
 rw [List.filter_append,e,List.append_nil,List.filter_flatMap];simp only [Bool.false_or]
def z6D(key:List UInt8):List UInt8:=if 64<key.length then z1f (key.take 64) 0++ [0]else z1f key 18446744073709551615
theorem zJB{k key:List UInt8}(hk:k.length≤64)(h:64<key.length):Lt k key↔¬Lt (key.take 64) k:=by
 have e:key=key.take 64++key.drop 64:=(List.take_append_drop 64 key).symm;have hl:(key.take 64).length=64:=by rw [List.length_take];omega
 have hd:key.drop 64≠ []:=fun q=>by have:=congrArg List.length q;rw [List.length_drop]at this;simp at this;omega
 generalize key.take 64=a at*;generalize key.drop 64=d at*;subst e;clear h;have key2:∀ (a k:List UInt8),k.length≤a.length→(Lt k (a++d)↔¬Lt a k):=by
  intro a
  induction a with
  |nil=>
   intro k hk;obtain rfl:k= []:=List.eq_nil_of_length_eq_zero (by simpa using hk);obtain⟨x,r,rfl⟩:=List.exists_cons_of_ne_nil hd;constructor
   ·intro _ q;exact q.irrefl
   ·intro _;unfold Lt;simp [z15]
  |cons x a ih=>
   intro k hk;cases k with
   |nil=>
    constructor
    ·intro _ q;unfold Lt at q;simp [z15]at q
    ·intro _;unfold Lt;simp [z15]
   |cons y k=>
    have:=ih k (by simpa using hk);unfold Lt at this ⊢;rw [List.cons_append,z0s,z0s];by_cases h1:y.toNat<x.toNat
    ·rw [if_pos h1,if_neg (by omega),if_pos h1];simp
    ·rw [if_neg h1];by_cases h2:x.toNat<y.toNat
     ·rw [if_pos h2,if_pos h2];simp
     ·rw [if_neg h2,if_neg h2,if_neg h1];exact this
 exact key2 a k (by omega)
theorem zDx:(18446744073709551615:Nat)<U64:=by unfold U64;omega
theorem z6y:(0:Nat)<U64:=by unfold U64;omega
theorem zAy{a b:List UInt8}(h:Lt a b):¬Lt b (a++ [0]):=by
 rw [←z2T];exact z9v _ _ (z0L.2 h)
theorem z5I(a:List UInt8):Lt a (a++ [0]):=z0L.1 (zFw a)
theorem zIj{k key:List UInt8}{t:Nat}(hk:k.length≤64)(ht:t<U64):Op.bytesLess (z1f k t) (z6D key)=Op.bytesLess k key:=by
 rw [Bool.eq_iff_iff,z0L,z0L];unfold z6D;by_cases h:64<key.length
 ·rw [if_pos h,zJB hk h];rcases z7G (a:=k) (b:=key.take 64)with q|q|q
  ·exact⟨fun _=>q.not,fun _=>((z1w ht z6y).2 (by rw [if_neg q.ne];exact q)).trans (z5I _)⟩
  ·refine⟨fun _=>by rw [q];exact fun q=>q.irrefl,fun _=> ?_⟩;subst q;by_cases h0:0<t
   ·exact((z1w ht z6y).2 (by rw [if_pos rfl];exact h0)).trans (z5I _)
   ·obtain rfl:t=0:=by omega
    exact z5I _
  ·refine⟨fun hh=>absurd hh (zAy ((z1w z6y ht).2 (by rw [if_neg q.ne];exact q))),fun hh=>absurd q hh⟩
 ·rw [if_neg h,z1w ht zDx];by_cases e:k=key
  ·rw [if_pos e];subst e;refine⟨fun q=>by unfold U64 at ht;omega,fun q=>absurd q fun q=>q.irrefl⟩
  ·rw [if_neg e]
def z4d(l:List Rw)(key:List UInt8):Option Rw:=l.find? fun r=> !Op.bytesLess r.k key
theorem zDg{l:List Rw}{p:Rw→Bool}{f:Rw→List Cel}(hne:∀r∈l,f r≠ []):(l.flatMap fun r=>if p r then f r else []).take 1=match l.find? p with
 |none=> []
 |some r=>(f r).take 1:=by
 induction l with
 |nil=>rfl
 |cons r l ih=>
  rw [List.flatMap_cons,List.find?_cons];by_cases h:p r=true
  ·rw [if_pos h,h];simp only;obtain⟨c,cs,hc⟩:=List.exists_cons_of_ne_nil (hne r (by simp));rw [hc];rfl
  ·have h':p r=false:=by simpa using h
   rw [if_neg h,h',List.nil_append];exact ih fun r hr=>hne r (by simp [hr])
theorem zIX{r:Rw}(h:RwOk r):rwC r≠ []:=by
 unfold rwC;intro q;have:=congrArg List.length q;simp at this;exact h.ne this
theorem z4A{α β:Type}{l:List α}{f g:α→List β}(h:∀x∈l,f x=g x):l.flatMap f=l.flatMap g:=by
 induction l with
 |nil=>rfl
 |cons a l ih=>rw [List.flatMap_cons,List.flatMap_cons,h a (by simp),ih fun x hx=>h x (by simp [hx])]
theorem zAP{l:List Cel}{p:Cel→Bool}{b:Bool}(h:∀c∈l,p c=b):l.filter p=if b then l else []:=by
 cases b with
 |true=>rw [if_pos rfl,List.filter_eq_self];exact h
 |false=>rw [if_neg (by simp),List.filter_eq_nil_iff];intro c hc;rw [h c hc];simp
theorem zAa{l:List Rw}(h:RowsOk l){tl:List Cel}(ht:zIO tl)(key:List UInt8):z4n (vwC l tl) (z6D key) ttlK false 1=match z4d l key with
 |none=> []
 |some r=>(rwC r).take 1:=by
 unfold z4n zJf;rw [if_neg (by omega),show(1:Int).toNat=1 from rfl,zCO h ht _ _ (fun q=>q.irrefl)];rw [z4A (g:=fun r=>if !Op.bytesLess r.k key then rwC r else [])]
 ·exact zDg fun r hr=>zIX (h.rw r hr)
 ·intro r hr;apply zAP;intro c hc;obtain⟨x,hx,rfl⟩:=z39 hc;show(!Op.bytesLess (z1f r.k x.t) (z6D key)&&Op.bytesLess (z1f r.k x.t) ttlK)=_;rw [zIj (h.rw r hr).k64 ((h.rw r hr).vs x hx).t64,z0L.2 (z66 _ _),Bool.and_true]
theorem zET{l:List Rw}(h:RowsOk l){tl:List Cel}(ht:zIO tl){key:List UInt8}{at_:Nat}(ha:at_<U64):z6o (vwC l tl) (z1f key at_) (z1f key 0++ [0]) false=(((z3L l key).filter fun x=>decide (x.t≤at_)).reverse).map (zAJ key):=by
 have hto:¬Lt ttlK (z1f key 0++ [0]):=by
  unfold Lt ttlK z1f;rw [List.cons_append,z0s,if_neg (by decide),if_pos (by decide)];decide
 rw [zCO h ht _ _ hto];have hf:∀r∈l,((rwC r).filter fun c=> !Op.bytesLess c.1 (z1f key at_)&&Op.bytesLess c.1 (z1f key 0++ [0]))=if r.k==key then((r.vs.filter fun x=>decide (x.t≤at_)).reverse).map (zAJ key)else []:=by
  intro r hr;have ok:=h.rw r hr;by_cases e:r.k=key
  ·subst e;rw [if_pos (by simp)];unfold rwC;rw [List.filter_map,←List.filter_reverse]
   congr 1
   apply List.filter_congr;intro x hx;have hx:=List.mem_reverse.1 hx;have h1:Op.bytesLess (z1f r.k x.t) (z1f r.k at_)=decide (at_<x.t):=by
    rw [Bool.eq_iff_iff,z0L,z1w (ok.vs x hx).t64 ha,if_pos rfl];simp
   have h2:Lt (z1f r.k x.t) (z1f r.k 0++ [0]):=((z1w (ok.vs x hx).t64 z6y).2 (by rw [if_pos rfl];exact(ok.vs x hx).t0)).trans (z5I _);show(!Op.bytesLess (z1f r.k x.t) (z1f r.k at_)&&Op.bytesLess (z1f r.k x.t) (z1f r.k 0++ [0]))=_;rw [h1,z0L.2 h2,Bool.and_true];by_cases q:x.t≤at_
   ·rw [decide_eq_true q,decide_eq_false (by omega)];rfl
   ·rw [decide_eq_false q,decide_eq_true (by omega)];rfl
  ·rw [if_neg (by simpa using e),List.filter_eq_nil_iff];intro c hc;obtain⟨x,hx,rfl⟩:=z39 hc;show ¬ (!Op.bytesLess (z1f r.k x.t) (z1f key at_)&&Op.bytesLess (z1f r.k x.t) (z1f key 0++ [0]))=true;rcases z7G (a:=r.k) (b:=key)with q|q|q
   ·rw [z0L.2 ((z1w (ok.vs x hx).t64 ha).2 (by rw [if_neg q.ne];exact q))];simp
   ·exact absurd q e
   ·rw [z2T.2 (zAy ((z1w z6y (ok.vs x hx).t64).2 (by rw [if_neg q.ne];exact q)))];simp
 rw [z4A hf];clear hf ht;have hasc:=h.asc;clear h;unfold z3L
 induction l with
 |nil=>rfl
 |cons r l ih=>
  obtain⟨h1,h2⟩:=List.pairwise_cons.1 hasc;rw [List.flatMap_cons,List.find?_cons];by_cases e:r.k=key
  ·have eb:(r.k==key)=true:=by simpa using e
   rw [if_pos eb,eb];simp only;have hn:(l.flatMap fun r=>if r.k==key then((r.vs.filter fun x=>decide (x.t≤at_)).reverse).map (zAJ key)else [])= []:=by
    rw [List.flatMap_eq_nil_iff];intro q hq;rw [if_neg];simp only [beq_iff_eq];intro q2;have:=h1 q hq;rw [e,q2]at this;exact this.irrefl
   rw [hn,List.append_nil]
  ·have eb:(r.k==key)=false:=by simpa using e
   rw [if_neg (by rw [eb];simp),eb,List.nil_append];exact ih h2
theorem zHK{l:List Rw}(h:RowsOk l){tl:List Cel}(ht:zIO tl)(key:List UInt8):z4n (vwC l tl) (z1f key 18446744073709551615) (z1f key 0++ [0]) false (-1)=((z3L l key).reverse).map (zAJ key):=by
 unfold z4n zJf;rw [if_pos (by omega),zET h ht zDx]
 congr 2
 rw [List.filter_eq_self];intro x hx;unfold z3L at hx
 split at hx
 ·rename_i r hr;have:=((h.rw r (List.mem_of_find?_eq_some hr)).vs x hx).t64;unfold U64 at this;exact decide_eq_true (by omega)
 ·cases hx
section
variable {Q:Prm} {P:Pgr} {c:Int→List UInt8} {j D:Nat} {h:Nat} {t:Ct j} {st:Pag}
end
section
variable {Q:Prm} {P:Pgr} {c:Int→List UInt8} {j D:Nat} {h:Nat} {t:Ct j} {st:Pag}
end
theorem Kin.level(P:Pgr)(c:Int→List UInt8)(s:TStp)(id:Int)(x:Pag):Kin P (z6d P c s id x).1:=by
 unfold z6d
 split
 ·exact(Kin.wp _ _ _).trans (Kin.free _ _)
 ·split
  ·exact Kin.wp _ _ _
  ·exact(Kin.wp _ _ _).trans (Kin.wp _ _ _)
theorem Kin.finP(P:Pgr)(c:Int→List UInt8)(id:Int)(x:Pag):Kin P (finP P c id x):=by
 unfold Go.Proofs.YtdkobefpnjbgnaaGreatDoor.finP
 split
 ·exact(Kin.free _ _).trans (Kin.wp _ _ _)
 ·exact Kin.wp _ _ _
theorem Kin.down(c:Int→List UInt8):∀ (ws:List TStp) (P:Pgr) (id:Int) (x:Pag),Kin P (zG1 c P ws id x)
 | [],P,id,x=>by rw [zG1];exact Kin.finP _ _ _ _
 |s::r,P,id,x=>by
  rw [zG1]
  split
  ·split
   ·exact(Kin.level P c s id x).trans (Kin.up _ _ _ _)
   ·exact(Kin.level P c s id x).trans (Kin.down c r _ _ _)
  ·exact Kin.finP _ _ _ _
def Weak(Q:Prm)(D:Nat):Prop:=Q.a=1∧Q.m=2∧Q.K≤139∧D≤3
def zIa(D:Nat):Nat:=if D≤2 then 1 else 0
section
variable {Q:Prm} {c:Int→List UInt8}
theorem zC7:∀ (j:Nat) (t:Ct j),FlIn ⟨1,1,0⟩ j t→(0<j→0<Ct.n j t)→j≤(Ct.subs j t).length
 |0,_,_,_=>Nat.zero_le _
 |j+1,t,hf,hn=>by
  obtain⟨⟨k,i,t'⟩,r,rfl⟩:∃k r,t=(k::r:List (Kid j)):=by
   cases t with
   |nil=>exact absurd (hn (by omega)) (by simp [Ct.n])
   |cons k r=>exact⟨k,r,rfl⟩
  have h1:=(z3G _ j t').1 (z1F (j:=j).1 hf).1;have:=zC7 j t' h1.2 fun h=>by have:=h1.1;cases j with
   |zero=>omega
   |succ j=>exact this
  have e:Ct.subs (j+1) ((k,(i,t'))::r:List (Kid j))=(i,Ct.page j t')::Ct.subs j t'++z0h r:=z0X r (k,(i,t'));rw [e,List.length_append,List.length_cons];omega
theorem Tree.deep(hQ:Q.Ok){P:Pgr}{D:Nat}{t:Ct D}(T:Tree Q P c D t):D≤89:=by
 have h1:=zC7 D t (T.fl.weak hQ) fun h0=>by
  have:=T.root;obtain⟨D',rfl⟩:∃D',D=D'+1:=⟨D-1,by omega⟩;simp only [zD0]at this;omega
 have h2:=T.rep.le90;unfold zCo at h2;rw [List.length_cons]at h2;omega
end
theorem zEb{j:Nat}{f g:Ct j→Nat}(m:Nat):∀ {l:List (Kid j)},(∀k∈l,m*f k.2.2≤g k.2.2)→m*z1x f l≤z1x g l
 | [],_=>by simp [z1x]
 |k::l,h=>by
  have h1:=h k (by simp);have h2:=zEb m (l:=l) fun x hx=>h x (by simp [hx])
  show m*(f k.2.2+z1x f l)≤g k.2.2+z1x g l;rw [Nat.mul_add];omega
theorem zIT{Q:Prm}(hQ:Q.Ok):∀ (j:Nat) (t:Ct j),FlIn Q j t→22*wS z3i j t≤1+(Ct.subs j t).length
 |0,t,_=>by
  have:wS z3i 0 t=0:=rfl;omega
 |j+1,ks,hf=>by
  have hall:FlL Q (j:=j) ks:=hf;have hs:z1x (wS (fun _ _=>1) j) ks=(z0h (j:=j) ks).length:=by
   have:=z6N (j+1) ks;have e1:wS (fun _ _=>1) (j+1) ks=1+z1x (wS (fun _ _=>1) j) ks:=rfl;have e2:(Ct.subs (j+1) ks).length=(z0h (j:=j) ks).length:=rfl;omega
  have e:wS z3i (j+1) ks=z3i (j+1) (List.length (α:=Kid j) ks)+z1x (wS z3i j) ks:=rfl;have e2:(Ct.subs (j+1) ks).length=(z0h (j:=j) ks).length:=rfl;rw [e,e2];by_cases hj:j+1=2∧7≤List.length (α:=Kid j) ks
  ·obtain⟨h1,h2⟩:=hj;obtain rfl:j=1:=by omega
   have h3:z1x (wS z3i 1) ks=0:=by
    have:∀l:List (Kid 1),z1x (wS z3i 1) l=0:=fun l=>by
     induction l with
     |nil=>rfl
     |cons k l il=>
      have h5:wS z3i 1 k.2.2=0:=by
       have h6:∀l:List (Kid 0),z1x (wS z3i 0) l=0:=fun l=>by
        induction l with
        |nil=>rfl
        |cons k l il=>
         show 0+z1x (wS z3i 0) l=0;omega
       show z3i 1 (List.length (α:=Kid 0) k.2.2)+z1x (wS z3i 0) k.2.2=0;rw [h6];rfl
      show wS z3i 1 k.2.2+z1x (wS z3i 1) l=0;omega
    exact this ks
   have h4:3*List.length (α:=Kid 1) ks≤(z0h (j:=1) ks).length:=by
    have:∀l:List (Kid 1),FlL Q l→3*l.length≤(z0h l).length:=fun l=>by
     induction l with
     |nil=>intro _;simp
     |cons k l il=>
      intro h;rw [z0X,List.length_append,List.length_cons,List.length_cons,Nat.mul_succ];have h5:=il (z1F.1 h).2;have h6:=(z8U hQ 1 k.2.2 (z1F.1 h).1).1 (by omega);omega
    exact this ks hall
   have h5:z3i (1+1) (List.length (α:=Kid 1) ks)≤1:=by unfold z3i;split<;>omega
   omega
  ·have h1:z3i (j+1) (List.length (α:=Kid j) ks)=0:=by unfold z3i;rw [if_neg hj]
   have h2:=zEb 22 (f:=wS z3i j) (g:=wS (fun _ _=>1) j) (l:=ks) fun k hk=>by
    rw [z6N];exact zIT hQ j k.2.2 (((z3G Q j k.2.2).1 (hall k hk)).2)
   omega
noncomputable def putW(P:Pgr)(c:Int→List UInt8)(x:Cel):Pgr×Nat:=putT P ((z4T (P.pgD c) x.1 100 0).getD []) x
theorem zEd{P:Pgr}{c:Int→List UInt8}{x:Cel}{n:Nat}{w:List TStp}(h:z4T (P.pgD c) x.1 n 0=some w)(hn:n≤100):putW P c x=putT P w x:=by
 unfold putW;rw [z9f h hn];rfl
noncomputable def delW(P:Pgr)(c:Int→List UInt8)(k:Key):Pgr×Nat:=deleteT P c ((z4T (P.pgD c) k 100 0).getD []) k
section
variable {Q:Prm} {c:Int→List UInt8}
structure Bat(Q:Prm)(P:Pgr)(c:Int→List UInt8)(D0 l0 h0 f0 k:Nat)(L:List Cel)(D:Nat)(t:Ct D):Prop where
 tree:Tree Q P c D t
 cells:Ct.cells D t=L
 d3:D≤3
 d0:D0≤D
 d1:D≤D0+1
 rn:D=D0+1→Ct.n D t≤2+k
 low:wS z8Q D t≤l0+2*k
 quo:wS wHi D t+f0+D0≤h0+wS z3i D t+D
theorem Bat.room{P:Pgr}{D0 l0 h0 f0 k:Nat}{L:List Cel}{D:Nat}{t:Ct D}(hQ:Q.Ok)(b:Bat Q P c D0 l0 h0 f0 k L D t){n:Nat}(hk:k<n)(hr:l0+h0+8+2*n≤90):1+(Ct.subs D t).length+D+3≤90:=by
 have h1:=zFM D t;have h2:=zIT hQ D t b.tree.fl;have h3:=b.low;have h4:=b.quo;have h5:=b.d3;have h6:=b.d1;have h7:=b.d0;omega
theorem Bat.put{P:Pgr}{D0 l0 h0 f0 k:Nat}{L:List Cel}{D:Nat}{t:Ct D}(hQ:Q.Ok)(hK:Q.K≤139)(b:Bat Q P c D0 l0 h0 f0 k L D t){n:Nat}(hk:k<n)(hn:n≤11)(hr:l0+h0+8+2*n≤90){x:Cel}(hxk:x.1.length≤Q.K)(hx:x.1.length+x.2.length≤480):
 (putW P c x).2=0∧Kin P (putW P c x).1∧(∃w,z4T (P.pgD c) x.1 (D+1) 0=some w∧w.length=D+1)∧∃D' t',Bat Q (putW P c x).1 c D0 l0 h0 f0 (k+1) (putC L x) D' t'∧1+(Ct.subs D' t').length≤1+(Ct.subs D t).length+D+2:=by
 have hroom:=b.room hQ hk hr;obtain⟨w,w1,w2,w3,w4,D',t',R⟩:=zF4 hQ b.tree hxk hx hroom;have hd:=b.tree.deep hQ;have e:=zEd w1 (by have:=b.d3;omega);rw [e];refine⟨w3,w4,⟨w,w1,w2⟩,D',t',?_,R.cnt⟩;have h1:=b.d0;have h2:=b.d1;have h3:=b.d3;have h4:=R.d0;have h5:=R.d1;have h6:=R.d3 hK;have hgrow:D'=D+1→D=D0:=fun h=>by
  rcases Nat.lt_or_ge D0 D with h7|h7
  ·exfalso;have h8:=b.rn (by omega);have h9:=(R.rt1 h).2 hK (by omega);omega
  ·omega
 refine⟨R.tree,by rw [R.cells,b.cells],?_,by omega,?_,fun h=> ?_,?_,?_⟩
 ·rcases Nat.lt_or_ge D 3 with h7|h7
  ·omega
  ·have:=h6 h7;omega
 ·rcases Nat.lt_or_ge D D' with h7|h7
  ·have:=hgrow (by omega);omega
  ·omega
 ·rcases Nat.lt_or_ge D D' with h7|h7
  ·have:=(R.rt1 (by omega)).1;omega
  ·have h8:=R.rt0 (by omega);have h9:=b.rn (by omega);omega
 ·have h7:=R.low;have h8:=b.low;omega
 ·have h7:=R.quo hK;have h8:=b.quo;omega
theorem zFB{P:Pgr}{D:Nat}{t:Ct D}(T:Tree Q P c D t)(hd:D≤3):Bat Q P c D (wS z8Q D t) (wS wHi D t) (wS z3i D t) 0 (Ct.cells D t) D t:=
 ⟨T,rfl,hd,Nat.le_refl _,by omega,fun h=>by omega,by omega,by omega⟩
end
theorem zDM(v:List UInt8):z11 v= -1∨(1≤z11 v∧z11 v<90):=by
 unfold z11
 split
 ·split
  ·exact .inl rfl
  ·right;omega
 ·exact .inl rfl
end
section
open Go Go.RowKit
structure Pr(P:Pgr)(c:Int→List UInt8):Prop where
 ok:P.D.Ok
 stored:z4F P.D P.a P.tb c
 wlen:∀x b,P.wr x=some b→b.length≤2048
 a0:0≤P.a
 a1:P.a≤65536
theorem Kin.pr{P P':Pgr}{c:Int→List UInt8}(k:Kin P P')(h:Pr P c):Pr P' c:=
 ⟨by rw [k.D];exact h.ok,by rw [k.D,k.a,k.tb];exact h.stored,k.wlen h.wlen,by rw [k.a];exact h.a0,by rw [k.a];exact h.a1⟩
structure Tg(w:World)(g:Nat)(Z:Pz)(P:Pgr)(c:Int→List UInt8):Prop where
 pg:Pg w Z P
 blk:Blk w g 213 #[.pointer (some ⟨Z.g,0,none⟩)]
 pr:Pr P c
 bits:BitsOk w
 z0:¬Z.has 0
section
variable {w w':World} {g:Nat} {Z:Pz} {P P':Pgr} {c:Int→List UInt8}
theorem Tg.later(t:Tg w g Z P c)(hb:Below w.heap.size w w'):Tg w' g Z P c:=⟨t.pg.later hb,t.blk.later hb,t.pr,t.bits.later hb,t.z0⟩
theorem Pz.not_kind{b:Nat}{ty:TypeId}(p:Pg w Z P)(hk:z0E w b=some (some ty))(h1:ty≠211)(h2:ty≠249)(h3:ty≠164)(h4:ty≠291):¬Z.has b:=by
 intro hb;have:=p.kinds hb;rw [hk]at this;simp only [Option.some.injEq,reduceCtorEq,false_or]at this;rcases this with h|h|h|h
 ·exact h1 h
 ·exact h2 h
 ·exact h3 h
 ·exact h4 h
theorem Tg.nz(t:Tg w g Z P c):¬Z.has g:=Pz.not_kind t.pg (z0F t.blk) (by decide) (by decide) (by decide) (by decide)
theorem zFU(h:BitsOk w)(z0:¬Z.has 0)(s:Ptp Z w Z w'):BitsOk w':=fun i hi=>by
 have hb:=s.turn.block 0 h.pos z0;rw [←h i hi];unfold World.cell?;rw [hb]
theorem Tg.done(t:Tg w g Z P c)(d:z7t Z P' w w')(k:Kin P P'):Tg w' g Z P' c:=
 ⟨d.1,(d.2.turn.block g t.blk.lt t.nz).trans t.blk,k.pr t.pr,zFU t.bits t.z0 d.2,t.z0⟩
def z1i(g:Nat)(Z:Pz)(P':Pgr)(c:Int→List UInt8)(w w':World):Prop:=Tg w' g Z P' c∧Ptp Z w Z w'
theorem Cs.ptp{S:Nat→Prop}{v:Value}{cs:List Cel}(h:Cs S w v cs)(s:Ptp Z w Z w')(hS:∀b,S b→b<w.heap.size∧¬Z.has b):Cs S w' v cs:=
 Sl.keep h fun b o hb=>World.cell?_of_block (s.turn.block b (hS b hb).1 (hS b hb).2)
end
theorem zCJ:∀ (l:List UInt8) (i v er:Nat),z7C i v l= .error er→er=10∨er=12
 | [],i,v,er,h=>by rw [z7C]at h;injection h with h;exact .inl h.symm
 |b::r,i,v,er,h=>by
  rw [z7C]at h
  split at h
  ·injection h with h;exact .inr h.symm
  ·split at h
   ·cases h
   ·exact zCJ r _ _ er h
theorem zBF{l:List UInt8}{er:Nat}(h:z0S l= .error er):er=10∨er=12:=zCJ l 0 0 er h
theorem zHC{l:List UInt8}{x:Pag}(h:z2g l=some x):POk x:=by
 unfold z2g at h
 split at h
 ·cases h
 ·unfold zJe at h
  split at h
  split at h
  split at h
  split at h
  split at h
  ·rename_i hc;cases h
   exact hc.2
  ·cases h
theorem pg_ok{P:Pgr}{c:Int→List UInt8}{i:Int}{x:Pag}(h:P.pg c i=some x):POk x:=by
 unfold Pgr.pg at h;rw [Option.bind_eq_some_iff]at h;obtain⟨b,_,h⟩:=h;exact zHC h
theorem POk.no:POk noPg:=by
 refine POk.mk' (by decide) rfl ?_;have:=z4z (next:=0) (cs:= []) (by omega) (by simp);show z4W ((0:Nat):Int) []≤2048;simp [z0D]at this;simp;omega
theorem zDy(P:Pgr)(c:Int→List UInt8)(i:Int):POk (P.pgD c i):=by
 unfold Pgr.pgD;cases h:P.pg c i with
 |none=>exact POk.no
 |some x=>exact pg_ok h
theorem zDK(k v:List UInt8)(w:World)(hv:v.length≤1000000):
 Calls Tryz.prog 131 #[.agg #[.string (st k),.string (st v)]] w fun e w'=>e= .returned (.int .i64 (z11 v))∧Below w.heap.size w w':=by
 have hml:v.length≤maxLen:=by simp only [maxLen];omega
 have q0:=(Below.refl w.heap.size w).alloc (Nat.le_refl _) (.cells #[.string (st k),.string (st v)] 121);have b0:Blk (w.alloc (.cells #[.string (st k),.string (st v)] 121)) w.heap.size 121 #[.string (st k),.string (st v)]:=Blk.new _ _ _;have c1:(w.alloc (.cells #[.string (st k),.string (st v)] 121)).cell? ⟨w.heap.size,1,none⟩=some (.string (st v)):=b0.cell 1;have hsz:=b0.lt;have HQ:=zz q0;clear b0 q0;go_enter Tryz.func131,Tryz.ntmps131
 generalize hW:w.alloc (.cells #[.string (st k),.string (st v)] 121)=W at*;go_wp2_with (refine z1W _ rfl (.tmp 8) rfl tS tB tU hml rfl ?_;intro A1 c1 w1 hbs1 hbl1 hsz1)
 have HB1:=zz (HQ.out.trans (hbl1.mono HQ.out.size));refine(z41 _ _ v w1 (by omega) hbs1).mono ?_;rintro e w2 ⟨hok,herr⟩;cases hg:z0S v with
 |error er=>
  obtain⟨rfl,hb2⟩:=herr er hg;have hc:Hid (z11 v= -1):=by unfold z11;rw [Hid,hg]
  have her:¬ ((er:Int)=0):=by
   have:=zBF hg;omega
  clear hok herr hg;go_wp2_with fail
  go_ret
  exact⟨by rw [hc.out];rfl,HB1.out.trans (hb2.mono HB1.out.size)⟩
 |ok x=>
  obtain⟨x,n⟩:=x;obtain⟨A,k',c',rfl,hown,hb2⟩:=hok x n hg;have hx:=(z1X hg).1;have HX:Hid (x<U64):=hx;have hc:Hid (z11 v=if x=0∨90≤x then-1 else(x:Int)):=by unfold z11;rw [Hid,hg]
  have HB2:=zz (HB1.out.trans (hb2.mono HB1.out.size));clear hok herr hg hown hx;by_cases h0:x=0
  ·subst h0;rw [if_pos (.inl rfl)]at hc;go_wp2_with fail
   go_ret
   exact⟨by rw [hc.out];rfl,HB2.out⟩
  ·by_cases h9:90≤x
   ·rw [if_pos (.inr h9)]at hc;have g0:¬ (x:Int)=0:=by omega
    have g9:(90:Int)≤(x:Int):=by omega
    go_wp2_with fail
    go_ret
    exact⟨by rw [hc.out];rfl,HB2.out⟩
   ·rw [if_neg (by omega)]at hc;have g0:((x:Int)==0)=false:=beq_eq_false_iff_ne.2 (by omega);have g9:decide ((90:Int)≤(x:Int))=false:=decide_eq_false (by omega);have gw:IntKind.i64.wrap (x:Int)=(x:Int):=z1T (by omega) (by omega);go_wp2_with fail
    go_ret
    exact⟨by rw [hc.out];rfl,HB2.out⟩
theorem cellTy:z1D Tryz.prog 121 2:=⟨⟨_,Tryz.underlying121⟩,by kernel_rfl⟩
theorem zD9{B:Nat}{w0 w:World}{g:Nat}(h:Below B w0 w)(hg:B≤g)(x y:Value):Below B w0 ((w.setCell ⟨g,0,none⟩ x).setCell ⟨g,1,none⟩ y):=
 (h.setCell (p:=⟨g,0,none⟩) hg x).setCell (p:=⟨g,1,none⟩) hg y
theorem z2x(k:List UInt8)(i:Nat)(w:World)(hi:i<1000000):
 Calls Tryz.prog 190 #[.string (st k),.int .i64 (i:Int)] w fun e w'=>e= .returned (.agg #[.string (st k),.string (st (z0A i))])∧Below w.heap.size w w':=by
 have b0:Blk (w.alloc (.cells #[.string ⟨#[]⟩,.string ⟨#[]⟩] 121)) w.heap.size 121 #[.string ⟨#[]⟩,.string ⟨#[]⟩]:=Blk.new _ _ _;have HQ:=zz ((Below.refl w.heap.size w).alloc (Nat.le_refl _) (.cells #[.string ⟨#[]⟩,.string ⟨#[]⟩] 121));have HB:=zz b0;have gw:IntKind.u64.wrap (i:Int)=(i:Int):=z0l (by omega) (by unfold U64;omega);have hl:(z0A i).length≤10:=z06 (by unfold U64;omega);clear b0;go_enter Tryz.func190,Tryz.ntmps190
 go_wp2_with fail
 generalize hW:w.alloc (.cells #[.string ⟨#[]⟩,.string ⟨#[]⟩] 121)=W at*;clear hW;refine(z7z (fun _=>True) _ [] i W (by unfold U64;omega) (by rw [List.nil_append];omega) (Bs.nilv _ _)).mono ?_;rintro e w2 ⟨A,k2,c2,rfl,hob,hb2⟩;rw [List.nil_append]at hob;have hbs:=hob.bs;have K2:=zz (HB.out.later hb2);have k20:w2.cell? ⟨w.heap.size,0,none⟩=some (.string ⟨#[]⟩):=K2.out.cell 0;have k21:w2.cell? ⟨w.heap.size,1,none⟩=some (.string ⟨#[]⟩):=K2.out.cell 1;have j20:=K2.out.free 0;have j21:=K2.out.free 1;have HQ2:=zz (HQ.out.trans (hb2.mono HQ.out.size));clear hob hb2;generalize hV:z0A i=V at*;have HV:=zz hV;clear hV;go_wp2_with (refine z0o _ rfl (.tmp 8) rfl tB tU tS hbs rfl ?_)
 exact bodyPost_ret (z26 rfl _ _ w.heap.size rfl (K2.out.put2 _ _) cellTy) rfl ⟨by rw [HV.out],zD9 HQ2.out (Nat.le_refl _) _ _⟩
theorem PgIs.no(B:Nat)(w:World):PgIs B w (.agg #[.bool false,.int .i64 0,.slice none 0 0]) false 0 []:=⟨none,0,rfl,Sl.nil⟩
theorem z6I(g:Nat)(Z:Pz)(P:Pgr)(c:Int→List UInt8)(i:Int)(w:World)(ht:Tg w g Z P c)(hi:InI i):
 Calls Tryz.prog 130 #[.pointer (some ⟨g,0,none⟩),.int .i64 i] w fun e w'=>∃v,e= .returned (.tuple #[v,.bool (P.pg c i).isSome])∧PgIs w.heap.size w' v (P.pgD c i).1 ((P.pgD c i).2.1:Int) (P.pgD c i).2.2∧Below w.heap.size w w':=by
 have HT:=zz ht;have HI:=zz hi;have hb0:Blk (w.alloc (.cells #[.bool false,.int .i64 0,.slice none 0 0] 186)) w.heap.size 186 #[.bool false,.int .i64 0,.slice none 0 0]:=Blk.new _ _ _;have HB0:=zz hb0;have HQ0:=zz ((Below.refl w.heap.size w).alloc (Nat.le_refl _) (.cells #[.bool false,.int .i64 0,.slice none 0 0] 186));have e0:(w.alloc (.cells #[.bool false,.int .i64 0,.slice none 0 0] 186)).cell? ⟨g,0,none⟩=some (.pointer (some ⟨Z.g,0,none⟩)):=(ht.blk.later HQ0.out).cell 0;have HT0:=zz (ht.later HQ0.out);clear ht hi hb0;go_enter Tryz.func130,Tryz.ntmps130
 go_wp2_with fail
 generalize hW:w.alloc (.cells #[.bool false,.int .i64 0,.slice none 0 0] 186)=W at*;clear hW;refine(zEu Z P c i W HT0.out.pg HT0.out.pr.ok HT0.out.pr.stored HT0.out.pr.wlen HT0.out.pr.a0 HT0.out.pr.a1 HI.out).mono ?_;rintro e w1 ⟨A,n,c1,rfl,hob,hb1⟩;have HB1:=zz (HB0.out.later hb1);have HQ1:=zz (HQ0.out.trans (hb1.mono HQ0.out.size));have hz1:=HB1.out.lt;have k0:w1.cell? ⟨w.heap.size,0,none⟩=some (.bool false):=HB1.out.cell 0;have k1:w1.cell? ⟨w.heap.size,1,none⟩=some (.int .i64 0):=HB1.out.cell 1;have k2:w1.cell? ⟨w.heap.size,2,none⟩=some (.slice none 0 0):=HB1.out.cell 2;have j0:=HB1.out.free 0;have j1:=HB1.out.free 1;have j2:=HB1.out.free 2;have HOB:=zz hob;have hln:n=((P.page c i).getD []).length:=hob.len;subst hln;clear hob hb1 e0;cases hh:P.has i with
 |false=>
  have hpg:P.pg c i=none:=by unfold Pgr.pg Pgr.page;rw [hh];rfl
  have HPD:Hid (P.pgD c i=noPg):=by unfold Pgr.pgD;rw [Hid,hpg];rfl
  have HPG:=zz hpg;clear hpg hh;go_wp2_with fail
  exact bodyPost_ret (z0O rfl _ _ w.heap.size rfl (HB1.out.put3 _ _ _) z1r) rfl ⟨_,by rw [HPG.out];rfl,by rw [HPD.out];exact PgIs.no _ _,z0b HQ1.out (Nat.le_refl _) _ _ _⟩
 |true=>
  have hpage:P.page c i=some ((P.wr i).getD (c i)):=by unfold Pgr.page;rw [hh];rfl
  have hpg:P.pg c i=z2g ((P.page c i).getD []):=by unfold Pgr.pg;rw [hpage];rfl
  have HPG:=zz hpg;have hlen:((P.page c i).getD []).length≤2048:=by
   rw [hpage];simp only [Option.getD_some];cases hw:P.wr i with
   |some b=>exact HT0.out.pr.wlen i b hw
   |none=>
    have:(P.tb i).isSome=true:=by
     unfold Pgr.has at hh;rw [hw]at hh;simp only [Option.isSome_none,Bool.false_or,Bool.and_eq_true]at hh;exact hh.1
    obtain⟨⟨p,l⟩,hpl⟩:=Option.isSome_iff_exists.1 this;obtain⟨_,h2,h3,_⟩:=HT0.out.pr.stored i p l hpl;simp only [Option.getD_none];omega
  generalize (P.page c i).getD []=L at*;clear hpage hpg hh;go_wp2_with fail
  refine(zGc _ _ L w1 (by omega) HOB.out.bs).mono ?_;rintro e w2 ⟨hsome,hnone,hb2⟩;have HB2:=zz (HB1.out.later hb2);have HQ2:=zz (HQ1.out.trans (hb2.mono HQ1.out.size));have hz2:=hb2.size;have hlt2:w.heap.size<w2.heap.size:=by omega
  have hn1:¬w.heap.size=w2.heap.size:=by omega
  have hn2:¬w2.heap.size=w.heap.size:=by omega
  have k0:w2.cell? ⟨w.heap.size,0,none⟩=some (.bool false):=HB2.out.cell 0;have k1:w2.cell? ⟨w.heap.size,1,none⟩=some (.int .i64 0):=HB2.out.cell 1;have k2:w2.cell? ⟨w.heap.size,2,none⟩=some (.slice none 0 0):=HB2.out.cell 2;have j0:=HB2.out.free 0;have j1:=HB2.out.free 1;have j2:=HB2.out.free 2;cases ho:z2g L with
  |none=>
   obtain rfl:=hnone ho;have HPG2:Hid (P.pg c i=none):=HPG.out.trans ho;have HPD:Hid (P.pgD c i=noPg):=by unfold Pgr.pgD;rw [Hid,HPG2.out];rfl
   clear hsome hnone hb2 ho;go_wp2_with fail
   exact bodyPost_ret (z0O rfl _ _ w.heap.size rfl ((HB2.out.put3 _ _ _).alloc _) z1r) rfl ⟨_,by rw [HPG2.out];rfl,by rw [HPD.out];exact PgIs.no _ _,(z0b HQ2.out (Nat.le_refl _) _ _ _).alloc (by simp;omega) _⟩
  |some x=>
   obtain⟨b,m,cs⟩:=x;obtain⟨v,rfl,A2,c2,rfl,hcs⟩:=hsome b m cs ho;have HPG2:Hid (P.pg c i=some (b,m,cs)):=HPG.out.trans ho;have HPD:Hid (P.pgD c i=(b,m,cs)):=by unfold Pgr.pgD;rw [Hid,HPG2.out];rfl
   have HCS:=zz hcs;clear hsome hnone hb2 ho hcs;go_wp2_with fail
   refine bodyPost_ret (z0O rfl _ _ w.heap.size rfl ((HB2.out.put3 _ _ _).alloc _) z1r) rfl ⟨_,by rw [HPG2.out];rfl,?_,(z0b HQ2.out (Nat.le_refl _) _ _ _).alloc (by simp;omega) _⟩;rw [HPD.out];refine⟨A2,c2,rfl,?_⟩;have h3:=Cs.put3 (L:=w1.heap.size) (B:=w.heap.size) HCS.out (fun b h=>h) hz1 (Nat.le_of_lt hz1) (.bool b) (.int .i64 (m:Int)) (.slice A2 cs.length c2);exact(Sl.alloc h3 (fun b h=>h.2) _).more fun b h=>⟨h.1,by simp at h ⊢;omega⟩
theorem zGE(x:Pag):(pgB x).length≤2048:=by
 by_cases h:POk x
 ·exact h.bytes.1
 ·unfold pgB;unfold POk at h;rw [if_neg h];simp
theorem z28(g:Nat)(Z:Pz)(P:Pgr)(c:Int→List UInt8)(i:Int)(S:Nat→Prop)(leaf:Bool)(n:Nat)(v0:Value)(cs:List Cel)(w:World)(ht:Tg w g Z P c)(hi:InI i)(hm:Mid cs)(hn:n≤1000000)(hr:Cs S w v0 cs):
 Calls Tryz.prog 118 #[.pointer (some ⟨g,0,none⟩),.int .i64 i,.agg #[.bool leaf,.int .i64 (n:Int),v0]] w fun e w'=>e= .returned (.tuple #[])∧z1i g Z (P.wp i (leaf,n,cs)) c w w':=by
 have HT:=zz ht;have HI:=zz hi;have HR:=zz hr.lt;obtain⟨A,c1,rfl,_⟩:=hr.at;have HQ0:=zz ((Below.refl w.heap.size w).alloc (Nat.le_refl _) (.cells #[.bool leaf,.int .i64 (n:Int),.slice A cs.length c1] 186));have hb0:Blk (w.alloc (.cells #[.bool leaf,.int .i64 (n:Int),.slice A cs.length c1] 186)) w.heap.size 186 #[.bool leaf,.int .i64 (n:Int),.slice A cs.length c1]:=Blk.new _ _ _;have HT0:=zz (ht.later HQ0.out);have HR0:=zz (HR.out.up HQ0.out);clear ht hi hr;have d0:(w.alloc (.cells #[.bool leaf,.int .i64 (n:Int),.slice A cs.length c1] 186)).cell? ⟨w.heap.size,0,none⟩=some (.bool leaf):=hb0.cell 0;have d1:(w.alloc (.cells #[.bool leaf,.int .i64 (n:Int),.slice A cs.length c1] 186)).cell? ⟨w.heap.size,1,none⟩=some (.int .i64 (n:Int)):=hb0.cell 1;have d2:(w.alloc (.cells #[.bool leaf,.int .i64 (n:Int),.slice A cs.length c1] 186)).cell? ⟨w.heap.size,2,none⟩=some (.slice A cs.length c1):=hb0.cell 2;clear hb0;go_enter Tryz.func118,Tryz.ntmps118
 generalize hW:w.alloc (.cells #[.bool leaf,.int .i64 (n:Int),.slice A cs.length c1] 186)=W at*;go_wp2_with fail
 refine(z77 _ leaf (n:Int) _ cs W HT0.out.bits (by omega) hm HR0.out).mono ?_;rintro e w1 ⟨hok,hno,hb1⟩;have HT1:=zz (HT0.out.later hb1);have HQ1:=zz (HQ0.out.trans (hb1.mono HQ0.out.size));have e0:w1.cell? ⟨g,0,none⟩=some (.pointer (some ⟨Z.g,0,none⟩)):=HT1.out.blk.cell 0;have HPB:Hid (pgB (leaf,n,cs)=if z10 (n:Int) cs=0 then z73 (pgF leaf (n:Int) cs)else []):=rfl;have HL:=zGE (leaf,n,cs);have HWP:Hid (P.wp i (leaf,n,cs)=P.write i (pgB (leaf,n,cs))):=rfl;generalize pgB (leaf,n,cs)=b at*;have fin:∀ (w2:World),z7t Z (P.write i b) w1 w2→z1i g Z (P.wp i (leaf,n,cs)) c w w2:=fun w2 hd=>by
  rw [HWP.out];exact⟨HT1.out.done hd (Kin.write P i b),(Ptp.below HQ1.out).trans hd.2⟩
 have FIN:=zz fin;clear fin;by_cases hc:z10 (n:Int) cs=0
 ·obtain⟨A2,k2,c2,rfl,hob⟩:=hok hc;rw [if_pos hc]at HPB;have HB:=HPB.out;subst HB;have HOB:=zz hob;clear hok hno hb1 hob hc;go_wp2_with fail
  refine(z5B Z P i _ _ _ w1 HT1.out.pg HI.out HOB.out.bs (by omega)).mono ?_;rintro e w2 ⟨rfl,hd⟩;go_wp2_with fail
  go_end0
  exact⟨rfl,FIN.out w2 hd⟩
 ·obtain rfl:=hno hc;rw [if_neg hc]at HPB;have HB:=HPB.out;subst HB;clear hok hno hb1 hc;go_wp2_with fail
  refine(z5B Z P i (fun _=>True) _ [] w1 HT1.out.pg HI.out (Bs.nilv _ _) (by simp)).mono ?_;rintro e w2 ⟨rfl,hd⟩;go_wp2_with fail
  go_end0
  exact⟨rfl,FIN.out w2 hd⟩
theorem z2w(g:Nat)(Z:Pz)(P:Pgr)(c:Int→List UInt8)(S:Nat→Prop)(leaf:Bool)(n:Nat)(v0:Value)(cs:List Cel)(w:World)(ht:Tg w g Z P c)(hm:Mid cs)(hn:n≤1000000)(hr:Cs S w v0 cs):
 Calls Tryz.prog 189 #[.pointer (some ⟨g,0,none⟩),.agg #[.bool leaf,.int .i64 (n:Int),v0]] w fun e w'=>e= .returned (.int .i64 ((P.al (leaf,n,cs)).2:Int))∧z1i g Z (P.al (leaf,n,cs)).1 c w w':=by
 have HT:=zz ht;have HR:=zz hr.lt;obtain⟨A,c1,rfl,_⟩:=hr.at;have HQ0:=zz ((Below.refl w.heap.size w).alloc (Nat.le_refl _) (.cells #[.bool leaf,.int .i64 (n:Int),.slice A cs.length c1] 186));have hb0:Blk (w.alloc (.cells #[.bool leaf,.int .i64 (n:Int),.slice A cs.length c1] 186)) w.heap.size 186 #[.bool leaf,.int .i64 (n:Int),.slice A cs.length c1]:=Blk.new _ _ _;have HT0:=zz (ht.later HQ0.out);have HR0:=zz (HR.out.up HQ0.out);clear ht hr;have d0:(w.alloc (.cells #[.bool leaf,.int .i64 (n:Int),.slice A cs.length c1] 186)).cell? ⟨w.heap.size,0,none⟩=some (.bool leaf):=hb0.cell 0;have d1:(w.alloc (.cells #[.bool leaf,.int .i64 (n:Int),.slice A cs.length c1] 186)).cell? ⟨w.heap.size,1,none⟩=some (.int .i64 (n:Int)):=hb0.cell 1;have d2:(w.alloc (.cells #[.bool leaf,.int .i64 (n:Int),.slice A cs.length c1] 186)).cell? ⟨w.heap.size,2,none⟩=some (.slice A cs.length c1):=hb0.cell 2;clear hb0;go_enter Tryz.func189,Tryz.ntmps189
 generalize hW:w.alloc (.cells #[.bool leaf,.int .i64 (n:Int),.slice A cs.length c1] 186)=W at*;go_wp2_with fail
 refine(z77 _ leaf (n:Int) _ cs W HT0.out.bits (by omega) hm HR0.out).mono ?_;rintro e w1 ⟨hok,hno,hb1⟩;have HT1:=zz (HT0.out.later hb1);have HQ1:=zz (HQ0.out.trans (hb1.mono HQ0.out.size));have e0:w1.cell? ⟨g,0,none⟩=some (.pointer (some ⟨Z.g,0,none⟩)):=HT1.out.blk.cell 0;have HPB:Hid (pgB (leaf,n,cs)=if z10 (n:Int) cs=0 then z73 (pgF leaf (n:Int) cs)else []):=rfl;have HL:=zGE (leaf,n,cs);have HWP:Hid (P.al (leaf,n,cs)=((P.alloc (pgB (leaf,n,cs))).1,(P.alloc (pgB (leaf,n,cs))).2.1)):=rfl;generalize pgB (leaf,n,cs)=b at*;have fin:∀ (w2:World),z7t Z (P.alloc b).1 w1 w2→z1i g Z (P.al (leaf,n,cs)).1 c w w2:=fun w2 hd=>by
  rw [HWP.out];exact⟨HT1.out.done hd (Kin.alloc P b),(Ptp.below HQ1.out).trans hd.2⟩
 have FIN:=zz fin;clear fin;by_cases hc:z10 (n:Int) cs=0
 ·obtain⟨A2,k2,c2,rfl,hob⟩:=hok hc;rw [if_pos hc]at HPB;have HB:=HPB.out;subst HB;have HOB:=zz hob;clear hok hno hb1 hob hc;go_wp2_with fail
  refine(z7i Z P _ _ _ w1 HT1.out.pg HOB.out.bs (by omega)).mono ?_;rintro e w2 ⟨rfl,hd⟩;go_wp2_with fail
  go_ret
  exact⟨by rw [HWP.out];rfl,FIN.out w2 hd⟩
 ·obtain rfl:=hno hc;rw [if_neg hc]at HPB;have HB:=HPB.out;subst HB;clear hok hno hb1 hc;go_wp2_with fail
  refine(z7i Z P (fun _=>True) _ [] w1 HT1.out.pg (Bs.nilv _ _) (by simp)).mono ?_;rintro e w2 ⟨rfl,hd⟩;go_wp2_with fail
  go_ret
  exact⟨by rw [HWP.out];rfl,FIN.out w2 hd⟩
theorem zDZ(S:Nat→Prop)(leaf:Bool)(n:Nat)(v0:Value)(cs:List Cel)(key:List UInt8)(w:World)(hl:cs.length≤100000)(hr:Cs S w v0 cs)(hri:RisesP cs):
 Calls Tryz.prog 132 #[.agg #[.bool leaf,.int .i64 (n:Int),v0],.string (st key)] w fun e w'=>e= .returned (.int .i64 (z21 cs key:Int))∧Below w.heap.size w w':=by
 have HR:=zz hr.lt;obtain⟨A,c1,rfl,_⟩:=hr.at;have HQ0:=zz ((Below.refl w.heap.size w).alloc (Nat.le_refl _) (.cells #[.bool leaf,.int .i64 (n:Int),.slice A cs.length c1] 186));have hb0:Blk (w.alloc (.cells #[.bool leaf,.int .i64 (n:Int),.slice A cs.length c1] 186)) w.heap.size 186 #[.bool leaf,.int .i64 (n:Int),.slice A cs.length c1]:=Blk.new _ _ _;have HR0:=zz (HR.out.up HQ0.out);clear hr;have d0:(w.alloc (.cells #[.bool leaf,.int .i64 (n:Int),.slice A cs.length c1] 186)).cell? ⟨w.heap.size,0,none⟩=some (.bool leaf):=hb0.cell 0;have d1:(w.alloc (.cells #[.bool leaf,.int .i64 (n:Int),.slice A cs.length c1] 186)).cell? ⟨w.heap.size,1,none⟩=some (.int .i64 (n:Int)):=hb0.cell 1;have d2:(w.alloc (.cells #[.bool leaf,.int .i64 (n:Int),.slice A cs.length c1] 186)).cell? ⟨w.heap.size,2,none⟩=some (.slice A cs.length c1):=hb0.cell 2;clear hb0;go_enter Tryz.func132,Tryz.ntmps132
 generalize hW:w.alloc (.cells #[.bool leaf,.int .i64 (n:Int),.slice A cs.length c1] 186)=W at*;go_wp2_with fail
 refine(z6q _ leaf (n:Int) _ cs key W (by omega) HR0.out hri).mono ?_;rintro e w1 ⟨rfl,hb1⟩;have HQ1:=zz (HQ0.out.trans (hb1.mono HQ0.out.size));have hK:=z1o cs key;have HBN:Hid (z21 cs key=if isK cs key then z0B cs key else z0B cs key-1):=rfl;generalize z0B cs key=K at*;clear hb1 hri;cases hk:isK cs key with
 |true=>
  rw [hk,if_pos rfl]at HBN;have h1:(if(K:Int)<0 then(0:Int)else(K:Int))=(K:Int):=if_neg (by omega);go_wp2_with fail
  go_ret
  exact⟨by rw [HBN.out];rfl,HQ1.out⟩
 |false=>
  rw [hk]at HBN;simp only [Bool.false_eq_true,if_false]at HBN;have h2:IntKind.i64.wrap ((K:Int)-1)=(K:Int)-1:=z1T (by omega) (by omega);go_wp2_with fail
  go_ret
  have h3:max ((K:Int)-1) 0=((K-1:Nat):Int):=by omega
  exact⟨by rw [HBN.out,←h3];rfl,HQ1.out⟩
def stC(s:TStp)(v:Value):List Value:= [.int .i64 s.id,.int .i64 (s.at_:Int),.bool s.pg.1,.int .i64 (s.pg.2.1:Int),v]
abbrev z9z:=List (TStp×Value)
def wsC(l:z9z):List Value:=l.flatMap fun x=>stC x.1 x.2
theorem zBU(a b:z9z):wsC (a++b)=wsC a++wsC b:=by simp [wsC]
theorem zFO(s:TStp)(v:Value):wsC [(s,v)]=stC s v:=by simp [wsC]
theorem zAS(l:z9z):(wsC l).length=l.length*5:=by
 induction l with
 |nil=>rfl
 |cons x l ih=>
  have e:wsC (x::l)=stC x.1 x.2++wsC l:=by simp [wsC]
  rw [e,List.length_append,ih,List.length_cons];simp [stC];omega
theorem z8m:Elem Tryz.prog 183 188 (.agg #[.int .i64 0,.int .i64 0,.bool false,.int .i64 0,.slice none 0 0]) 5 56:=Elem.mk' Tryz.underlying183 (by kernel_rfl) rfl (by omega)
theorem Sl.newb{S:Nat→Prop}(w:World)(e:TypeId)(cs:List Value){g:Nat}(hg:g=w.heap.size)(hS:S g):Sl S (w.alloc (.cells cs.toArray e)) cs.length (.slice (some ⟨g,0,none⟩) 1 1) 1 cs:=by
 subst hg;refine⟨by simp,_,1,rfl,by omega,by simp [maxLen],(fun h=>by cases h),fun _=>⟨_,0,rfl,hS,fun j u hu=> ?_⟩⟩;rw [Nat.zero_add];have:=(Blk.new w e cs.toArray).cell j;rw [this,List.getElem?_toArray];exact hu
structure Wy(w:World)(B:Nat)(v:Value)(l:z9z):Prop where
 own:w.ownsRow B 188 5 v l.length (wsC l)
 cs:∀x∈l,Cs (fun b=>B≤b∧b<w.heap.size∧v.ownBlock≠some b) w x.2 x.1.pg.2.2
structure Wsl(S:Nat→Prop)(w:World)(v:Value)(l:z9z):Prop where
 sl:Sl S w 5 v l.length (wsC l)
 cs:∀x∈l,Cs S w x.2 x.1.pg.2.2
section
variable {w w':World} {B:Nat} {v:Value} {l:z9z}
theorem z0y{e:TypeId}{size n:Nat}{xs:List Value}(h:w.ownsRow B e size v n xs)(hb:Below w.heap.size w w'):w'.ownsRow B e size v n xs:=by
 obtain⟨h1,h2⟩:=h;refine⟨h1,?_⟩;rcases h2 with h2|⟨g,cap,cur,hv,hg,hh,r⟩
 ·exact .inl h2
 ·exact .inr ⟨g,cap,cur,hv,hg,(hb.block g (lt_of_block hh)).trans hh,r⟩
theorem Wy.nil(w:World)(B:Nat):Wy w B (.slice none 0 0) []:=⟨World.ownsRow_nil w B _ 5,fun x hx=>by cases hx⟩
theorem Wy.later(h:Wy w B v l)(hb:Below w.heap.size w w'):Wy w' B v l:=
 ⟨z0y h.own hb,fun x hx=>(Sl.below (h.cs x hx) hb fun b h=>h.2.1).more fun b h=>⟨h.1,Nat.lt_of_lt_of_le h.2.1 hb.size,h.2.2⟩⟩
theorem Wy.push{w2:World}{v':Value}(h:Wy w B v l){s:TStp}{u:Value}(hown:w2.ownsRow B 188 5 v' (l.length+1) (wsC l++stC s u))(hg:w.grownBy w2 v.ownBlock)(hat:v'.ownBlock=v.ownBlock∨v'.ownBlock=some w.heap.size)
 (hu:Cs (fun b=>B≤b∧b<w.heap.size∧v.ownBlock≠some b) w u s.pg.2.2):Wy w2 B v' (l++ [(s,u)]):=by
 have keep:∀ {u:Value} {cs:List Cel},Cs (fun b=>B≤b∧b<w.heap.size∧v.ownBlock≠some b) w u cs→Cs (fun b=>B≤b∧b<w2.heap.size∧v'.ownBlock≠some b) w2 u cs:=fun h=>
  (Sl.grown h hg (fun b h=>h.2.1) (fun b h e=>h.2.2 e.symm)).more fun b h=>⟨h.1,Nat.lt_of_lt_of_le h.2.1 hg.size,fun e=>by
    rcases hat with h5|h5
    ·exact h.2.2 (h5▸e)
    ·rw [h5]at e;injection e with e
     have:=h.2.1;omega⟩
 refine⟨?_,fun x hx=> ?_⟩
 ·rw [List.length_append,zBU,zFO];exact hown
 ·rcases List.mem_append.1 hx with hx|hx
  ·exact keep (h.cs x hx)
  ·obtain rfl:=List.mem_singleton.1 hx;exact keep hu
theorem Wy.step{w0 w3:World}{v':Value}(h:Wy w w0.heap.size v l)(hB:Below w0.heap.size w0 w){o:Obj}{s:TStp}{u:Value}(hown:w3.ownsRow w0.heap.size 188 5 v' (l.length+1) (wsC l++stC s u))(hg:(w.alloc o).grownBy w3 v.ownBlock)
 (hat:v'.ownBlock=v.ownBlock∨v'.ownBlock=some (w.alloc o).heap.size) (hu:Cs (fun b=>w0.heap.size≤b∧b<w.heap.size∧v.ownBlock≠some b) w u s.pg.2.2):Wy w3 w0.heap.size v' (l++ [(s,u)])∧Below w0.heap.size w0 w3:=by
 have q:=(Below.refl w.heap.size w).alloc (Nat.le_refl _) o;have h2:=h.later q;have hB2:=hB.alloc hB.size o;refine⟨h2.push hown hg hat ((Sl.below hu q fun b h=>h.2.1).more fun b h=>⟨h.1,Nat.lt_of_lt_of_le h.2.1 q.size,h.2.2⟩),z02 hB2 h2.own hg hB2.size⟩
theorem Wy.wsl(h:Wy w B v l):Wsl (fun b=>B≤b∧b<w.heap.size) w v l:=⟨Sl.of_own (by omega) h.own,fun x hx=>(h.cs x hx).more fun b h=>⟨h.1,h.2.1⟩⟩
end
def sLen:Value→Nat| .slice _ n _=>n|_=>0
structure WaySt(w wr:World)(pf:Int→Pag)(key:List UInt8)(L:List TStp)(v:Value)(done:z9z)(rest:List TStp)(i:Int)(n:Nat):Prop where
 own:Wy wr w.heap.size v done
 way:z4T pf key n i=some rest
 all:done.map (·.1)++rest=L
 below:Below w.heap.size w wr
 ini:InI i
theorem zCF(v:List UInt8):InI (z11 v):=by
 rcases zDM v with h|h
 ·rw [h];unfold InI;omega
 ·unfold InI;omega
theorem z1c{x:Pag}(h:POk x):x.2.2.length≤1100∧x.2.1≤256:=by
 have h1:=zI3 (x:=x);have h2:=h.parts;omega
theorem Cs.get{S:Nat→Prop}{w:World}{b o c:Nat}{cs:List Cel}(h:Cs S w (.slice (some ⟨b,o,none⟩) cs.length c) cs){j:Nat}(hj:j<cs.length):
 w.cell? ⟨b,o+j*2,none⟩=some (.string (st cs[j].1))∧w.cell? ⟨b,o+j*2+1,none⟩=some (.string (st cs[j].2)):=by
 obtain⟨A,c',hv,_,_,_,hA⟩:=h.at;injection hv with hv _ _
 obtain⟨b',o',hb,_,hc⟩:=hA (by omega);rw [←hv]at hb;injection hb with hb
 injection hb with h1 h2
 subst h1 h2;exact hc j hj
theorem Cs.some{S:Nat→Prop}{w:World}{A:Option Addr}{n c:Nat}{cs:List Cel}(h:Cs S w (.slice A n c) cs)(h0:0<cs.length):∃b o,A=some ⟨b,o,none⟩:=by
 obtain⟨A',c',hv,_,_,_,hA⟩:=h.at;injection hv with hv _ _
 obtain⟨b',o',hb,_,hc⟩:=hA h0;exact⟨b',o',hv.trans hb⟩
theorem z2C{cs:List Cel}{j:Nat}(h:j<cs.length):cellAt cs j=cs[j]:=by
 unfold cellAt;rw [List.getElem?_eq_getElem h];rfl
def zJ1(L:List TStp)(w:World)(e:Ending)(w':World):Prop:=
 ∃A k c' ls,e= .returned (.slice A k c')∧Wsl (fun b=>w.heap.size≤b∧b<w'.heap.size) w' (.slice A k c') ls∧ls.map (·.1)=L∧Below w.heap.size w w'
theorem zBl(g:Nat)(Z:Pz)(P:Pgr)(c:Int→List UInt8)(key:List UInt8)(n0:Nat)(L:List TStp)(w:World)(ht:Tg w g Z P c)(hw:z4T (P.pgD c) key n0 0=some L)(hL:L.length≤100000):
 Calls Tryz.prog 99 #[.pointer (some ⟨g,0,none⟩),.string (st key)] w (zJ1 L w):=by
 have HT:=zz ht;have R0:Hid (WaySt w w (P.pgD c) key L (.slice none 0 0) [] L 0 n0):=⟨Wy.nil _ _,hw,rfl,Below.refl _ _,by unfold InI;omega⟩;clear ht hw;go_enter Tryz.func99,Tryz.ntmps99
 go_wp2_with fail
 go_loopw [5,6] (fun lv iv wr=>∃ (A:Option Addr) (k c':Nat) (done:z9z) (rest:List TStp) (i:Int) (n:Nat),lv= .slice A k c'∧iv= .int .i64 i∧Hid (WaySt w wr (P.pgD c) key L (.slice A k c') done rest i n)) (fun lv _ _=>L.length-sLen lv)
 case atStart=>exact⟨none,0,0,[],L,0,n0,rfl,rfl,R0⟩
 case round=>
  clear R0;obtain⟨A,k,c',done,rest,i,n,rfl,rfl,R⟩:=hrel;have HTR:=zz (HT.out.later R.out.below);have hk:k=done.length:=z0V R.out.own.own;subst hk;go_wp2_with fail
  refine(z6I g Z P c i wr HTR.out R.out.ini).mono ?_;rintro e w1 ⟨v,rfl,⟨A1,c1,rfl,hcs⟩,hb1⟩;have hok:=zDy P c i;have hlen:=z1c hok;have hstep:(((P.pgD c i).1=true∨(P.pgD c i).2.2= [])∧rest= [⟨i,0,P.pgD c i⟩])∨(¬ ((P.pgD c i).1=true∨(P.pgD c i).2.2= [])∧∃n' rest',z4T (P.pgD c) key n' (z11 (cellAt (P.pgD c i).2.2 (z21 (P.pgD c i).2.2 key)).2)=some rest'∧rest=⟨i,z21 (P.pgD c i).2.2 key,P.pgD c i⟩::rest'):=by
   have h:=R.out.way;rcases n with _|n
   ·cases h
   ·rw [z4T]at h
    split at h
    ·rename_i hc;injection h with h
     exact .inl ⟨hc,h.symm⟩
    ·rename_i hc;rw [Option.map_eq_some_iff]at h;obtain⟨r,h1,h2⟩:=h;exact .inr ⟨hc,n,r,h1,h2.symm⟩
  have HSTEP:=zz hstep;have HOK:=zz hok;have HI:=zz R.out.ini;have HQ1:=zz (R.out.below.trans (hb1.mono R.out.below.size));have HY1:=zz (R.out.own.later hb1);have HALL:=zz R.out.all;have hwr:=R.out.below.size;have HCS:Hid (Cs (fun b=>w.heap.size≤b∧b<w1.heap.size∧(Value.slice A done.length c').ownBlock≠some b) w1 (.slice A1 (P.pgD c i).2.2.length c1) (P.pgD c i).2.2):=hcs.more fun b h=>⟨by omega,h.2,fun e=>by have:=R.out.own.own.lt b e;omega⟩
  have hz1:=hb1.size;clear hok hstep hcs hb1 R HTR;have hdl:done.length≤L.length:=by rw [←HALL.out];simp
  generalize P.pgD c i=X at*;obtain⟨leaf,nx,cs⟩:=X;simp only at HCS hlen ⊢;have hb0:Blk (w1.alloc (.cells #[.bool leaf,.int .i64 (nx:Int),.slice A1 cs.length c1] 186)) w1.heap.size 186 #[.bool leaf,.int .i64 (nx:Int),.slice A1 cs.length c1]:=Blk.new _ _ _;have d0:(w1.alloc (.cells #[.bool leaf,.int .i64 (nx:Int),.slice A1 cs.length c1] 186)).cell? ⟨w1.heap.size,0,none⟩=some (.bool leaf):=hb0.cell 0;have d1:(w1.alloc (.cells #[.bool leaf,.int .i64 (nx:Int),.slice A1 cs.length c1] 186)).cell? ⟨w1.heap.size,1,none⟩=some (.int .i64 (nx:Int)):=hb0.cell 1;have d2:(w1.alloc (.cells #[.bool leaf,.int .i64 (nx:Int),.slice A1 cs.length c1] 186)).cell? ⟨w1.heap.size,2,none⟩=some (.slice A1 cs.length c1):=hb0.cell 2;have QA:=(Below.refl w1.heap.size w1).alloc (Nat.le_refl _) (.cells #[.bool leaf,.int .i64 (nx:Int),.slice A1 cs.length c1] 186);have HQA:=zz QA;have HB0:=zz hb0;have HYA:=zz (HY1.out.later QA);have HCSA:Hid (Cs (fun b=>w.heap.size≤b∧b<(w1.alloc (.cells #[.bool leaf,.int .i64 (nx:Int),.slice A1 cs.length c1] 186)).heap.size∧(Value.slice A done.length c').ownBlock≠some b) (w1.alloc (.cells #[.bool leaf,.int .i64 (nx:Int),.slice A1 cs.length c1] 186)) (.slice A1 cs.length c1) cs):=
   (Sl.below HCS.out QA fun b h=>h.2.1).more fun b h=>⟨h.1,by have:=h.2.1;simp;omega,h.2.2⟩
  have HQ2:=zz (HQ1.out.trans (QA.mono HQ1.out.size));clear hb0 QA HY1 HCS HQ1;by_cases hend:leaf=true∨cs= []
  ·have hrest:rest= [⟨i,0,(leaf,nx,cs)⟩]:=by
    rcases HSTEP.out with h|h
    ·exact h.2
    ·exact absurd hend h.1
   subst hrest;have HF:Hid (done.map (·.1)++ [⟨i,0,(leaf,nx,cs)⟩]=L):=HALL.out;clear HSTEP HALL;cases leaf with
   |true=>
    go_wp2_with (at_builtin;refine z05 _ rfl (.tmp 24) (.tmp 28) z8m rfl (z0y HYA.out.own ((Below.refl _ _).alloc (Nat.le_refl _) _)) (Sl.newb (S:=fun _=>True) _ _ (stC ⟨i,0,(true,nx,cs)⟩ (.slice A1 cs.length c1)) (by simp) trivial) rfl rfl (by intro y hy;simp [stC]at hy;rcases hy with rfl|rfl|rfl|rfl|rfl<;>rfl) (by simp only [maxLen];omega) (by omega) (by simp;omega) ?_;intro A3 k3 c3 w3 hown3 hg3 hat3)
    obtain⟨y1,y2⟩:=HYA.out.step HQ2.out hown3 hg3 hat3 HCSA.out;go_ret
    exact⟨A3,k3,c3,_,rfl,y1.wsl,by rw [←HF.out];simp,y2⟩
   |false=>
    have hcs0:cs= []:=hend.resolve_left (by simp);have hcl0:((cs.length:Int)==0)=true:=by rw [hcs0];rfl
    clear hcs0 hend;go_wp2_with (at_builtin;refine z05 _ rfl (.tmp 24) (.tmp 28) z8m rfl (z0y HYA.out.own ((Below.refl _ _).alloc (Nat.le_refl _) _)) (Sl.newb (S:=fun _=>True) _ _ (stC ⟨i,0,(false,nx,cs)⟩ (.slice A1 cs.length c1)) (by simp) trivial) rfl rfl (by intro y hy;simp [stC]at hy;rcases hy with rfl|rfl|rfl|rfl|rfl<;>rfl) (by simp only [maxLen];omega) (by omega) (by simp;omega) ?_;intro A3 k3 c3 w3 hown3 hg3 hat3)
    obtain⟨y1,y2⟩:=HYA.out.step HQ2.out hown3 hg3 hat3 HCSA.out;go_ret
    exact⟨A3,k3,c3,_,rfl,y1.wsl,by rw [←HF.out];simp,y2⟩
  ·obtain⟨n',rest',hwf,hrest⟩:∃n' rest',z4T (P.pgD c) key n' (z11 (cellAt cs (z21 cs key)).2)=some rest'∧rest=⟨i,z21 cs key,(leaf,nx,cs)⟩::rest':=by
    rcases HSTEP.out with h|h
    ·exact absurd h.1 hend
    ·exact h.2
   subst hrest;have HWF:=zz hwf;have HF:Hid (done.map (·.1)++⟨i,z21 cs key,(leaf,nx,cs)⟩::rest'=L):=HALL.out;have hlf:leaf=false:=by cases leaf with
    |true=>exact absurd (.inl rfl) hend
    |false=>rfl
   subst hlf;have hcl:0<cs.length:=List.length_pos_iff.2 fun e=>hend (.inr e)
   have hcl0:¬ (cs.length:Int)=0:=by omega
   clear HSTEP HALL hend hwf;go_wp2_with fail
   generalize hW1:w1.alloc (.cells #[.bool false,.int .i64 (nx:Int),.slice A1 cs.length c1] 186)=W1 at*;refine(zDZ _ false nx _ cs key W1 (by omega) HCSA.out HOK.out.asc.rises).mono ?_;rintro e w2 ⟨rfl,hb2⟩;have HY2:=zz (HYA.out.later hb2);have HQ3:=zz (HQ2.out.trans (hb2.mono HQ2.out.size));have HCS2:Hid (Cs (fun b=>w.heap.size≤b∧b<w2.heap.size∧(Value.slice A done.length c').ownBlock≠some b) w2 (.slice A1 cs.length c1) cs):=(Sl.below HCSA.out hb2 fun b h=>h.2.1).more fun b h=>⟨h.1,Nat.lt_of_lt_of_le h.2.1 hb2.size,h.2.2⟩
   have hb0:=HB0.out.later hb2;have d0:w2.cell? ⟨w1.heap.size,0,none⟩=some (.bool false):=hb0.cell 0;have d1:w2.cell? ⟨w1.heap.size,1,none⟩=some (.int .i64 (nx:Int)):=hb0.cell 1;have d2:w2.cell? ⟨w1.heap.size,2,none⟩=some (.slice A1 cs.length c1):=hb0.cell 2;have hz2:=hb0.lt;have HB2:=zz hb0;have hbn:z21 cs key<cs.length:=by
    have:=z1o cs key;unfold z21
    split
    ·rename_i h;exact z9p h
    ·omega
   clear hb0 hb2 HCSA HYA HQ2;generalize hN:z21 cs key=N at*;have hN0:(0:Int)≤(N:Int):=by omega
   have hN1:(N:Int)<(cs.length:Int):=by omega
   have hcell:=z2C hbn;have HCEL:=zz hcell;obtain⟨bb,oo,rfl⟩:=HCS2.out.some hcl;have hsm:=z1d none _ HOK.out.parts.2.1 _ (List.getElem_mem hbn);clear hcell;go_wp2_with (at_builtin;refine z05 _ rfl (.tmp 33) (.tmp 38) z8m rfl (z0y HY2.out.own ((Below.refl _ _).alloc (Nat.le_refl _) _)) (Sl.newb (S:=fun _=>True) _ _ (stC ⟨i,N,(false,nx,cs)⟩ (.slice (some ⟨bb,oo,none⟩) cs.length c1)) (by simp) trivial) rfl rfl (by intro y hy;simp [stC]at hy;rcases hy with rfl|rfl|rfl|rfl|rfl<;>rfl) (by simp only [maxLen];omega) (by omega) (by simp;omega) ?_;intro A3 k3 c3 w3 hown3 hg3 hat3;have hb3:=Blk.kept (HB2.out.alloc _) (z0y HY2.out.own ((Below.refl _ _).alloc (Nat.le_refl _) _)) hg3 (by decide);have e2:w3.cell? ⟨w1.heap.size,2,none⟩=some (.slice (some ⟨bb,oo,none⟩) cs.length c1):=hb3.cell 2;obtain⟨y1,y2⟩:=HY2.out.step HQ3.out hown3 hg3 hat3 HCS2.out;have hc3:=Cs.get (y1.cs (⟨i,N,(false,nx,cs)⟩,.slice (some ⟨bb,oo,none⟩) cs.length c1) (by simp)) hbn;have f1:=hc3.1;have f2:=hc3.2;have Y1:=zz y1;have Y2:=zz y2;clear hb3 y1 y2 hc3 hown3 hg3 hat3)
   refine(zDK _ _ w3 (by omega)).mono ?_;rintro e w4 ⟨rfl,hb4⟩;have R4:Hid (WaySt w w4 (P.pgD c) key L (.slice A3 k3 c3) (done++ [(⟨i,N,(false,nx,cs)⟩,.slice (some ⟨bb,oo,none⟩) cs.length c1)]) rest' (z11 cs[N].2) n'):=by
    refine⟨Y1.out.later hb4,?_,?_,Y2.out.trans (hb4.mono Y2.out.size),zCF _⟩
    ·have:=HWF.out;rw [HCEL.out]at this;exact this
    ·rw [List.map_append,List.append_assoc];exact HF.out
   obtain rfl:k3=done.length+1:=by have:=z0V R4.out.own.own;simpa using this
   have hll:done.length+1≤L.length:=by rw [←HF.out];simp
   clear hb4 Y1 Y2;go_wp2_with fail
   go_roundw
   case rel=>exact⟨A3,done.length+1,c3,_,rest',_,n',rfl,rfl,R4⟩
   case measure=>simp [sLen];omega
def zAo(x:Vsn):List Value:= [.int .u64 (x.t:Int),.string (st x.v),.bool x.gone]
def zEX(x:Vsn):Value:= .agg #[.int .u64 (x.t:Int),.string (st x.v),.bool x.gone]
def vsC(l:List Vsn):List Value:=l.flatMap zAo
theorem zF1(l:List Vsn):(vsC l).length=l.length*3:=by
 induction l with
 |nil=>rfl
 |cons a l ih=>
  show(zAo a++vsC l).length=_;rw [List.length_append,ih];simp only [zAo,List.length_cons,List.length_nil];omega
theorem zJS(a b:List Vsn):vsC (a++b)=vsC a++vsC b:=by simp [vsC]
theorem zD1(x:Vsn):vsC [x]=zAo x:=by simp [vsC]
theorem zJI(l:List Vsn):∀u∈vsC l,u.oneCell'=true:=by
 intro u hu;obtain⟨x,_,hx⟩:=List.mem_flatMap.1 hu;simp only [zAo,List.mem_cons,List.not_mem_nil,or_false]at hx;rcases hx with rfl|rfl|rfl<;>rfl
theorem zE5:∀ {l:List Vsn} {j:Nat} (h:j<l.length),(vsC l)[j*3]? =some (.int .u64 (l[j].t:Int))∧(vsC l)[j*3+1]? =some (.string (st l[j].v))∧(vsC l)[j*3+2]? =some (.bool l[j].gone)
 |a::l,0,h=>⟨rfl,rfl,rfl⟩
 |a::l,j+1,h=>by
  have ih:=zE5 (l:=l) (j:=j) (by simpa using h);have e:vsC (a::l)=zAo a++vsC l:=rfl;have e2:∀m,(vsC (a::l))[(j+1)*3+m]? =(vsC l)[j*3+m]? :=fun m=>by
   rw [e,List.getElem?_append_right (by simp only [zAo,List.length_cons,List.length_nil];omega)]
   congr 1
   simp only [zAo,List.length_cons,List.length_nil];omega
  have h0:=e2 0;simp only [Nat.add_zero]at h0;rw [h0,e2 1,e2 2];simpa using ih
def Vs(S:Nat→Prop)(w:World)(v:Value)(l:List Vsn):Prop:=Sl S w 3 v l.length (vsC l)
theorem Vs.lt{S:Nat→Prop}{w:World}{v:Value}{l:List Vsn}(h:Vs S w v l):Vs (fun b=>S b∧b<w.heap.size) w v l:=Sl.lt h (by omega)
theorem Vs.at{S:Nat→Prop}{w:World}{v:Value}{l:List Vsn}(h:Vs S w v l):∃A c,v= .slice A l.length c∧l.length≤c∧c≤maxLen∧(A=none→c=0)∧
 (0<l.length→∃b o,A=some ⟨b,o,none⟩∧S b∧∀j (hj:j<l.length),w.cell? ⟨b,o+j*3,none⟩=some (.int .u64 (l[j].t:Int))∧w.cell? ⟨b,o+j*3+1,none⟩=some (.string (st l[j].v))∧w.cell? ⟨b,o+j*3+2,none⟩=some (.bool l[j].gone)):=by
 obtain⟨h1,A,c,rfl,h2,h3,h4,h5⟩:=h;refine⟨A,c,rfl,h2,h3,h4,fun h0=> ?_⟩;obtain⟨b,o,rfl,hS,hc⟩:=h5 h0;refine⟨b,o,rfl,hS,fun j hj=> ?_⟩;have ha:=zE5 hj;exact⟨hc _ _ ha.1,hc _ _ ha.2.1,hc _ _ ha.2.2⟩
abbrev RwV:=List (Rw×Value)
def z5x(p:RwV):List Value:=p.flatMap fun x=> [.string (st x.1.k),x.2]
theorem zGW(a b:RwV):z5x (a++b)=z5x a++z5x b:=by simp [z5x]
theorem zBQ(r:Rw)(u:Value):z5x [(r,u)]= [.string (st r.k),u]:=by simp [z5x]
theorem zBt(p:RwV):(z5x p).length=p.length*2:=by
 induction p with
 |nil=>rfl
 |cons x l ih=>
  have e:z5x (x::l)= [.string (st x.1.k),x.2]++z5x l:=by simp [z5x]
  rw [e,List.length_append,ih,List.length_cons];simp;omega
theorem zBY:∀ {l:RwV} {j:Nat} (h:j<l.length),(z5x l)[j*2]? =some (.string (st l[j].1.k))∧(z5x l)[j*2+1]? =some l[j].2
 |a::l,0,h=>⟨rfl,rfl⟩
 |a::l,j+1,h=>by
  have ih:=zBY (l:=l) (j:=j) (by simpa using h);have e:z5x (a::l)= [.string (st a.1.k),a.2]++z5x l:=by simp [z5x]
  have e2:∀m,(z5x (a::l))[(j+1)*2+m]? =(z5x l)[j*2+m]? :=fun m=>by
   rw [e,List.getElem?_append_right (by simp only [List.length_cons,List.length_nil];omega)]
   congr 1
   simp only [List.length_cons,List.length_nil];omega
  have h0:=e2 0;simp only [Nat.add_zero]at h0;rw [h0,e2 1];simpa using ih
structure Rws(S:Nat→Prop)(w:World)(v:Value)(p:RwV):Prop where
 sl:Sl S w 2 v p.length (z5x p)
 vs:∀x∈p,Vs S w x.2 x.1.vs
section
variable {S S':Nat→Prop} {w w':World} {v:Value} {p:RwV} {B:Nat}
theorem Rws.more(h:Rws S w v p)(hS:∀b,S b→S' b):Rws S' w v p:=⟨h.sl.more hS,fun x hx=>(h.vs x hx).more hS⟩
theorem Rws.lt(h:Rws S w v p):Rws (fun b=>S b∧b<w.heap.size) w v p:=⟨h.sl.lt (by omega),fun x hx=>(h.vs x hx).lt⟩
theorem Rws.keep(h:Rws S w v p)(hk:∀b o,S b→w'.cell? ⟨b,o,none⟩=w.cell? ⟨b,o,none⟩):Rws S w' v p:=⟨h.sl.keep hk,fun x hx=>Sl.keep (h.vs x hx) hk⟩
theorem Rws.below(h:Rws S w v p)(hb:Below B w w')(hS:∀b,S b→b<B):Rws S w' v p:=h.keep fun b o hs=>hb.cell (p:=⟨b,o,none⟩) (hS b hs)
theorem Rws.later(h:Rws (fun b=>b<w.heap.size) w v p)(hb:Below w.heap.size w w'):Rws (fun b=>b<w'.heap.size) w' v p:=(h.below hb fun _ h=>h).more fun _ h=>Nat.lt_of_lt_of_le h hb.size
theorem Rws.at(h:Rws S w v p):∃A c,v= .slice A p.length c∧p.length≤c∧c≤maxLen∧(A=none→c=0)∧
 (0<p.length→∃b o,A=some ⟨b,o,none⟩∧S b∧∀j (hj:j<p.length),w.cell? ⟨b,o+j*2,none⟩=some (.string (st p[j].1.k))∧w.cell? ⟨b,o+j*2+1,none⟩=some p[j].2):=by
 obtain⟨h1,A,c,rfl,h2,h3,h4,h5⟩:=h.sl;refine⟨A,c,rfl,h2,h3,h4,fun h0=> ?_⟩;obtain⟨b,o,rfl,hS,hc⟩:=h5 h0;refine⟨b,o,rfl,hS,fun j hj=> ?_⟩;have ha:=zBY hj;exact⟨hc _ _ ha.1,hc _ _ ha.2⟩
structure Rwo(w:World)(B:Nat)(v:Value)(p:RwV):Prop where
 own:w.ownsRow B 46 2 v p.length (z5x p)
 vs:∀x∈p,Vs (fun b=>B≤b∧b<w.heap.size∧v.ownBlock≠some b) w x.2 x.1.vs
theorem Rwo.nil(w:World)(B:Nat):Rwo w B (.slice none 0 0) []:=⟨World.ownsRow_nil w B _ 2,fun x hx=>by cases hx⟩
theorem Rwo.later(h:Rwo w B v p)(hb:Below w.heap.size w w'):Rwo w' B v p:=
 ⟨z0y h.own hb,fun x hx=>(Sl.below (h.vs x hx) hb fun b h=>h.2.1).more fun b h=>⟨h.1,Nat.lt_of_lt_of_le h.2.1 hb.size,h.2.2⟩⟩
theorem Rwo.push{w2:World}{v':Value}(h:Rwo w B v p){r:Rw}{u:Value}(hown:w2.ownsRow B 46 2 v' (p.length+1) (z5x p++ [.string (st r.k),u]))(hg:w.grownBy w2 v.ownBlock)(hat:v'.ownBlock=v.ownBlock∨v'.ownBlock=some w.heap.size)
 (hu:Vs (fun b=>B≤b∧b<w.heap.size∧v.ownBlock≠some b) w u r.vs):Rwo w2 B v' (p++ [(r,u)]):=by
 have keep:∀ {u:Value} {l:List Vsn},Vs (fun b=>B≤b∧b<w.heap.size∧v.ownBlock≠some b) w u l→Vs (fun b=>B≤b∧b<w2.heap.size∧v'.ownBlock≠some b) w2 u l:=fun h=>
  (Sl.grown h hg (fun b h=>h.2.1) (fun b h e=>h.2.2 e.symm)).more fun b h=>⟨h.1,Nat.lt_of_lt_of_le h.2.1 hg.size,fun e=>by
    rcases hat with h5|h5
    ·exact h.2.2 (h5▸e)
    ·rw [h5]at e;injection e with e
     have:=h.2.1;omega⟩
 refine⟨?_,fun x hx=> ?_⟩
 ·rw [List.length_append,zGW,zBQ];exact hown
 ·rcases List.mem_append.1 hx with hx|hx
  ·exact keep (h.vs x hx)
  ·obtain rfl:=List.mem_singleton.1 hx;exact keep hu
theorem Rwo.step{w3:World}{v':Value}(h:Rwo w B v p)(hB:B≤w.heap.size){o:Obj}{r:Rw}{u:Value}(hown:w3.ownsRow B 46 2 v' (p.length+1) (z5x p++ [.string (st r.k),u]))(hg:(w.alloc o).grownBy w3 v.ownBlock)
 (hat:v'.ownBlock=v.ownBlock∨v'.ownBlock=some (w.alloc o).heap.size) (hu:Vs (fun b=>B≤b∧b<w.heap.size∧v.ownBlock≠some b) w u r.vs):Rwo w3 B v' (p++ [(r,u)]):=by
 have q:=(Below.refl w.heap.size w).alloc (Nat.le_refl _) o;exact(h.later q).push hown hg hat ((Sl.below hu q fun b h=>h.2.1).more fun b h=>⟨h.1,Nat.lt_of_lt_of_le h.2.1 q.size,h.2.2⟩)
theorem Rwo.rws(h:Rwo w B v p):Rws (fun b=>B≤b∧b<w.heap.size) w v p:=⟨Sl.of_own (by omega) h.own,fun x hx=>(h.vs x hx).more fun b h=>⟨h.1,h.2.1⟩⟩
theorem z9s{F:Nat→Prop}{e:TypeId}{size n:Nat}{xs:List Value}(h:w.ownsRow B e size v n xs)(ht:Turn F w w')(hF:∀g,v.ownBlock=some g→¬F g):w'.ownsRow B e size v n xs:=by
 have hlt:=h.lt;obtain⟨h1,h2⟩:=h;refine⟨h1,?_⟩;rcases h2 with h2|⟨g,cap,cur,hv,hg,hh,r⟩
 ·exact .inl h2
 ·refine .inr ⟨g,cap,cur,hv,hg,?_,r⟩;have hvb:v.ownBlock=some g:=by rw [hv];rfl
  exact(ht.block g (hlt g hvb).2 (hF g hvb)).trans hh
theorem Rwo.turn{F:Nat→Prop}(h:Rwo w B v p)(ht:Turn F w w')(hF:∀b,B≤b→b<w.heap.size→¬F b):Rwo w' B v p:=by
 have hs:=ht.size;refine⟨z9s h.own ht fun g hg=> ?_,fun x hx=>(Sl.keep (h.vs x hx) fun b o hb=>World.cell?_of_block (ht.block b hb.2.1 (hF b hb.1 hb.2.1))).more fun b hb=>⟨hb.1,by omega,hb.2.2⟩⟩;have:=h.own.lt g hg;exact hF g this.1 this.2
end
theorem zAp:Elem Tryz.prog 44 73 (.agg #[.int .u64 0,.string ⟨#[]⟩,.bool false]) 3 32:=Elem.mk' Tryz.underlying44 (by kernel_rfl) rfl (by omega)
theorem z74:Elem Tryz.prog 22 46 (.agg #[.string ⟨#[]⟩,.slice none 0 0]) 2 40:=Elem.mk' Tryz.underlying22 (by kernel_rfl) rfl (by omega)
end
end Go.Proofs.YtdkobefpnjbgnaaGreatDoor
