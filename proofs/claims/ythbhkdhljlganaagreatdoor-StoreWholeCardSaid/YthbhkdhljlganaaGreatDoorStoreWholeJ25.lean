/- Part 25. -/
import Derived.Test.YthbhkdhljlganaaGreatDoorStoreWholeJ11
import Derived.Test.YthbhkdhljlganaaGreatDoorStoreWholeJ24
namespace Go.Proofs.YthbhkdhljlganaaGreatDoor
set_option linter.unusedVariables false
set_option maxHeartbeats 16000000
set_option maxRecDepth 100000
section
open Go
theorem WfL.bounds{j:Nat}{l r:List (Kid j)}{lo':Key}{hi':Option Key}{k:Key}(h1:z1F l (some k)=some lo')(h2:WfL (Wf j) l (some k)):¬Lt k lo':=by
 cases l with
 |nil=>injection h1 with h1;subst h1;exact fun h=>h.irrefl
 |cons a l=>
  obtain⟨_,a2,a3⟩:=WfL.all (Wf.all j) (a::l) _ h2;obtain rfl:a.1=lo':=by injection h1
  exact(((a3 a.1 rfl).2 (a.1,z0D a.2.1) (by simp [z0C])).2 k rfl).not
theorem Cx.WfC.up{j D:Nat}{id:Nat}{l r:List (Kid j)}{k:Key}{up:Cx (j+1) D}{lo:Key}{hi:Option Key}(w:(Cx.step id l k r up).WfC lo hi):
 ∃lo' hi',up.WfC lo' hi'∧∀x,inB lo hi x→inB lo' hi' x:=by
 obtain⟨rfl,lo',hi',h1,rfl,h3,h4,h5,h6⟩:=w;refine⟨lo',hi',h1,fun x hx=>⟨z4h (WfL.bounds (r:=r) (hi':=hi') h3 h4) hx.1,fun y hy=> ?_⟩⟩;cases r with
 |nil=>exact hx.2 y hy
 |cons a r=>
  obtain⟨_,b2,b3⟩:=WfL.all (Wf.all j) (a::r) _ h6;exact(hx.2 a.1 rfl).trans (((b3 a.1 rfl).2 (a.1,z0D a.2.1) (by simp [z0C])).2 y hy)
theorem Cx.WfC.sides:∀ {j D:Nat} (cx:Cx j D) {lo:Key} {hi:Option Key} {key:Key},cx.WfC lo hi→inB lo hi key→(∀x∈cx.cl,Lt x.1 lo)∧∀x∈cx.cr,Lt key x.1
 |_,_,.top,lo,hi,key,w,hk=>⟨fun x hx=>(by cases hx),fun x hx=>(by cases hx)⟩
 |_,_,.step (j:=j) id l k r up,lo,hi,key,w,hk=>by
  obtain⟨lo',hi',h1,h2⟩:=w.up;obtain⟨s1,s2⟩:=Cx.WfC.sides up h1 (h2 key hk);obtain⟨rfl,lo'',hi'',g1,rfl,g3,g4,g5,g6⟩:=w;have hll:¬Lt lo lo'':=WfL.bounds (r:=r) (hi':=hi'') g3 g4;obtain⟨a1,_,a3⟩:=WfL.all (Wf.all j) l _ g4;obtain⟨b1,_,b3⟩:=WfL.all (Wf.all j) r _ g6;have hl:∀x∈z0e l,Lt x.1 lo:=by
   intro x hx;cases l with
   |nil=>simp [z0e]at hx
   |cons a l=>exact((a3 a.1 rfl).1 x hx).2 lo rfl
  refine⟨fun x hx=> ?_,fun x hx=> ?_⟩
  ·rcases List.mem_append.1 hx with hx|hx
   ·have hin:inB lo'' hi'' lo:=by
     refine⟨hll,fun y hy=> ?_⟩;cases r with
     |nil=>exact g5 y hy
     |cons a r=>exact(g5 a.1 rfl).trans (((WfL.all (Wf.all j) (a::r) _ g6).2.2 a.1 rfl).2 (a.1,z0D a.2.1) (by simp [z0C]) |>.2 y hy)
    obtain⟨t1,_⟩:=Cx.WfC.sides up g1 hin;exact z19 (t1 x hx) hll
   ·exact hl x hx
  ·rcases List.mem_append.1 hx with hx|hx
   ·cases r with
    |nil=>simp [z0e]at hx
    |cons a r=>exact z19 (hk.2 a.1 rfl) ((b3 a.1 rfl).1 x hx).1
   ·exact s2 x hx
structure At(Q:Prm)(T:(D:Nat)×Ct D)(key:Key){j D:Nat}(cx:Cx j D)(h:Nat)(t:Ct j):Prop where
 whole:T=⟨D,cx.plug h t⟩
 root:cx.root h
 wf:∃lo hi,cx.WfC lo hi∧Wf j lo hi t∧inB lo hi key
 cfl:cx.FlC Q
 fl:FlIn Q j t
 need:cx.need Q≤Ct.n j t
theorem z95{j:Nat}{ks:List (Kid j)}{i:Nat}(h:i<ks.length):(z0C ks)[i]? =some (ks[i].1,z0D ks[i].2.1):=by
 unfold z0C;rw [List.getElem?_map,List.getElem?_eq_getElem h];rfl
theorem zHA{j:Nat}{ks:List (Kid j)}{lo:Key}{hi:Option Key}{key:Key}(h1:z1F ks none=some lo)(h2:WfL (Wf j) ks hi)(hk:inB lo hi key):
 ∃l k r,ks=l++k::r∧z1w (z0C ks) key=l.length∧inB k.1 (z1F r hi) key:=by
 obtain⟨_,a2,a3⟩:=WfL.all (Wf.all j) ks hi h2;have hne:ks≠ []:=by rintro rfl;cases h1
 have hlen:=z2a ks;have hge:∀i,(hi:i<ks.length)→z03 (z0C ks) key≤i→¬Lt ks[i].1 key:=by
  intro i hi hf;have hm:(ks[i].1,z0D ks[i].2.1)∈(z0C ks).drop (z03 (z0C ks) key):=by
   rw [List.mem_drop_iff_getElem];refine⟨i-z03 (z0C ks) key,by rw [hlen];omega,?_⟩;simp only [z0C,List.getElem_map];have:z03 (List.map (fun k=>(k.1,z0D k.2.1)) ks) key+(i-z03 (List.map (fun k=>(k.1,z0D k.2.1)) ks) key)=i:=by
    have:z03 (z0C ks) key=z03 (List.map (fun k=>(k.1,z0D k.2.1)) ks) key:=rfl;omega
   simp only [this]
  exact z9V a2 hm
 have hltt:∀i,(hi:i<ks.length)→i<z03 (z0C ks) key→Lt ks[i].1 key:=by
  intro i hi hf;have hm:(ks[i].1,z0D ks[i].2.1)∈(z0C ks).take (z03 (z0C ks) key):=by
   rw [List.mem_take_iff_getElem];refine⟨i,by rw [hlen];omega,?_⟩;simp only [z0C,List.getElem_map]
  exact z7Q hm
 have hf0:z03 (z0C ks) key≤ks.length:=by rw [←hlen];exact z1W _ _
 have hk0:∀h0:0<ks.length,ks[0].1=lo:=by
  intro h0;cases ks with
  |nil=>simp at h0
  |cons a ks=>injection h1
 have hpos:0<ks.length:=List.length_pos_iff.2 hne;have cut:∀i,(hi:i<ks.length)→ks=ks.take i++ks[i]::ks.drop (i+1):=fun i hi=>by
  rw [←List.drop_eq_getElem_cons hi,List.take_append_drop]
 have hnx:∀i,z1F (ks.drop i) hi=if h:i<ks.length then some ks[i].1 else hi:=by
  intro i;by_cases h:i<ks.length
  ·rw [dif_pos h,List.drop_eq_getElem_cons h];rfl
  ·rw [dif_neg h,List.drop_eq_nil_of_le (by omega)];rfl
 unfold z1w;cases hh:isK (z0C ks) key with
 |true=>
  have hi0:=z7o hh;rw [hlen]at hi0;obtain⟨v,hv⟩:=zFG hh;have he:ks[z03 (z0C ks) key].1=key:=by
   rw [z95 hi0]at hv;injection hv with hv
   exact congrArg (·.1) hv
  refine⟨_,_,_,cut _ hi0,by simp;omega,?_⟩;refine⟨by rw [he];exact fun h=>h.irrefl,fun y hy=> ?_⟩;rw [hnx]at hy
  split at hy
  ·rename_i h5;injection hy with hy
   subst hy;have h6:∀ (i i':Nat) (h:i<ks.length) (h':i'<ks.length),i<i'→Lt ks[i].1 ks[i'].1:=fun i i' h h' hii=>by
    have:=List.pairwise_iff_getElem.1 a2 i i' (by rw [hlen];omega) (by rw [hlen];omega) hii;simpa [z0C]using this
   have h7:=h6 _ _ hi0 h5 (by omega);rw [he]at h7;exact h7
  ·exact hk.2 y hy
 |false=>
  simp only [Bool.false_eq_true,if_false];have h0:0<z03 (z0C ks) key:=by
   rcases Nat.eq_zero_or_pos (z03 (z0C ks) key)with h|h
   ·exfalso;have h5:=hge 0 hpos (by omega);rw [hk0 hpos]at h5;have e:lo=key:=by
     rcases zFS (a:=lo) (b:=key)with h6|h6|h6
     ·exact absurd h6 h5
     ·exact h6
     ·exact absurd h6 hk.1
    have h7:(z0C ks)[z03 (z0C ks) key]? =some (ks[0].1,z0D ks[0].2.1):=by
     rw [h];exact z95 hpos
    have:=zCo hh h7;exact this (by rw [hk0 hpos];exact e)
   ·exact h
  refine⟨_,_,_,cut (z03 (z0C ks) key-1) (by omega),by simp;omega,?_⟩;refine⟨(hltt _ (by omega) (by omega)).not,fun y hy=> ?_⟩;rw [show z03 (z0C ks) key-1+1=z03 (z0C ks) key by omega,hnx]at hy
  split at hy
  ·rename_i h5;injection hy with hy
   subst hy;have h6:=hge _ h5 (Nat.le_refl _);have h7:=z95 h5;have h8:=zCo hh h7;rcases zFS (a:=key) (b:=ks[z03 (z0C ks) key].1)with h9|h9|h9
   ·exact h9
   ·exact absurd h9.symm h8
   ·exact absurd h9 h6
  ·exact hk.2 y hy
theorem z2n{i:Nat}(h0:0<i)(h1:i<90):z0E (z0D i)=(i:Int):=by
 have:=z33 (x:=i) (by unfold U64;omega) [];rw [List.append_nil]at this;unfold z0E;rw [this];simp only;rw [if_neg (by omega)]
theorem At.down{Q:Prm}{T:(D:Nat)×Ct D}{key:Key}{j D:Nat}{cx:Cx (j+1) D}{h:Nat}{t:Ct (j+1)}(a:At Q T key cx h t)(hz:∀q∈Ct.subs (j+1) t,0<q.1):
 ∃ (l:List (Kid j)) (k:Key) (h':Nat) (t':Ct j) (r:List (Kid j)),t=(l++(k,(h',t'))::r:List (Kid j))∧z1w (z0C (j:=j) t) key=l.length∧At Q T key (Cx.step h l k r cx) h' t':=by
 obtain⟨lo,hi,w1,w2,w3⟩:=a.wf;obtain⟨w4,w5⟩:=w2;obtain⟨l,⟨k,h',t'⟩,r,e,e2,e3⟩:=zHA w4 w5 w3;have hfl:FlL Q (l++(k,(h',t'))::r):=by
  have:=a.fl;rw [e]at this;exact this
 rw [z4t,z0y]at hfl;have hn:=a.need;refine⟨l,k,h',t',r,e,e2,?_,⟨hz (h',Ct.page j t') ?_,a.root⟩,?_,⟨hfl.1,hfl.2.2,?_,a.cfl⟩,?_,?_⟩
 ·rw [a.whole,e];rfl
 ·rw [e];show _∈z0B (l++(k,(h',t'))::r);rw [z0z,z07];simp
 ·rw [e]at w5;rw [z37]at w5;refine⟨k,z1F r hi,⟨rfl,lo,hi,w1,rfl,?_,w5.1,w5.2.2.1,w5.2.2.2⟩,w5.2.1,e3⟩;rw [e,z28]at w4;exact w4
 ·rw [e]at hn;have:Ct.n (j+1) (l++(k,(h',t'))::r:List (Kid j))=l.length+1+r.length:=by
   show(l++(k,(h',t'))::r).length=_;rw [List.length_append,List.length_cons];omega
  omega
 ·exact((z1a Q j t').1 hfl.2.1).2
 ·exact((z1a Q j t').1 hfl.2.1).1
theorem zI0{Q:Prm}{T:(D:Nat)×Ct D}{key:Key}{pf:Int→Pag}:∀ {j D:Nat} {cx:Cx j D} {h:Nat} {t:Ct j},At Q T key cx h t→(∀q∈(h,Ct.page j t)::Ct.subs j t,pf (q.1:Int)=q.2)→(∀q∈Ct.subs j t,0<q.1∧q.1<90)→(0<j→0<Ct.n j t)→
 ∃w n cs h',∃cx':Cx 0 D,z38 pf key (j+1) (h:Int)=some w∧w.length=j+1∧w.reverse++cx.steps h=⟨(h':Int),0,(true,n,cs)⟩::cx'.steps h'∧At Q T key cx' h' (show Ct 0 from(n,cs))
 |0,D,cx,h,t,a,hp,hz,_=>by
  have e:pf (h:Int)=(true,t.1,t.2):=hp (h,Ct.page 0 t) (by simp);refine⟨[⟨(h:Int),0,(true,t.1,t.2)⟩],t.1,t.2,h,cx,?_,rfl,rfl,a⟩;rw [z38,e,if_pos (.inl rfl)]
 |j+1,D,cx,h,t,a,hp,hz,hn=>by
  obtain⟨l,k,h',t',r,e,e2,a'⟩:=a.down fun q hq=>(hz q hq).1
  have e3:pf (h:Int)=(false,0,z0C (j:=j) t):=hp (h,Ct.page (j+1) t) (by simp);have hsub:Ct.subs (j+1) t=z0B l++((h',Ct.page j t')::Ct.subs j t'++z0B r):=by
   rw [e];show z0B (l++(k,(h',t'))::r)=_;rw [z0z,z07]
  have hz':∀q∈(h',Ct.page j t')::Ct.subs j t',0<q.1∧q.1<90:=fun q hq=>hz q (by rw [hsub];simp only [List.mem_append];exact .inr (.inl hq))
  have hfl:=(z1a Q j t').2 ⟨a'.need,a'.fl⟩;have hlt:z0C (j:=j) t=z0C l++(k,z0D h')::z0C r:=by rw [e,z1n,z0w]
  have hne:¬ (z0C (j:=j) t= []):=by rw [hlt];simp
  have hc:z0E (cellAt (z0C (j:=j) t) (z1w (z0C (j:=j) t) key)).2=(h':Int):=by
   rw [e2,hlt];unfold cellAt;rw [List.getElem?_append_right (by rw [z2a];omega),z2a,Nat.sub_self];exact z2n (hz' (h',Ct.page j t') (by simp)).1 (hz' (h',Ct.page j t') (by simp)).2
  by_cases hn0:0<j∧¬0<Ct.n j t'
  ·exfalso;obtain⟨j',rfl⟩:∃j',j=j'+1:=⟨j-1,by omega⟩;obtain⟨lo,hi,_,w2,_⟩:=a'.wf;cases t' with
   |nil=>cases w2.1
   |cons x y=>exact hn0.2 (by simp [Ct.n])
  ·obtain⟨w,n,cs,h'',cx',i1,i2,i3,i4⟩:=zI0 a' (fun q hq=>hp q (List.mem_cons_of_mem _ (by rw [hsub];simp only [List.mem_append];exact .inr (.inl hq)))) (fun q hq=>hz' q (by simp [hq])) (fun h0=>by
    rcases Nat.eq_zero_or_pos (Ct.n j t')with h1|h1
    ·exact absurd ⟨h0,by omega⟩ hn0
    ·exact h1)
   refine⟨⟨(h:Int),l.length,z09 l k h' r⟩::w,n,cs,h'',cx',?_,by rw [List.length_cons,i2],?_,i4⟩
   ·rw [z38,e3];simp only [Bool.false_eq_true,false_or];rw [if_neg hne,hc,i1,e2];simp only [Option.map_some];rw [hlt];rfl
   ·rw [List.reverse_cons,List.append_assoc];exact i3
section
variable {Q:Prm} {P:Pgr} {c:Int→List UInt8} {D:Nat} {t:Ct D}
theorem Tree.zero(T:Tree Q P c D t):∀q∈Ct.subs D t,0<q.1∧q.1<90:=by
 intro q hq;have h1:=T.rep.rep.nodup;unfold z9q at h1;rw [List.map_cons,List.nodup_cons]at h1;refine⟨?_,T.rep.rep.lt q (by unfold z9q;simp [hq])⟩;rcases Nat.eq_zero_or_pos q.1 with h|h
 ·exact absurd (List.mem_map.2 ⟨q,hq,h⟩) h1.1
 ·exact h
theorem Tree.at0(T:Tree Q P c D t)(key:Key):At Q ⟨D,t⟩ key (Cx.top (D:=D)) 0 t:=
 ⟨rfl,rfl,⟨[],none,⟨rfl,rfl⟩,T.wf,⟨fun h=>by cases key<;>simp [Lt,z40]at h,fun y hy=>by cases hy⟩⟩,trivial,T.fl,T.root⟩
theorem Tree.way(T:Tree Q P c D t)(key:Key):∃w n cs h,∃cx:Cx 0 D,z38 (P.pgD c) key (D+1) 0=some w∧w.length=D+1∧w.reverse=⟨(h:Int),0,(true,n,cs)⟩::cx.steps h∧At Q ⟨D,t⟩ key cx h (show Ct 0 from(n,cs)):=by
 obtain⟨w,n,cs,h,cx,h1,h2,h3,h4⟩:=zI0 (pf:=P.pgD c) (T.at0 key) (fun q hq=>T.rep.pgD (p:=q.2) hq) T.zero (fun h0=>by
  have:=T.root;obtain⟨D',rfl⟩:∃D',D=D'+1:=⟨D-1,by omega⟩;simp only [z89]at this;omega)
 refine⟨w,n,cs,h,cx,h1,h2,?_,h4⟩;simpa [Cx.steps]using h3
theorem At.upi{key:Key}{cx:Cx 0 D}{h n:Nat}{cs:List Cel}(T:Tree Q P c D t)(a:At Q ⟨D,t⟩ key cx h (show Ct 0 from(n,cs))){cs':List Cel}(hb:Big Q.K (true,n,cs'))(hin:∀lo hi,inB lo hi key→(∀x∈cs,inB lo hi x.1)→∀x∈cs',inB lo hi x.1):
 UpI Q P c cx h (show Ct 0 from(n,cs')) (true,n,cs):=by
 have hw:t=cx.plug h (show Ct 0 from(n,cs)):=by
  have:=a.whole;exact eq_of_heq (Sigma.mk.inj this).2
 have hp:=z31 cx h (show Ct 0 from(n,cs)) a.root;rw [←hw]at hp;obtain⟨lo,hi,w1,w2,w3⟩:=a.wf;have hc:=(cx.FlC_iff Q).1 a.cfl;refine⟨⟨⟨a.root,⟨lo,hi,w1,hb.asc,hin lo hi w3 w2.2⟩,fun q hq=>T.ok q (hp.mem_iff.2 ?_),hb,?_,hc.1,trivial,fun q hq=>T.rep.rep.lt q (hp.mem_iff.2 ?_)⟩,hc.2⟩,T.rep.perm hp⟩
 ·rw [z9w,List.append_nil]at hq;simp [hq]
 ·have:=T.ch;rw [hw,z6C cx h _ a.root]at this;exact this
 ·rw [z9w,List.append_nil]at hq;simp [hq]
theorem At.cells{key:Key}{cx:Cx 0 D}{h n:Nat}{cs:List Cel}(a:At Q ⟨D,t⟩ key cx h (show Ct 0 from(n,cs))):
 Ct.cells D t=cx.cl++cs++cx.cr∧(∀x∈cx.cl,Lt x.1 key)∧∀x∈cx.cr,Lt key x.1:=by
 have hw:t=cx.plug h (show Ct 0 from(n,cs)):=by
  have:=a.whole;exact eq_of_heq (Sigma.mk.inj this).2
 obtain⟨lo,hi,w1,w2,w3⟩:=a.wf;obtain⟨s1,s2⟩:=Cx.WfC.sides cx w1 w3;refine⟨by rw [hw,z1y];rfl,fun x hx=>z19 (s1 x hx) w3.1,s2⟩
theorem At.sum{key:Key}{cx:Cx 0 D}{h n:Nat}{cs:List Cel}(a:At Q ⟨D,t⟩ key cx h (show Ct 0 from(n,cs)))(wt:Nat→Nat→Nat):wS wt D t=cx.wS wt+wt 0 cs.length:=by
 have hw:t=cx.plug h (show Ct 0 from(n,cs)):=by
  have:=a.whole;exact eq_of_heq (Sigma.mk.inj this).2
 rw [hw,z4K];rfl
theorem z4r{A B C:List Cel}{k:Key}(hA:∀x∈A,Lt x.1 k)(hC:∀x∈C,Lt k x.1):z03 (A++B++C) k=A.length+z03 B k:=by
 unfold z03;have h1:∀L:List Cel,((A++L).takeWhile fun c=>Op.bytesLess c.1 k).length=A.length+(L.takeWhile fun c=>Op.bytesLess c.1 k).length:=fun L=>by
  induction A with
  |nil=>simp
  |cons a A ih=>
   rw [List.cons_append,List.takeWhile_cons,if_pos (z2I.2 (hA a (by simp))),List.length_cons,List.length_cons,ih fun x hx=>hA x (by simp [hx])];omega
 rw [List.append_assoc,h1]
 congr 1
 induction B with
 |nil=>
  rw [List.nil_append];cases C with
  |nil=>rfl
  |cons x C=>
   rw [List.takeWhile_cons,if_neg]
   ·rfl
   ·rw [z2I];exact(hC x (by simp)).not
 |cons b B ih=>
  rw [List.cons_append,List.takeWhile_cons,List.takeWhile_cons]
  split
  ·rw [List.length_cons,List.length_cons,ih]
  ·rfl
theorem z5O{A B C:List Cel}{k:Key}(hA:∀x∈A,Lt x.1 k)(hC:∀x∈C,Lt k x.1):isK (A++B++C) k=isK B k:=by
 unfold isK;rw [z4r hA hC,List.append_assoc,List.getElem?_append_right (by omega),Nat.add_sub_cancel_left];rcases Nat.lt_or_ge (z03 B k) B.length with h|h
 ·rw [List.getElem?_append_left h]
 ·rw [List.getElem?_append_right h,List.getElem?_eq_none h];have:=z1W B k;rw [show z03 B k-B.length=0 by omega];cases C with
  |nil=>rfl
  |cons x C=>
   simp only [List.getElem?_cons_zero];exact beq_eq_false_iff_ne.2 fun e=>(hC x (by simp)).ne e.symm
theorem z8L{A B C:List Cel}{k:Key}(hA:∀x∈A,Lt x.1 k)(hC:∀x∈C,Lt k x.1):z2O (A++B++C) k=z2O B k:=by unfold z2O;rw [z5O hA hC]
theorem zDp{A B C:List Cel}{x:Cel}(hA:∀y∈A,Lt y.1 x.1)(hC:∀y∈C,Lt x.1 y.1):putC (A++B++C) x=A++putC B x++C:=by
 unfold putC;rw [z4r hA hC,z8L hA hC];have h1:=z1W B x.1;have h2:=z98 B x.1;rw [List.append_assoc,List.take_append,List.take_of_length_le (by omega),Nat.add_sub_cancel_left,List.take_append_of_le_length h1];rw [show A.length+z03 B x.1+z2O B x.1=A.length+(z03 B x.1+z2O B x.1) by omega,List.drop_append,List.drop_eq_nil_of_le (by omega),Nat.add_sub_cancel_left,List.drop_append_of_le_length h2];simp
theorem zDA{A B C:List Cel}{k:Key}(hA:∀y∈A,Lt y.1 k)(hC:∀y∈C,Lt k y.1):delC (A++B++C) k=A++delC B k++C:=by
 unfold delC;rw [z4r hA hC,z8L hA hC];have h1:=z1W B k;have h2:=z98 B k;rw [List.append_assoc,List.take_append,List.take_of_length_le (by omega),Nat.add_sub_cancel_left,List.take_append_of_le_length h1];rw [show A.length+z03 B k+z2O B k=A.length+(z03 B k+z2O B k) by omega,List.drop_append,List.drop_eq_nil_of_le (by omega),Nat.add_sub_cancel_left,List.drop_append_of_le_length h2];simp
theorem zFe(cs:List Cel)(x:Cel):cs.length≤(putC cs x).length:=by
 have:=z3w cs x;unfold z2O at this
 split at this<;>omega
theorem zFW(hQ:Q.Ok)(T:Tree Q P c D t){x:Cel}(hk:x.1.length≤Q.K)(hx:x.1.length+x.2.length≤480)(hf:1+(Ct.subs D t).length+D+3≤90):
 ∃w,z38 (P.pgD c) x.1 (D+1) 0=some w∧w.length=D+1∧(putT P w x).2=0∧Kin P (putT P w x).1∧
  ∃D' t',UpR Q (putT P w x).1 c D (putC (Ct.cells D t) x) (wS zEB D t) (wS wHi D t) (wS zDE D t) 2 (1+(Ct.subs D t).length+D+2) (Ct.n D t) D' t':=by
 obtain⟨w,n,cs,h,cx,h1,h2,h3,a⟩:=T.way x.1;have hpg:P.pages.length=1+(Ct.subs D t).length:=by rw [T.rep.len];unfold z9q;rw [List.length_cons];omega
 have e:putT P w x=(upP P (cx.steps h) (h:Int) (z1A (true,n,cs) x),0):=by
  unfold putT;rw [if_neg (by have:=hQ.K;omega),h3];simp only;rw [if_neg (by omega),if_neg (by omega)]
 have hleaf:POk (true,n,cs)∧KOk Q.K (true,n,cs):=by
  have hw:t=cx.plug h (show Ct 0 from(n,cs)):=eq_of_heq (Sigma.mk.inj a.whole).2;have hp:=z31 cx h (show Ct 0 from(n,cs)) a.root;rw [←hw]at hp;exact T.ok (h,(true,n,cs)) (hp.mem_iff.2 (List.mem_append_right _ (by exact List.mem_cons_self)))
 have hb0:=hleaf.1.big hleaf.2;have hz0:=hleaf.1.parts.2.2;have hb:=hb0.put (by omega) hx hk;have hz:szP (z1A (true,n,cs) x)≤2600:=by
  have h1:=hb.sz;have h2:=hb0.sz;have h3:=z7j cs x;have h4:=z2P hx;have h5:(z1A (true,n,cs) x).2.2=putC cs x:=rfl;have h6:((true,n,cs):Pag).2.2=cs:=rfl;rw [h5]at h1;rw [h6]at h2;omega
 have u:=a.upi T (cs':=putC cs x) hb fun lo hi h4 h5 y hy=>by
  rcases z6T hy with rfl|hy
  ·exact h4
  ·exact h5 y hy
 have hneed:cx.need Q≤Ct.n 0 (show Ct 0 from(n,putC cs x)):=Nat.le_trans a.need (zFe cs x);have hcnt:z2v cx h (show Ct 0 from(n,putC cs x))+cx.dep+2≤90:=by
  rw [←u.pages,hpg];have:=cx.depth;omega
 obtain⟨D',t',R,R2⟩:=zIa hQ cx h _ _ P u hneed hz hcnt;obtain⟨c1,c2,c3⟩:=a.cells;refine⟨w,h1,h2,by rw [e],by rw [e];exact Kin.up _ _ _ _,D',t',?_⟩;rw [e];have e2:putC (Ct.cells D t) x=cx.cl++putC cs x++cx.cr:=by rw [c1,zDp c2 c3]
 rw [e2,a.sum,a.sum,a.sum];have g0:∀n,zDE 0 n=0:=fun n=>rfl
 have hrn:1≤D→cx.rn (Ct.n 0 (show Ct 0 from(n,putC cs x)))=Ct.n D t:=fun h0=>by
  rw [eq_of_heq (Sigma.mk.inj a.whole).2,z6q];cases cx with
  |top=>omega
  |step=>rfl
 refine⟨R.tree,R.cells,R.d0,R.d1,R.low,fun hK=> ?_,R.d3,?_,fun h0=> ?_,fun h0=>⟨(R.rt1 h0).1,fun hK h1=> ?_⟩⟩
 rotate_left 2
 ·rcases Nat.eq_zero_or_pos D with h4|h4
  ·have h5:=cx.depth;have h6:=(R2 (by omega)).1 h0;have h7:=z3w cs x;have h8:Ct.n D t=cx.rn (Ct.n 0 (show Ct 0 from(n,cs))):=by rw [eq_of_heq (Sigma.mk.inj a.whole).2,z6q]
   have h9:cx.rn (Ct.n 0 (show Ct 0 from(n,cs)))=cs.length:=by
    cases cx with
    |top=>rfl
    |step id l k r up=>have:=up.depth;omega
   have h10:Ct.n 0 (show Ct 0 from(n,putC cs x))=(putC cs x).length:=rfl;omega
  ·have h5:=R.rt0 h0;rw [hrn h4]at h5;exact h5
 ·have h4:=(R.rt1 h0).2 hK h1;rw [hrn h1]at h4;exact h4
 ·have h4:=R.quo hK;have h5:wS zDE 0 (show Ct 0 from(n,putC cs x))=0:=rfl;have h6:wS wHi 0 (show Ct 0 from(n,putC cs x))=wHi 0 cs.length:=rfl;rw [g0];rw [h5,h6]at h4;exact h4
 ·have h4:=R.cnt;have h5:=cx.depth;rw [←u.pages,hpg]at h4;omega
end
def ctJ:(j:Nat)→Ct j→Ct j→Ct j
 |0,a,b=>(b.1,a.2++b.2)
 |j+1,a,b=>List.append (α:=Kid j) a b
theorem z2H(j:Nat)(a b:Ct j):Ct.page j (ctJ j a b)=zIx (Ct.page j a) (Ct.page j b):=by
 cases j with
 |zero=>rfl
 |succ j=>
  show(false,0,z0C (List.append a b))=(false,0,z0C (j:=j) a++z0C (j:=j) b);rw [←z1n];rfl
theorem z6H(j:Nat)(a b:Ct j):Ct.subs j (ctJ j a b)=Ct.subs j a++Ct.subs j b:=by
 cases j with
 |zero=>rfl
 |succ j=>exact z0z (j:=j) a b
theorem zGA(j:Nat)(a b:Ct j):Ct.cells j (ctJ j a b)=Ct.cells j a++Ct.cells j b:=by
 cases j with
 |zero=>rfl
 |succ j=>exact z1f (j:=j) a b
theorem ctJ_n(j:Nat)(a b:Ct j):Ct.n j (ctJ j a b)=Ct.n j a+Ct.n j b:=by
 cases j with
 |zero=>exact List.length_append
 |succ j=>exact List.length_append (α:=Kid j)
theorem zHB{Q:Prm}{j:Nat}{a b:Ct j}(ha:FlIn Q j a)(hb:FlIn Q j b):FlIn Q j (ctJ j a b):=by
 cases j with
 |zero=>trivial
 |succ j=>exact(z4t (j:=j)).2 ⟨ha,hb⟩
theorem ctJ_wf{j:Nat}{ka kb:Key}{hi:Option Key}{a b:Ct j}(ha:Wf j ka (some kb) a)(hb:Wf j kb hi b)(hh:∀y,hi=some y→Lt kb y)(hl:Lt ka kb):Wf j ka hi (ctJ j a b):=by
 cases j with
 |zero=>
  obtain⟨a1,a2⟩:=ha;obtain⟨b1,b2⟩:=hb;refine⟨?_,?_⟩
  ·show Asc (a.2++b.2);rw [z7q];exact⟨a1,b1,fun x hx y hy=>z19 ((a2 x hx).2 kb rfl) (b2 y hy).1⟩
  ·show ∀x∈a.2++b.2,inB ka hi x.1;intro x hx;rcases List.mem_append.1 hx with hx|hx
   ·exact⟨(a2 x hx).1,fun y hy=>((a2 x hx).2 kb rfl).trans (hh y hy)⟩
   ·exact⟨(z4h (b:=kb) hl.not (b2 x hx).1),(b2 x hx).2⟩
 |succ j=>
  obtain⟨a1,a2⟩:=ha;obtain⟨b1,b2⟩:=hb;have hn:∀e:Option Key,z1F (j:=j) b e=some kb:=fun e=>by
   cases b with
   |nil=>cases b1
   |cons x b=>exact b1
  refine⟨?_,?_⟩
  ·show z1F (j:=j) (List.append a b) none=some ka;have:=z28 (j:=j) a b none;refine this.trans ?_;cases a with
   |nil=>cases a1
   |cons x a=>exact a1
  ·show WfL (Wf j) (List.append a b) hi;refine(z37 (j:=j) a).2 ⟨?_,b2⟩;rw [hn];exact a2
theorem zEy{j:Nat}{a b:Ct j}{ia ib e:Nat}{A B:List (Nat×Nat)}:
 z8e (A++(Ct.lvs j ia a++Ct.lvs j ib b)++B) e→z8e (A++Ct.lvs j ia (ctJ j a b)++B) e:=by
 intro hc;cases j with
 |zero=>
  have e1:Ct.lvs 0 ia a++Ct.lvs 0 ib b= [(ia,a.1),(ib,b.1)]:=rfl;have e2:Ct.lvs 0 ia (ctJ 0 a b)= [(ia,b.1)]:=rfl;rw [e1]at hc;rw [e2];rw [List.append_assoc,z6O]at hc ⊢;exact⟨hc.1,hc.2.2⟩
 |succ j=>
  have e1:Ct.lvs (j+1) ia a++Ct.lvs (j+1) ib b=Ct.lvs (j+1) ia (ctJ (j+1) a b):=(z3j (j:=j) a b).symm;rw [←e1];exact hc
theorem zGz{A B:List Cel}{s:Cel}(h1:∀x∈A,Lt x.1 s.1)(h2:∀x∈B,Lt s.1 x.1):delC (A++s::B) s.1=A++B:=by
 have hf:z03 (A++s::B) s.1=A.length:=z7d h1 fun x hx=>by
  rcases List.mem_cons.1 hx with rfl|hx
  ·exact fun h=>h.irrefl
  ·exact(h2 x hx).not
 have hk:isK (A++s::B) s.1=true:=by
  unfold isK;rw [hf];simp
 rw [zCc hk,hf];simp
theorem Wf.first{j:Nat}{lo:Key}{hi:Option Key}{t:Ct (j+1)}(w:Wf (j+1) lo hi t):∃k r,t=(k::r:List (Kid j))∧k.1=lo:=by
 cases t with
 |nil=>cases w.1
 |cons k r=>exact⟨k,r,rfl,by have:=w.1;injection this⟩
theorem zDh{j:Nat}{lo:Key}{hi:Option Key}{t:Ct j}(w:Wf j lo hi t)(hl:(Ct.page j t).1=false):z9f (Ct.page j t) lo=Ct.page j t:=by
 cases j with
 |zero=>cases hl
 |succ j=>
  obtain⟨k,r,rfl,rfl⟩:=w.first;rfl
theorem z5F{cs:List Cel}{k:Key}{x:Cel}(h:x∈delC cs k):x∈cs:=by
 unfold delC at h;rcases List.mem_append.1 h with h|h
 ·exact List.mem_of_mem_take h
 ·exact List.mem_of_mem_drop h
theorem z6l(cs:List Cel)(k:Key):z08 (delC cs k)≤z08 cs∧(delC cs k).length≤cs.length:=by
 unfold delC;have e:cs=cs.take (z03 cs k)++cs.drop (z03 cs k):=(List.take_append_drop _ _).symm;have h1:z08 cs=z08 (cs.take (z03 cs k))+z08 (cs.drop (z03 cs k)):=by rw [←z0X,←e]
 have h2:z08 (cs.drop (z03 cs k+z2O cs k))≤z08 (cs.drop (z03 cs k)):=by
  rw [←List.drop_drop];generalize cs.drop (z03 cs k)=Y;have:z08 Y=z08 (Y.take (z2O cs k))+z08 (Y.drop (z2O cs k)):=by rw [←z0X,List.take_append_drop]
  omega
 refine⟨by rw [z0X];omega,?_⟩;rw [List.length_append,List.length_take,List.length_drop];omega
theorem zAH:∀ (n:Nat),∀a b:Nat,b<n→a≤b→(z0D a).length≤(z0D b).length
 |0,_,_,h,_=>by omega
 |n+1,a,b,hb,h=>by
  by_cases ha:a<128
  ·rw [z2g ha];have:=z1q b;simpa using this
  ·have hb2:¬b<128:=by omega
   rw [z4n ha,z4n hb2,List.length_cons,List.length_cons];have:=zAH n (a / 128) (b / 128) (by omega) (Nat.div_le_div_right h);omega
theorem zHT{leaf:Bool}{n:Nat}{a b:List Cel}(h:z08 a≤z08 b)(hl:a.length≤b.length)(leaf':Bool):szP (leaf,n,a)≤szP (leaf',n,b):=by
 unfold szP z2z;have:=zAH (b.length+1) a.length b.length (by omega) hl;simp only;omega
theorem POk.del{x:Pag}(h:POk x)(k:Key):POk (z47 x k)∧szP (z47 x k)≤szP x:=by
 have hs:szP (z47 x k)≤szP x:=zHT (z6l x.2.2 k).1 (z6l x.2.2 k).2 _;refine⟨POk.mk' h.parts.1 (z45 (h.asc.delC k) fun y hy=>z18 none _ h.parts.2.1 y (z5F hy)) ?_,hs⟩;have:=h.parts.2.2;omega
theorem KOk.del{K:Nat}{x:Pag}(h:KOk K x)(k:Key):KOk K (z47 x k):=⟨h.1,fun y hy=>h.2 y (z5F hy)⟩
def z5U(pf:Int→Pag)(n:Nat)(i:Nat):Prop:=∃w,z38 pf [] n (i:Int)=some w∧w.length=n
theorem zDr(cs:List Cel):z1w cs []=0:=by
 have h:z03 cs []=0:=by
  unfold z03;cases cs with
  |nil=>rfl
  |cons c cs=>
   rw [List.takeWhile_cons,if_neg]
   ·rfl
   ·cases c.1<;>simp [Op.bytesLess]
 unfold z1w;rw [h]
 split<;>rfl
theorem z51{pf:Int→Pag}{n i f:Nat}{k:Key}{rest:List Cel}(h:pf (i:Int)=(false,0,(k,z0D f)::rest))(hf:z5U pf n f)(h0:0<f)(h9:f<90):z5U pf (n+1) i:=by
 obtain⟨w,h1,h2⟩:=hf;refine⟨⟨(i:Int),0,(false,0,(k,z0D f)::rest)⟩::w,?_,by rw [List.length_cons,h2]⟩;rw [z38,h];simp only [Bool.false_eq_true,false_or];rw [if_neg (by simp),zDr];have:z0E (cellAt ((k,z0D f)::rest) 0).2=(f:Int):=z2n h0 h9;rw [this,h1];rfl
theorem zBv{Q:Prm}(hQ:Q.Ok){pf:Int→Pag}:∀ (j:Nat) (t:Ct j) (h:Nat),(∀q∈(h,Ct.page j t)::Ct.subs j t,pf (q.1:Int)=q.2)→(∀q∈Ct.subs j t,0<q.1∧q.1<90)→FlIn Q j t→(0<j→0<Ct.n j t)→z5U pf (j+1) h
 |0,t,h,hp,hz,hf,hn=>by
  have e:pf (h:Int)=(true,t.1,t.2):=hp (h,Ct.page 0 t) (by simp);refine⟨[⟨(h:Int),0,(true,t.1,t.2)⟩],?_,rfl⟩;rw [z38,e,if_pos (.inl rfl)]
 |j+1,t,h,hp,hz,hf,hn=>by
  obtain⟨⟨k,f,t'⟩,r,rfl⟩:∃k r,t=(k::r:List (Kid j)):=by
   cases t with
   |nil=>exact absurd (hn (by omega)) (by simp [Ct.n])
   |cons k r=>exact⟨k,r,rfl⟩
  have hs:Ct.subs (j+1) ((k,(f,t'))::r:List (Kid j))=(f,Ct.page j t')::Ct.subs j t'++z0B r:=z07 r (k,(f,t'));have hfl:=(z0y (j:=j)).1 hf;have h1:=(z1a Q j t').1 hfl.1;have hm:=z6p hQ j;refine z51 (n:=j+1) (f:=f) (k:=k) (rest:=z0C r) (hp (h,Ct.page (j+1) ((k,(f,t'))::r:List (Kid j))) List.mem_cons_self) ?_ (hz (f,Ct.page j t') (by rw [hs];simp)).1 (hz (f,Ct.page j t') (by rw [hs];simp)).2;exact zBv hQ j t' f (fun q hq=>hp q (List.mem_cons_of_mem _ (by rw [hs];exact List.mem_append_left _ hq))) (fun q hq=>hz q (by rw [hs];exact List.mem_append_left _ (List.mem_cons_of_mem _ hq))) h1.2 (fun _=>by omega)
def Cx.frames:{j D:Nat}→Cx j D→Nat→List (Nat×Pag)
 |_,_,.top,_=> []
 |_,_,.step id l k r up,h=>(id,z09 l k h r)::up.frames id
def Cx.sibs:{j D:Nat}→Cx j D→List (Nat×Pag)
 |_,_,.top=> []
 |_,_,.step _ l _ r up=>z0B l++z0B r++up.sibs
theorem Cx.pgs_perm:∀ {j D:Nat} (cx:Cx j D) (h:Nat),(cx.pgs h).Perm (cx.frames h++cx.sibs)
 |_,_,.top,h=>List.Perm.refl _
 |_,_,.step id l k r up,h=>by
  rw [z0S,Cx.frames,Cx.sibs];refine(List.Perm.append_left _ (Cx.pgs_perm up id)).trans (z0Z fun a=> ?_);simp only [List.count_cons,List.count_append,List.count_nil];omega
theorem Cx.zero_in:∀ {j D:Nat} (cx:Cx j D) (h:Nat),cx.root h→0<h→0∈(cx.frames h).map (·.1)
 |_,_,.top,h,hr,h0=>by have:h=0:=hr;omega
 |_,_,.step id l k r up,h,hr,h0=>by
  rw [Cx.frames,List.map_cons,List.mem_cons];rcases Nat.eq_zero_or_pos id with h1|h1
  ·exact .inl h1.symm
  ·exact .inr (Cx.zero_in up id hr.2 h1)
theorem zCX{j D:Nat}{cx:Cx j D}{h:Nat}{L:List (Nat×Pag)}(hr:cx.root h)(h0:0<h)(hn:((cx.pgs h++L).map (·.1)).Nodup):∀q,q∈cx.sibs∨q∈L→0<q.1:=by
 intro q hq;have hp:(cx.pgs h++L).Perm (cx.frames h++(cx.sibs++L)):=by
  rw [←List.append_assoc];exact List.Perm.append_right _ (cx.pgs_perm h)
 have hn:=(hp.map (·.1)).nodup hn;rw [List.map_append,List.nodup_append]at hn;have hz:=cx.zero_in h hr h0;have:=hn.2.2 0 hz q.1 (List.mem_map_of_mem (by simpa using hq));omega
theorem zG9{Q:Prm}(hQ:Q.Ok){pf:Int→Pag}:∀ {j D:Nat} (cx:Cx j D) (h:Nat),z5U pf (j+1) h→cx.root h→cx.FlC Q→h<90→(∀q∈cx.pgs h,pf (q.1:Int)=q.2)→(∀q∈cx.sibs,0<q.1∧q.1<90)→(∀q∈cx.frames h,q.1<90)→z5U pf (D+1) 0
 |_,_,.top,h,hl,hr,_,_,_,_,_=>by obtain rfl:h=0:=hr;exact hl
 |_,_,.step (j:=j) id l k r up,h,hl,hr,hf,h9,hp,hs,hfr=>by
  obtain⟨f1,f2,f3,f4⟩:=hf;have hid:id<90:=hfr (id,z09 l k h r) (by rw [Cx.frames];simp);refine zG9 hQ up id ?_ hr.2 f4 hid (fun q hq=>hp q (by rw [z0S];simp [hq])) (fun q hq=>hs q (by rw [Cx.sibs];simp [hq])) (fun q hq=>hfr q (by rw [Cx.frames];simp [hq]));have hpg:=hp (id,z09 l k h r) (by rw [z0S];simp);cases l with
  |nil=>exact z51 (k:=k) (rest:=z0C r) hpg hl hr.1 h9
  |cons a l=>
   have hin:∀q∈(a.2.1,Ct.page j a.2.2)::Ct.subs j a.2.2,q∈z0B (a::l):=fun q hq=>by rw [z07];exact List.mem_append_left _ hq
   have h1:=(z1a Q j a.2.2).1 (z0y.1 f1).1;have hm:=z6p hQ j;have hpos:=hs (a.2.1,Ct.page j a.2.2) (by rw [Cx.sibs];simp [hin (a.2.1,Ct.page j a.2.2) (by simp)]);refine z51 (f:=a.2.1) (k:=a.1) (rest:=z0C l++(k,z0D h)::z0C r) hpg ?_ hpos.1 hpos.2;exact zBv hQ j a.2.2 a.2.1 (fun q hq=>hp q (by rw [z0S];simp [hin q hq])) (fun q hq=>hs q (by rw [Cx.sibs];simp [hin q (by simp [hq])])) h1.2 (fun _=>by omega)
section
variable {Q:Prm} {P:Pgr} {c:Int→List UInt8} {j D:Nat} {h:Nat} {t:Ct j} {st:Pag}
theorem UpK.out{id:Nat}{l r:List (Kid j)}{k:Key}{up:Cx (j+1) D}(u:UpK Q (.step id l k r up) h t)(hok:szP (Ct.page j t)≤2048)(hfl:FlT Q j t)(h9:h<90):
 UpJ Q up id (show Ct (j+1)from(l++(k,(h,t))::r:List (Kid j)))∧Ct.page (j+1) (show Ct (j+1)from(l++(k,(h,t))::r:List (Kid j)))=z09 l k h r:=by
 obtain⟨lo,hi,w1,w2⟩:=u.wf;obtain⟨c1,c2,c4⟩:=u.cfk;obtain⟨c5,c6⟩:=(up.FlC_iff Q).1 c4;obtain⟨q1,lo',hi',q2,q3,q4,q5,q6,q7⟩:=w1;have hroot:=u.root;have hsub:Ct.subs (j+1) (show Ct (j+1)from(l++(k,(h,t))::r:List (Kid j)))=z0B l++((h,Ct.page j t)::Ct.subs j t++z0B r):=by
  show z0B (l++(k,(h,t))::r)=_;rw [z0z,z07]
 have hst:=u.ok (id,z09 l k h r) (by rw [z0S];simp);have hpg:Ct.page (j+1) (show Ct (j+1)from(l++(k,(h,t))::r:List (Kid j)))=z09 l k h r:=zAI l k h t r;refine⟨⟨⟨hroot.2,⟨lo',hi',q2,?_,?_⟩,?_,?_,?_,c5,?_,?_⟩,c6⟩,hpg⟩
 ·show z1F (l++(k,(h,t))::r) none=some lo';rw [z28];exact q4
 ·show WfL (Wf j) (l++(k,(h,t))::r) hi';rw [z37];subst q1 q3;exact⟨q5,w2,q6,q7⟩
 ·intro q hq;have old:∀q,q∈up.pgs id∨q∈z0B l∨q∈z0B r∨q∈Ct.subs j t→POk q.2∧KOk Q.K q.2:=fun q hq=>u.ok q (by rw [z0S];simp only [List.mem_append];rcases hq with hq|hq|hq|hq<;>simp [hq])
  rw [hsub]at hq;simp only [List.mem_append,List.mem_cons]at hq;rcases hq with hq|hq|(rfl|hq)|hq
  ·exact old q (.inl hq)
  ·exact old q (.inr (.inl hq))
  ·exact⟨u.big.ok hok,u.big.key⟩
  ·exact old q (.inr (.inr (.inr hq)))
  ·exact old q (.inr (.inr (.inl hq)))
 ·rw [hpg];exact hst.1.big hst.2
 ·have hch:=u.ch;rw [Cx.ll,Cx.lr]at hch;show z8e (up.ll++z4u (l++(k,(h,t))::r)++up.lr) 0;rw [z3j,z1R];simpa only [List.append_assoc]using hch
 ·show FlL Q (l++(k,(h,t))::r);rw [z4t,z0y];exact⟨c1,hfl,c2⟩
 ·intro q hq;have old:∀q,q∈up.pgs id∨q∈z0B l∨q∈z0B r∨q∈Ct.subs j t→q.1<90:=fun q hq=>u.i90 q (by rw [z0S];simp only [List.mem_append];rcases hq with hq|hq|hq|hq<;>simp [hq])
  rw [hsub]at hq;simp only [List.mem_append,List.mem_cons]at hq;rcases hq with hq|hq|(rfl|hq)|hq
  ·exact old q (.inl hq)
  ·exact old q (.inr (.inl hq))
  ·exact h9
  ·exact old q (.inr (.inr (.inr hq)))
  ·exact old q (.inr (.inr (.inl hq)))
theorem UpK.virt{id:Nat}{l r l' r':List (Kid j)}{k ka kb:Key}{up:Cx (j+1) D}{ia ib:Nat}{A B:Ct j}(u:UpK Q (.step id l k r up) h t)
 (hd:l++(k,(h,t))::r=l'++(ka,(ia,A))::(kb,(ib,B))::r') (ha0:0<ia) (hA:Big Q.K (Ct.page j A)) (hB:Big Q.K (Ct.page j B)) (hsz:szP (Ct.page j A)+szP (Ct.page j B)≤4600)
 (hfA:FlIn Q j A) (hfB:FlIn Q j B) (hfl':FlL Q l') (hfr':FlL Q r')
 (hin:∀q,q∈z0B l'∨q∈z0B r'∨q∈Ct.subs j A∨q∈Ct.subs j B→q∈z0B l∨q∈z0B r∨q∈Ct.subs j t):
 UpK Q (.step id l' ka r' up) ia (ctJ j A B)∧z47 (z09 l k h r) kb=z09 l' ka ia r'∧Lt ka kb∧(∃hi,Wf j kb hi B)∧(∃lo hi,(Cx.step id l' ka r' up).WfC lo hi∧Wf j lo hi (ctJ j A B)):=by
 obtain⟨lo,hi,w1,w2⟩:=u.wf;obtain⟨c1,c2,c4⟩:=u.cfk;obtain⟨q1,lo',hi',q2,q3,q4,q5,q6,q7⟩:=w1;have hroot:=u.root;have hall:z1F (l++(k,(h,t))::r) none=some lo'∧WfL (Wf j) (l++(k,(h,t))::r) hi':=by
  rw [z28,z37];subst q1 q3;exact⟨q4,q5,w2,q6,q7⟩
 rw [hd]at hall;obtain⟨g1,g2⟩:=hall;obtain⟨_,asc,_⟩:=WfL.all (Wf.all j) _ hi' g2;rw [z28]at g1;rw [z37]at g2;obtain⟨g3,g4,g5,g6,g7,g8⟩:=g2;have hlt:Lt ka kb:=g5 kb rfl;have hwJ:Wf j ka (z1F r' hi') (ctJ j A B):=ctJ_wf g4 g6 g7 hlt;have hwC:(Cx.step id l' ka r' up).WfC ka (z1F r' hi'):=⟨rfl,lo',hi',q2,rfl,g1,g3,fun y hy=>hlt.trans (g7 y hy),g8⟩;have hstep:z09 l k h r=(false,0,z0C l'++(ka,z0D ia)::(kb,z0D ib)::z0C r'):=by
  unfold z09;have e:z0C (l++(k,(h,t))::r)=z0C (l'++(ka,(ia,A))::(kb,(ib,B))::r'):=by rw [hd]
  rw [z1n,z0w,z1n,z0w,z0w]at e;rw [e]
 have hdel:z47 (z09 l k h r) kb=z09 l' ka ia r':=by
  rw [hstep];unfold z47 z09;rw [z1n,z0w,z0w]at asc;have e:z0C l'++(ka,z0D ia)::(kb,z0D ib)::z0C r'=(z0C l'++ [(ka,z0D ia)])++(kb,z0D ib)::z0C r':=by simp
  rw [e]at asc;rw [z7q]at asc;obtain⟨s1,s2,s3⟩:=asc;have:=zGz (A:=z0C l'++ [(ka,z0D ia)]) (B:=z0C r') (s:=(kb,z0D ib)) (fun x hx=>s3 x hx _ (by simp)) (List.pairwise_cons.1 s2).1;simp only [e];rw [this];simp
 have hst:=u.ok (id,z09 l k h r) (by rw [z0S];simp);refine⟨⟨⟨ha0,hroot.2⟩,⟨_,_,hwC,hwJ⟩,?_,?_,?_,⟨hfl',hfr',c4⟩,zHB hfA hfB,?_⟩,hdel,hlt,⟨_,g6⟩,_,_,hwC,hwJ⟩
 ·intro q hq;rw [z0S,z6H]at hq;have old:∀q,q∈z0B l∨q∈z0B r∨q∈Ct.subs j t→POk q.2∧KOk Q.K q.2:=fun q hq=>u.ok q (by rw [z0S];simp only [List.mem_append];rcases hq with hq|hq|hq<;>simp [hq])
  simp only [List.mem_append,List.mem_cons,List.not_mem_nil,or_false]at hq;rcases hq with((rfl|hq|hq)|hq)|hq|hq
  ·rw [←hdel];exact⟨(hst.1.del kb).1,hst.2.del kb⟩
  ·exact old q (hin q (.inl hq))
  ·exact old q (hin q (.inr (.inl hq)))
  ·exact u.ok q (by rw [z0S];simp [hq])
  ·exact old q (hin q (.inr (.inr (.inl hq))))
  ·exact old q (hin q (.inr (.inr (.inr hq))))
 ·rw [z2H];have asJ:=hwJ.keys;rw [z2H]at asJ;refine⟨hB.next,asJ.1,fun x hx=> ?_,⟨hB.key.1,fun x hx=> ?_⟩,?_⟩
  ·rcases List.mem_append.1 hx with hx|hx
   ·exact hA.small x hx
   ·exact hB.small x hx
  ·rcases List.mem_append.1 hx with hx|hx
   ·exact hA.key.2 x hx
   ·exact hB.key.2 x hx
  ·have h1:=hA.sz;have h2:=hB.sz;have h3:=z5K ((Ct.page j A).2.2++(Ct.page j B).2.2);rw [z0X]at h3;have h4:=z5h (n:=(Ct.page j B).2.1) (cs:=(Ct.page j A).2.2++(Ct.page j B).2.2) hB.next (by omega);rw [z0X]at h4;show z2z ((Ct.page j B).2.1:Int) ((Ct.page j A).2.2++(Ct.page j B).2.2)≤4600;omega
 ·have hch:=u.ch;rw [Cx.ll,Cx.lr]at hch ⊢;have e:up.ll++z4u l++Ct.lvs j h t++(z4u r++up.lr)=up.ll++z4u (l++(k,(h,t))::r)++up.lr:=by
   rw [z3j,z1R];simp only [List.append_assoc]
  rw [e,hd,z3j,z1R,z1R]at hch;have:=zEy (A:=up.ll++z4u l') (B:=z4u r'++up.lr) (e:=0) (ia:=ia) (ib:=ib) (a:=A) (b:=B) (by simpa only [List.append_assoc]using hch);simpa only [List.append_assoc]using this
 ·intro q hq;rw [z0S,z6H]at hq;have old:∀q,q∈z0B l∨q∈z0B r∨q∈Ct.subs j t→q.1<90:=fun q hq=>u.i90 q (by rw [z0S];simp only [List.mem_append];rcases hq with hq|hq|hq<;>simp [hq])
  simp only [List.mem_append,List.mem_cons,List.not_mem_nil,or_false]at hq;rcases hq with((rfl|hq|hq)|hq)|hq|hq
  ·exact u.i90 (id,z09 l k h r) (by rw [z0S];simp)
  ·exact old q (hin q (.inl hq))
  ·exact old q (hin q (.inr (.inl hq)))
  ·exact u.i90 q (by rw [z0S];simp [hq])
  ·exact old q (hin q (.inr (.inr (.inl hq))))
  ·exact old q (hin q (.inr (.inr (.inr hq))))
end
section
variable {Q:Prm} {P:Pgr} {c:Int→List UInt8} {j D:Nat} {h:Nat} {t:Ct j} {st:Pag}
structure Pair{j:Nat}(l:List (Kid j))(k:Key)(h:Nat)(t:Ct j)(r l':List (Kid j))(ka:Key)(ia:Nat)(A:Ct j)(kb:Key)(ib:Nat)(B:Ct j)(r':List (Kid j)):Prop where
 hd:l++(k,(h,t))::r=l'++(ka,(ia,A))::(kb,(ib,B))::r'
 at_:l.length-1=l'.length
 or_:(l= []∧l'= []∧ka=k∧ia=h∧A=t∧r=(kb,(ib,B))::r')∨(l=l'++ [(ka,(ia,A))]∧kb=k∧ib=h∧B=t∧r=r')
theorem zEG{l:List (Kid j)}(k:Key)(h:Nat)(t:Ct j){r:List (Kid j)}(hn:2≤l.length+1+r.length):∃l' ka ia A kb ib B r',Pair l k h t r l' ka ia A kb ib B r':=by
 rcases List.eq_nil_or_concat l with rfl|⟨l',⟨ka,ia,A⟩,rfl⟩
 ·cases r with
  |nil=>simp at hn
  |cons b r'=>
   obtain⟨kb,ib,B⟩:=b;exact⟨[],k,h,t,kb,ib,B,r',rfl,rfl,.inl ⟨rfl,rfl,rfl,rfl,rfl,rfl⟩⟩
 ·refine⟨l',ka,ia,A,k,h,t,r,?_,?_,.inr ⟨List.concat_eq_append ..,rfl,rfl,rfl,rfl⟩⟩
  ·simp
  ·simp
theorem Pair.len{l r l' r':List (Kid j)}{k ka kb:Key}{ia ib:Nat}{A B:Ct j}(p:Pair l k h t r l' ka ia A kb ib B r'):l.length+1+r.length=l'.length+2+r'.length:=by
 have:=congrArg List.length p.hd;simp only [List.length_append,List.length_cons]at this;omega
theorem z8U{id:Nat}{l r l' r':List (Kid j)}{k ka kb:Key}{ia ib:Nat}{A B:Ct j}(p:Pair l k h t r l' ka ia A kb ib B r'):
 z09 l k h r=(false,0,z0C l'++(ka,z0D ia)::(kb,z0D ib)::z0C r'):=by
 unfold z09;have e:z0C (l++(k,(h,t))::r)=z0C (l'++(ka,(ia,A))::(kb,(ib,B))::r'):=by rw [p.hd]
 rw [z1n,z0w,z1n,z0w,z0w]at e;rw [e]
theorem z8t{A B:List Cel}{x:Cel}:cellAt (A++x::B) A.length=x:=by
 unfold cellAt;rw [List.getElem?_append_right (Nat.le_refl _),Nat.sub_self];rfl
theorem z7b{id:Nat}{l r l' r':List (Kid j)}{k ka kb:Key}{ia ib:Nat}{A B:Ct j}(p:Pair l k h t r l' ka ia A kb ib B r')(pf:Int→Pag)(ha:0<ia∧ia<90)(hb:0<ib∧ib<90)
 (hpa:l≠ []→pf (ia:Int)=Ct.page j A) (hpb:l= []→pf (ib:Int)=Ct.page j B) (hB:∃hi,Wf j kb hi B):
 lvA ⟨(id:Int),l.length,z09 l k h r⟩=(ia:Int)∧lvB ⟨(id:Int),l.length,z09 l k h r⟩=(ib:Int)∧lvK ⟨(id:Int),l.length,z09 l k h r⟩=kb∧
 z83 pf ⟨(id:Int),l.length,z09 l k h r⟩ (Ct.page j t)=Ct.page j (ctJ j A B):=by
 have hpg:=z8U (id:=id) p;have e1:cellAt (z09 l k h r).2.2 (l.length-1)=(ka,z0D ia):=by
  rw [hpg,p.at_,←z2a l'];exact z8t
 have e2:cellAt (z09 l k h r).2.2 (l.length-1+1)=(kb,z0D ib):=by
  rw [hpg,p.at_,←z2a l'];have:z0C l'++(ka,z0D ia)::(kb,z0D ib)::z0C r'=(z0C l'++ [(ka,z0D ia)])++(kb,z0D ib)::z0C r':=by simp
  have h2:(z0C l').length+1=(z0C l'++ [(ka,z0D ia)]).length:=by simp
  simp only [this,h2];exact z8t
 have a1:lvA ⟨(id:Int),l.length,z09 l k h r⟩=(ia:Int):=by unfold lvA;simp only;rw [e1];exact z2n ha.1 ha.2
 have a2:lvB ⟨(id:Int),l.length,z09 l k h r⟩=(ib:Int):=by unfold lvB;simp only;rw [e2];exact z2n hb.1 hb.2
 have a3:lvK ⟨(id:Int),l.length,z09 l k h r⟩=kb:=by unfold lvK;simp only;rw [e2]
 refine⟨a1,a2,a3,?_⟩;have a4:lvL pf ⟨(id:Int),l.length,z09 l k h r⟩ (Ct.page j t)=Ct.page j A:=by
  unfold lvL;rw [a1];rcases p.or_ with⟨rfl,_,_,_,rfl,_⟩|⟨rfl,_⟩
  ·rfl
  ·rw [if_neg (by simp)];exact hpa (by simp)
 have a5:zEe pf ⟨(id:Int),l.length,z09 l k h r⟩ (Ct.page j t)=Ct.page j B:=by
  unfold zEe;rw [a2];rcases p.or_ with⟨rfl,_,_,_,rfl,_⟩|⟨rfl,_,_,rfl,_⟩
  ·exact hpb rfl
  ·rw [if_neg (by simp)]
 obtain⟨hi,wB⟩:=hB;have hleaf:∀x:Ct j,(Ct.page j x).1=(Ct.page j t).1:=fun x=>by cases j<;>rfl
 unfold z83;rw [a4,z2H]
 congr 1
 unfold lvR;rw [a5,a3]
 split
 ·rfl
 ·rename_i hf;exact zDh wB (by rw [hleaf];simpa using hf)
structure DnI(Q:Prm)(P:Pgr)(c:Int→List UInt8){j D:Nat}(cx:Cx j D)(h:Nat)(t:Ct j)(st:Pag):Prop extends UpI Q P c cx h t st where
 left:z5U (P.pgD c) (j+1) h
 small:szP (Ct.page j t)≤2600
theorem UpI.left'(hQ:Q.Ok){cx:Cx (j+1) D}{t':Ct (j+1)}(u:UpI Q P c cx h t' st){k0 k1:Key}{f:Nat}{t0:Ct j}{rest:List (Kid j)}(e:t'=((k0,(f,t0))::rest:List (Kid j))){rest':List Cel}(e2:st=(false,0,(k1,z0D f)::rest'))(hpos:∀q∈Ct.subs (j+1) t',0<q.1):
 z5U (P.pgD c) (j+1+1) h:=by
 subst e2;have hs:Ct.subs (j+1) t'=(f,Ct.page j t0)::Ct.subs j t0++z0B rest:=by rw [e];exact z07 rest (k0,(f,t0))
 have hfl:FlL Q ((k0,(f,t0))::rest):=by have:=u.fl;rw [e]at this;exact this
 have h1:=(z1a Q j t0).1 (z0y.1 hfl).1;have hm:=z6p hQ j;have hin:∀q∈(f,Ct.page j t0)::Ct.subs j t0,q∈Ct.subs (j+1) t':=fun q hq=>by rw [hs];exact List.mem_append_left _ hq
 have h9:∀q∈Ct.subs (j+1) t',q.1<90:=fun q hq=>u.i90 q (List.mem_append_right _ hq)
 have hget:∀q∈Ct.subs (j+1) t',P.pgD c (q.1:Int)=q.2:=fun q hq=>u.rep.pgD (p:=q.2) (List.mem_append_right _ (List.mem_cons_of_mem _ hq))
 refine z51 (f:=f) (k:=k1) (rest:=rest') (u.rep.pgD (by simp)) ?_ (hpos _ (hin (f,Ct.page j t0) (by simp))) (h9 _ (hin (f,Ct.page j t0) (by simp)));exact zBv hQ j t0 f (fun q hq=>hget q (hin q hq)) (fun q hq=>⟨hpos q (hin q (by simp [hq])),h9 q (hin q (by simp [hq]))⟩) h1.2 (fun _=>by omega)
structure LvR(Q:Prm)(P:Pgr)(c:Int→List UInt8){j D:Nat}(id:Nat)(l:List (Kid j))(k:Key)(r:List (Kid j))(up:Cx (j+1) D)(h:Nat)(t:Ct j)(R:Pgr×Pag)(t':Ct (j+1)):Prop where
 page:R.2=Ct.page (j+1) t'
 dn:DnI Q R.1 c up id t' (z09 l k h r)
 cells:up.cl++Ct.cells (j+1) t'++up.cr=(Cx.step id l k r up).cl++Ct.cells j t++(Cx.step id l k r up).cr
 cases_:(szP R.2≤2048∧Ct.n (j+1) t'+1=l.length+1+r.length∧z2v up id t'+1=z2v (Cx.step id l k r up) h t)∨
  (szP R.2≤2048∧Ct.n (j+1) t'=l.length+1+r.length∧z2v up id t'=z2v (Cx.step id l k r up) h t)∨
  (2048<szP R.2∧Ct.n (j+1) t'=l.length+1+r.length∧z2v up id t'=z2v (Cx.step id l k r up) h t∧(z2v (Cx.step id l k r up) h t+D+3≤90∨(0<j∧Ct.n j t≤1)))
theorem zCf(hQ:Q.Ok){id:Nat}{l r:List (Kid j)}{k:Key}{up:Cx (j+1) D}(u:DnI Q P c (Cx.step id l k r up) h t st)(hs:szP (Ct.page j t)<512)(hn:z7s Q j≤Ct.n j t+1)
 (hreg:(Q.a=1∧Q.m=2)∨z2v (Cx.step id l k r up) h t+D+3≤90) (hD:D≤90):
 ∃t',LvR Q P c id l k r up h t (z0g P c ⟨(id:Int),l.length,z09 l k h r⟩ (h:Int) (Ct.page j t)) t':=by
 have hneed:up.need Q≤l.length+1+r.length:=u.cok;have hm2:=hQ.m2;have h2:2≤l.length+1+r.length:=by
  have:2≤up.need Q:=by
   cases up with
   |top=>exact Nat.le_refl 2
   |step=>exact hm2
  omega
 obtain⟨l',ka,ia,A,kb,ib,B,r',p⟩:=zEG k h t (l:=l) (r:=r) h2;have hlen:=p.len;have hnd:=u.rep.rep.nodup;have hroot:=u.root;have hpos:=zCX (cx:=Cx.step id l k r up) hroot hroot.1 hnd;have hcfk:=u.cfk;obtain⟨f1,f2,f3⟩:=hcfk;have hmin:=z6p hQ j;have hsib:∀q,q∈z0B l∨q∈z0B r→0<q.1∧q.1<90∧POk q.2∧KOk Q.K q.2∧P.pgD c (q.1:Int)=q.2:=fun q hq=>by
  have hq1:q∈(Cx.step id l k r up).pgs h:=by rw [z0S];simp only [List.mem_append];rcases hq with hq|hq<;>simp [hq]
  have hq2:q∈(Cx.step id l k r up).sibs:=by rw [Cx.sibs];simp only [List.mem_append];rcases hq with hq|hq<;>simp [hq]
  have:=u.ok q (List.mem_append_left _ hq1);exact⟨hpos q (.inl hq2),u.i90 q (List.mem_append_left _ hq1),this.1,this.2,u.rep.pgD (p:=q.2) (List.mem_append_left _ hq1)⟩
 have hh:0<h∧h<90:=⟨hroot.1,u.lt⟩;have hzt:0<szP (Ct.page j t):=by have:=zAl (x:=Ct.page j t);omega
 have hAB:(0<ia∧ia<90)∧(0<ib∧ib<90)∧(l≠ []→P.pgD c (ia:Int)=Ct.page j A)∧(l= []→P.pgD c (ib:Int)=Ct.page j B)∧Big Q.K (Ct.page j A)∧Big Q.K (Ct.page j B)∧
  szP (Ct.page j A)+szP (Ct.page j B)≤2560∧FlIn Q j A∧FlIn Q j B∧FlL Q l'∧FlL Q r'∧z7s Q j≤Ct.n j A+Ct.n j B∧
  (∀q,q∈z0B l'∨q∈z0B r'∨q∈Ct.subs j A∨q∈Ct.subs j B→q∈z0B l∨q∈z0B r∨q∈Ct.subs j t)∧
  (∃sa sb,((h,st)::(z0B l++z0B r++Ct.subs j t)).Perm ((ia,sa)::(ib,sb)::(z0B l'++z0B r'++(Ct.subs j A++Ct.subs j B))))∧1≤Ct.n j A+Ct.n j B:=by
  rcases p.or_ with⟨rfl,rfl,rfl,rfl,rfl,rfl⟩|⟨rfl,rfl,rfl,rfl,rfl⟩
  ·have hb:=hsib (ib,Ct.page j B) (.inr (by rw [z07];simp));have hf:=z0y.1 f2;have hfB:=(z1a Q j B).1 hf.1;refine⟨hh,⟨hb.1,hb.2.1⟩,fun h=>absurd rfl h,fun _=>hb.2.2.2.2,u.big,hb.2.2.1.big hb.2.2.2.1,by have:=hb.2.2.1.parts.2.2;simp only at this;omega,u.fl,hfB.2,f1,hf.2,by omega,?_,⟨st,Ct.page j B,?_⟩,by omega⟩
   ·intro q hq;rcases hq with hq|hq|hq|hq
    ·exact .inl hq
    ·exact .inr (.inl (by rw [z07];simp [hq]))
    ·exact .inr (.inr hq)
    ·exact .inr (.inl (by rw [z07];simp [hq]))
   ·rw [z07];refine z0Z fun a=> ?_
    simp only [List.count_cons,List.count_append];omega
  ·have ha:=hsib (ia,Ct.page j A) (.inl (by rw [z0z,z07];simp));have hf:=z4t.1 f1;have hfA:=(z1a Q j A).1 (z0y.1 hf.2).1;have hsl:z0B (l'++ [(ka,(ia,A))])=z0B l'++((ia,Ct.page j A)::Ct.subs j A):=by rw [z0z,z07];simp [z0B]
   refine⟨⟨ha.1,ha.2.1⟩,hh,fun _=>ha.2.2.2.2,fun h=>by simp at h,ha.2.2.1.big ha.2.2.2.1,u.big,by have:=ha.2.2.1.parts.2.2;simp only at this;omega,hfA.2,u.fl,hf.1,f2,by omega,?_,⟨Ct.page j A,st,?_⟩,by omega⟩
   ·intro q hq;rw [hsl];rcases hq with hq|hq|hq|hq
    ·exact .inl (by simp [hq])
    ·exact .inr (.inl hq)
    ·exact .inl (by simp [hq])
    ·exact .inr (.inr hq)
   ·rw [hsl];refine z0Z fun a=> ?_
    simp only [List.count_cons,List.count_append];omega
 obtain⟨ha,hb,hpa,hpb,bA,bB,hsz,fA,fB,fl',fr',hmn,hin,⟨sa,sb,hperm⟩,hone⟩:=hAB;obtain⟨v1,v2,v3,v4,lo,hi,v5,v6⟩:=u.toUpK.virt p.hd ha.1 bA bB (by omega) fA fB fl' fr' hin;obtain⟨r1,r2,r3,r4⟩:=z7b (id:=id) p (P.pgD c) ha hb hpa hpb v4;obtain⟨s,hsdef⟩:∃s:TStp,(⟨(id:Int),l.length,z09 l k h r⟩:TStp)=s:=⟨_,rfl⟩;have hspg:s.pg=z09 l k h r:=by rw [←hsdef]
 rw [hsdef]at r1 r2 r3 r4 ⊢;have rep1:RepP P c ((ia,sa)::(ib,sb)::((id,z09 l k h r)::up.pgs id++(z0B l'++z0B r'++Ct.subs j (ctJ j A B)))):=by
  refine u.rep.perm ?_;rw [z0S,z6H];refine List.Perm.trans (l₂:=((id,z09 l k h r)::up.pgs id)++((h,st)::(z0B l++z0B r++Ct.subs j t))) (z0Z fun a=>by simp only [List.count_cons,List.count_append,List.count_nil];omega) ?_;refine(List.Perm.append_left _ hperm).trans (z0Z fun a=>by simp only [List.count_cons,List.count_append];omega)
 have hst:=u.ok (id,z09 l k h r) (by rw [z0S];simp);have hcnt:z2v (Cx.step id l k r up) h t=3+(up.pgs id).length+(z0B l').length+(z0B r').length+(Ct.subs j (ctJ j A B)).length:=by
  have h1:=rep1.len;have h2:=u.toUpI.pages;rw [h1]at h2;rw [←h2];simp only [List.length_cons,List.length_append];omega
 have hcells:up.cl++(z0e l'++Ct.cells j (ctJ j A B)++z0e r')++up.cr=(Cx.step id l k r up).cl++Ct.cells j t++(Cx.step id l k r up).cr:=by
  rw [Cx.cl,Cx.cr,zGA];have e:z0e (l++(k,(h,t))::r)=z0e (l'++(ka,(ia,A))::(kb,(ib,B))::r'):=by rw [p.hd]
  rw [z1f,z0k,z1f,z0k,z0k]at e;have e2:up.cl++z0e l++Ct.cells j t++(z0e r++up.cr)=up.cl++(z0e l++(Ct.cells j t++z0e r))++up.cr:=by simp only [List.append_assoc]
  rw [e2,e];simp only [List.append_assoc]
 have hidp:∀q,q∈z0B l'∨q∈z0B r'∨q∈Ct.subs j (ctJ j A B)→0<q.1:=fun q hq=>by
  have:q∈z0B l∨q∈z0B r∨q∈Ct.subs j t:=by
   rw [z6H]at hq;refine hin q ?_;rcases hq with hq|hq|hq
   ·exact .inl hq
   ·exact .inr (.inl hq)
   ·rcases List.mem_append.1 hq with hq|hq
    ·exact .inr (.inr (.inl hq))
    ·exact .inr (.inr (.inr hq))
  rcases this with hq|hq|hq
  ·exact(hsib q (.inl hq)).1
  ·exact(hsib q (.inr hq)).1
  ·exact hpos q (.inr (by simp [hq]))
 have hfirst:∃k1 rest',z09 l k h r=(false,0,(k1,z0D (match l' with| []=>ia|a::_=>a.2.1))::rest'):=by
  rw [z8U (id:=id) p];cases l' with
  |nil=>exact⟨_,_,rfl⟩
  |cons a l'=>exact⟨_,_,rfl⟩
 obtain⟨k1,rest',hfst⟩:=hfirst;have hdep:depF (P.pgD c)=D+1:=by
  have hl:=zG9 hQ (pf:=P.pgD c) (Cx.step id l k r up) h u.left hroot u.cfl hh.2 (fun q hq=>u.rep.pgD (p:=q.2) (List.mem_append_left _ hq)) (fun q hq=>⟨hpos q (.inl hq),u.i90 q (List.mem_append_left _ (((Cx.pgs_perm _ h).mem_iff).2 (List.mem_append_right _ hq)))⟩)
   (fun q hq=>u.i90 q (List.mem_append_left _ (((Cx.pgs_perm _ h).mem_iff).2 (List.mem_append_left _ hq))))
  obtain⟨w,hw1,hw2⟩:=hl;have hD:D+1≤100:=by omega
  have:=z2i hw1 hD;unfold depF;have e0:((0:Nat):Int)=0:=rfl;rw [e0]at this;rw [this];exact hw2
 unfold z0g;by_cases hj:szP (z83 (P.pgD c) s (Ct.page j t))≤2048
 ·
  rw [if_pos hj];rw [r4]at hj ⊢;rw [r1,r2,r3,hspg,v2];have hfJ:FlT Q j (ctJ j A B):=by rw [z1a,ctJ_n];exact⟨hmn,v1.fl⟩
  obtain⟨o1,o2⟩:=v1.out hj hfJ ha.2;have okJ:=v1.big.ok hj;have rep2:RepP ((P.wp (ia:Int) (Ct.page j (ctJ j A B))).free (ib:Int)) c (up.pgs id++(id,z09 l k h r)::Ct.subs (j+1) (show Ct (j+1)from(l'++(ka,(ia,ctJ j A B))::r':List (Kid j)))):=by
   have hsub:Ct.subs (j+1) (show Ct (j+1)from(l'++(ka,(ia,ctJ j A B))::r':List (Kid j)))=z0B l'++((ia,Ct.page j (ctJ j A B))::Ct.subs j (ctJ j A B)++z0B r'):=by
    show z0B (l'++(ka,(ia,ctJ j A B))::r')=_;rw [z0z,z07]
   have q1:=rep1.wp okJ;have q2:=q1.perm (List.Perm.swap _ _ _);refine(q2.free).perm ?_;rw [hsub];refine z0Z fun a=> ?_
   simp only [List.count_cons,List.count_append];omega
  have uI:UpI Q ((P.wp (ia:Int) (Ct.page j (ctJ j A B))).free (ib:Int)) c up id (show Ct (j+1)from(l'++(ka,(ia,ctJ j A B))::r':List (Kid j))) (z09 l k h r):=⟨o1,rep2⟩;have hszp:szP (z09 l' ka ia r')≤2048:=by rw [←v2];exact Nat.le_trans (hst.1.del kb).2 hst.1.parts.2.2
  have hposJ:∀q∈Ct.subs (j+1) (show Ct (j+1)from(l'++(ka,(ia,ctJ j A B))::r':List (Kid j))),0<q.1:=by
   intro q hq;have hq:q∈z0B (l'++(ka,(ia,ctJ j A B))::r'):=hq;rw [z0z,z07]at hq;simp only [List.mem_append,List.mem_cons]at hq;rcases hq with hq|(rfl|hq)|hq
   ·exact hidp q (.inl hq)
   ·exact ha.1
   ·exact hidp q (.inr (.inr hq))
   ·exact hidp q (.inr (.inl hq))
  refine⟨_,o2.symm,⟨uI,?_,by rw [o2];omega⟩,?_,.inl ⟨hszp,?_,?_⟩⟩
  ·cases l' with
   |nil=>exact uI.left' hQ rfl hfst hposJ
   |cons a l'=>obtain⟨ak,ai,at'⟩:=a;exact uI.left' hQ rfl hfst hposJ
  ·show up.cl++z0e (l'++(ka,(ia,ctJ j A B))::r')++up.cr=_;rw [z1f,z0k,←hcells];simp only [List.append_assoc]
  ·show(l'++(ka,(ia,ctJ j A B))::r').length+1=_;rw [hlen,List.length_append,List.length_cons];omega
  ·rw [hcnt];unfold z2v;have hsub:Ct.subs (j+1) (show Ct (j+1)from(l'++(ka,(ia,ctJ j A B))::r':List (Kid j)))=z0B l'++((ia,Ct.page j (ctJ j A B))::Ct.subs j (ctJ j A B)++z0B r'):=by
    show z0B (l'++(ka,(ia,ctJ j A B))::r')=_;rw [z0z,z07]
   rw [hsub];simp only [List.length_append,List.length_cons];omega
 ·rw [if_neg hj];rw [r4]at hj;have hbig:2048<szP (Ct.page j (ctJ j A B)):=by omega
  have h26:szP (Ct.page j (ctJ j A B))≤2600:=by
   have h1:=bA.sz;have h2:=bB.sz;have h3:=v1.big.sz;rw [z2H]at h3 ⊢;have h4:z08 (zIx (Ct.page j A) (Ct.page j B)).2.2=z08 (Ct.page j A).2.2+z08 (Ct.page j B).2.2:=z0X _ _;omega
  obtain⟨m,hm⟩:∃m,z0c (Ct.page j (ctJ j A B)).2.2=m:=⟨_,rfl⟩;obtain⟨sk,H⟩:=z6W hQ v6 v1.big v1.one v1.fl hbig h26;rw [hm]at H;obtain⟨t1,t2,t3⟩:=v1.two hQ v5 H hb.2 ha.2;have hnat:(lvB s).toNat=ib:=by rw [r2];simp
  have eR:zBC (Ct.page j (ctJ j A B))=Ct.page j (ctR j (ctJ j A B) m):=by rw [z3f,←hm];rfl
  have ePar:zE8 (P.pgD c) s (Ct.page j t)=Ct.page (j+1) (z4v l' ka ia (ctJ j A B) r' ib m sk):=by
   unfold zE8;rw [r4,r3,hnat,hspg,v2,eR,←H.key ib,t1]
  have hpages:P.pages.length=z2v (Cx.step id l k r up) h t:=u.toUpI.pages;by_cases hstay:z7B P (P.pgD c) s (Ct.page j t)
  ·
   rw [if_pos hstay];obtain⟨y1,y2,y3⟩:=hstay;rw [hdep,hpages]at y2;have hQ12:Q.a=1∧Q.m=2:=by
    rcases hreg with h1|h1
    ·exact h1
    ·omega
   have hnt:z7s Q j≤Ct.n j t:=by
    have hnp:=Ct.n_page j t;cases j with
    |zero=>
     simp only [z7s,hQ12.1];rcases Nat.eq_zero_or_pos (Ct.n 0 t)with h0|h0
     ·exfalso;have het:(Ct.page 0 t).2.2= []:=List.eq_nil_of_length_eq_zero (by rw [hnp];exact h0);have hnext:∀x:Pag,KOk Q.K x→(z0D (x.2.1:Int).toNat).length=1:=fun x hx=>z5c (by have:=hx.1;omega)
      have key:∀X Y:Pag,KOk Q.K Y→szP Y≤2048→KOk Q.K X→z08 X.2.2=z08 Y.2.2→X.2.2.length=Y.2.2.length→szP X≤2048:=fun X Y hY hs hX hc hl=>by
       unfold szP z2z at hs ⊢;rw [hnext X hX,hc,hl];rw [hnext Y hY]at hs;omega
      have kJ:=v1.big.key;rcases p.or_ with⟨e1,e2,e3,e4,e5,e6⟩|⟨e1,e2,e3,e4,e5⟩
      ·have hb':=hsib (ib,Ct.page 0 B) (.inr (by rw [e6,z07];simp));have:=key _ _ hb'.2.2.2.1 hb'.2.2.1.parts.2.2 kJ (by rw [z2H];show z08 ((Ct.page 0 A).2.2++(Ct.page 0 B).2.2)=_;rw [e5,het];rfl) (by rw [z2H];show((Ct.page 0 A).2.2++(Ct.page 0 B).2.2).length=_;rw [e5,het];rfl);omega
      ·have ha':=hsib (ia,Ct.page 0 A) (.inl (by rw [e1,z0z,z07];simp));have:=key _ _ ha'.2.2.2.1 ha'.2.2.1.parts.2.2 kJ (by rw [z2H];show z08 ((Ct.page 0 A).2.2++(Ct.page 0 B).2.2)=_;rw [e4,het,List.append_nil]) (by rw [z2H];show((Ct.page 0 A).2.2++(Ct.page 0 B).2.2).length=_;rw [e4,het,List.append_nil]);omega
     ·exact h0
    |succ j=>
     simp only [z7s,hQ12.2];rcases y3 with y3|y3
     ·cases y3
     ·rw [hnp]at y3;omega
   have hfl:FlT Q j t:=by rw [z1a];exact⟨hnt,u.fl⟩
   obtain⟨o1,o2⟩:=u.toUpK.out (by omega) hfl hh.2;have okt:=u.big.ok (by omega:szP (Ct.page j t)≤2048);have hsub:Ct.subs (j+1) (show Ct (j+1)from(l++(k,(h,t))::r:List (Kid j)))=z0B l++((h,Ct.page j t)::Ct.subs j t++z0B r):=by
    show z0B (l++(k,(h,t))::r)=_;rw [z0z,z07]
   have rep2:RepP (P.wp (h:Int) (Ct.page j t)) c (up.pgs id++(id,z09 l k h r)::Ct.subs (j+1) (show Ct (j+1)from(l++(k,(h,t))::r:List (Kid j)))):=by
    have q1:RepP P c ((h,st)::((Cx.step id l k r up).pgs h++Ct.subs j t)):=u.rep.perm List.perm_middle;refine(q1.wp okt).perm ?_;rw [hsub,z0S];refine z0Z fun a=> ?_
    simp only [List.count_cons,List.count_append,List.count_nil];omega
   have uI:UpI Q (P.wp (h:Int) (Ct.page j t)) c up id (show Ct (j+1)from(l++(k,(h,t))::r:List (Kid j))) (z09 l k h r):=⟨o1,rep2⟩;have hposJ:∀q∈Ct.subs (j+1) (show Ct (j+1)from(l++(k,(h,t))::r:List (Kid j))),0<q.1:=by
    intro q hq;rw [hsub]at hq;simp only [List.mem_append,List.mem_cons]at hq;rcases hq with hq|(rfl|hq)|hq
    ·exact(hsib q (.inl hq)).1
    ·exact hh.1
    ·exact hpos q (.inr (by simp [hq]))
    ·exact(hsib q (.inr hq)).1
   refine⟨_,by rw [hspg];exact o2.symm,⟨uI,?_,by rw [o2];have:=hst.1.parts.2.2;simp only at this;omega⟩,?_,.inr (.inl ⟨by rw [hspg];exact hst.1.parts.2.2,?_,?_⟩)⟩
   ·cases l with
    |nil=>exact uI.left' hQ rfl rfl hposJ
    |cons a l=>obtain⟨ak,ai,at'⟩:=a;exact uI.left' hQ rfl rfl hposJ
   ·show up.cl++z0e (l++(k,(h,t))::r)++up.cr=_;rw [z1f,z0k,Cx.cl,Cx.cr];simp only [List.append_assoc]
   ·show(l++(k,(h,t))::r).length=_;rw [List.length_append,List.length_cons];omega
   ·unfold z2v;rw [hsub,z0S];simp only [List.length_append,List.length_cons,List.length_nil];omega
  ·
   rw [if_neg hstay];have eL:z4b (zB4 (Ct.page j (ctJ j A B))) (Ct.page j t).1 ib=Ct.page j (ctL j (ctJ j A B) m ib):=by
    have:(Ct.page j t).1=(Ct.page j (ctJ j A B)).1:=by cases j<;>rfl
    rw [this,z5I,←hm];rfl
   rw [r4,r1,hnat,r2,eR,eL,ePar];have rep2:RepP ((P.wp (ia:Int) (Ct.page j (ctL j (ctJ j A B) m ib))).wp (ib:Int) (Ct.page j (ctR j (ctJ j A B) m))) c (up.pgs id++(id,z09 l k h r)::Ct.subs (j+1) (z4v l' ka ia (ctJ j A B) r' ib m sk)):=by
    have q1:=rep1.wp (H.okL ib (by omega));have q2:=(q1.perm (List.Perm.swap _ _ _)).wp H.okR;refine q2.perm ?_;rw [z2q,←z3x j (ctJ j A B) m ib];refine z0Z fun a=> ?_
    simp only [List.count_cons,List.count_append];omega
   have uI:UpI Q ((P.wp (ia:Int) (Ct.page j (ctL j (ctJ j A B) m ib))).wp (ib:Int) (Ct.page j (ctR j (ctJ j A B) m))) c up id (z4v l' ka ia (ctJ j A B) r' ib m sk) (z09 l k h r):=⟨t2,rep2⟩;have hposJ:∀q∈Ct.subs (j+1) (z4v l' ka ia (ctJ j A B) r' ib m sk),0<q.1:=by
    intro q hq;rw [z2q]at hq;have hss:∀q,q∈Ct.subs j (ctL j (ctJ j A B) m ib)∨q∈Ct.subs j (ctR j (ctJ j A B) m)→q∈Ct.subs j (ctJ j A B):=fun q hq=>by rw [←z3x j (ctJ j A B) m ib];simpa using hq
    simp only [List.mem_append,List.mem_cons]at hq;rcases hq with hq|(rfl|hq)|(rfl|hq)|hq
    ·exact hidp q (.inl hq)
    ·exact ha.1
    ·exact hidp q (.inr (.inr (hss q (.inl hq))))
    ·exact hb.1
    ·exact hidp q (.inr (.inr (hss q (.inr hq))))
    ·exact hidp q (.inr (.inl hq))
   have hn2:Ct.n (j+1) (z4v l' ka ia (ctJ j A B) r' ib m sk)=l.length+1+r.length:=by rw [zFz,hlen];omega
   have hc2:z2v up id (z4v l' ka ia (ctJ j A B) r' ib m sk)=z2v (Cx.step id l k r up) h t:=by
    rw [hcnt];unfold z2v;rw [z2q,←z3x j (ctJ j A B) m ib];simp only [List.length_append,List.length_cons];omega
   refine⟨_,rfl,⟨uI,?_,t3⟩,?_,?_⟩
   ·cases l' with
    |nil=>exact uI.left' hQ rfl hfst hposJ
    |cons a l'=>obtain⟨ak,ai,at'⟩:=a;exact uI.left' hQ rfl hfst hposJ
   ·rw [z8S,←hcells]
   ·by_cases hz:szP (Ct.page (j+1) (z4v l' ka ia (ctJ j A B) r' ib m sk))≤2048
    ·exact .inr (.inl ⟨hz,hn2,hc2⟩)
    ·refine .inr (.inr ⟨by simp only;omega,hn2,hc2,?_⟩);by_cases hfew:z2v (Cx.step id l k r up) h t+D+3≤90
     ·exact .inl hfew
     ·right;have:¬ ((Ct.page j t).1=true∨1<(Ct.page j t).2.2.length):=fun h3=>hstay ⟨by rw [ePar];omega,by rw [hpages,hdep];omega,h3⟩
      rw [Ct.n_page]at this;refine⟨?_,by omega⟩;cases j with
      |zero=>exact absurd (.inl rfl) this
      |succ j=>omega
end
theorem Kin.level(P:Pgr)(c:Int→List UInt8)(s:TStp)(id:Int)(x:Pag):Kin P (z0g P c s id x).1:=by
 unfold z0g
 split
 ·exact(Kin.wp _ _ _).trans (Kin.free _ _)
 ·split
  ·exact Kin.wp _ _ _
  ·exact(Kin.wp _ _ _).trans (Kin.wp _ _ _)
theorem Kin.finP(P:Pgr)(c:Int→List UInt8)(id:Int)(x:Pag):Kin P (finP P c id x):=by
 unfold Go.Proofs.YthbhkdhljlganaaGreatDoor.finP
 split
 ·exact(Kin.free _ _).trans (Kin.wp _ _ _)
 ·exact Kin.wp _ _ _
theorem Kin.down(c:Int→List UInt8):∀ (ws:List TStp) (P:Pgr) (id:Int) (x:Pag),Kin P (z2x c P ws id x)
 | [],P,id,x=>by rw [z2x];exact Kin.finP _ _ _ _
 |s::r,P,id,x=>by
  rw [z2x]
  split
  ·split
   ·exact(Kin.level P c s id x).trans (Kin.up _ _ _ _)
   ·exact(Kin.level P c s id x).trans (Kin.down c r _ _ _)
  ·exact Kin.finP _ _ _ _
def zJS(Q:Prm)(D:Nat):Prop:=Q.a=1∧Q.m=2∧Q.K≤139∧D≤3
def z8B(D:Nat):Nat:=if D≤2 then 1 else 0
structure DnR(Q:Prm)(P':Pgr)(c:Int→List UInt8)(D:Nat)(cs:List Cel)(D':Nat)(t':Ct D'):Prop where
 tree:Tree Q P' c D' t'
 cells:Ct.cells D' t'=cs
 d0:D≤D'+1
 d1:D'≤D+1
 weak:zJS Q D→D'≤3∧1+(Ct.subs D' t').length+z8B D'≤90
section
variable {Q:Prm} {c:Int→List UInt8}
theorem zJ9(hQ:Q.Ok){P:Pgr}{j D:Nat}{cx:Cx (j+2) D}{h:Nat}{t:Ct (j+2)}{st:Pag}(hw:zJS Q D)(u:UpI Q P c cx h t st)(hn:cx.need Q≤Ct.n (j+2) t)(h26:szP (Ct.page (j+2) t)≤2600)(hs:2048<szP (Ct.page (j+2) t))(hf:z2v cx h t+z8B D+1≤90):
 ∃D' t',DnR Q (upP P (cx.steps h) (h:Int) (Ct.page (j+2) t)) c D (cx.cl++Ct.cells (j+2) t++cx.cr) D' t':=by
 obtain⟨w1,w2,w3,w4⟩:=hw;have no3:∀ {j D:Nat} {cx:Cx (j+3) D} {h:Nat} {t:Ct (j+3)} {st:Pag} {P:Pgr},UpI Q P c cx h t st→2048<szP (Ct.page (j+3) t)→szP (Ct.page (j+3) t)≤2600→False:=by
  intro j D cx h t st P u hs h26;obtain⟨lo,hi,_,v2⟩:=u.wf;obtain⟨s,H⟩:=z6W hQ v2 u.big u.one u.fl hs h26;obtain⟨k1,k2,k3⟩:=H.n7 (by omega) w3;have h1:=z6J hQ (j:=j+2) t u.fl (by omega);have e:(Ct.subs (j+3) t).length=(z0B t).length:=rfl;have e2:Ct.n (j+3) t=List.length t:=rfl;have h2:=u.rep.le90;rw [List.length_append,List.length_cons]at h2;omega
 rcases j with _|j
 ·cases cx with
  |top=>
   have hd:z8B (0+2)=1:=rfl;obtain⟨a,b,s,r1,lo,hi,H⟩:=u.rootS hQ hs h26 (by omega);have e0:h=0:=u.root;have e:upP P (Cx.steps (Cx.top (D:=0+2)) h) (h:Int) (Ct.page (0+2) t)=z9O P (Ct.page (0+2) t):=by rw [Cx.steps,upP,if_neg (by omega),if_pos (by omega)]
   rw [e];refine⟨_,_,r1,by rw [z8N];simp [Cx.cl,Cx.cr],by omega,by omega,fun _=>⟨by omega,?_⟩⟩;rw [zA7];have h1:z8B (0+2+1)=0:=rfl;unfold z2v at hf;have hf:0+1+(Ct.subs 2 t).length+1+1≤90:=hf;have h3:(Ct.subs (0+2) t).length=(Ct.subs 2 t).length:=rfl;have h4:z8B (0+2+1)=0:=rfl;omega
  |step id l k r up=>
   have e0:¬ (h:Int)=0:=by have:=u.root.1;omega
   have e:upP P (Cx.steps (Cx.step id l k r up) h) (h:Int) (Ct.page (0+2) t)=upP (z1o P (h:Int) (Ct.page (0+2) t) ⟨(id:Int),l.length,z09 l k h r⟩).1 (up.steps id) (id:Int) (z1o P (h:Int) (Ct.page (0+2) t) ⟨(id:Int),l.length,z09 l k h r⟩).2:=by
    rw [Cx.steps,upP,if_neg (by omega),if_neg e0]
   rw [e];obtain⟨o,s,e2,u2,⟨lo,hi,H⟩,z2,c2,n2⟩:=u.split hQ hs h26 (by omega);rw [e2];have hz:szP (Ct.page (0+2+1) (z4v l k h t r o (z0c (Ct.page (0+2) t).2.2) s))≤2048:=by
    rcases Nat.lt_or_ge 2048 (szP (Ct.page (0+2+1) (z4v l k h t r o (z0c (Ct.page (0+2) t).2.2) s)))with h1|h1
    ·exact absurd (no3 u2 h1 z2) (fun h=>h)
    ·exact h1
   have hD:=up.depth;have e3:upP (z1o P (h:Int) (Ct.page (0+2) t) ⟨(id:Int),l.length,z09 l k h r⟩).1 (up.steps id) (id:Int) (Ct.page (0+2+1) (z4v l k h t r o (z0c (Ct.page (0+2) t).2.2) s))=
    (z1o P (h:Int) (Ct.page (0+2) t) ⟨(id:Int),l.length,z09 l k h r⟩).1.wp (id:Int) (Ct.page (0+2+1) (z4v l k h t r o (z0c (Ct.page (0+2) t).2.2) s)):=by
    cases hst:up.steps id with
    |nil=>rw [upP,if_pos hz]
    |cons s r=>rw [upP,if_pos hz]
   rw [e3];refine⟨_,_,u2.fin n2 hz,?_,by omega,by omega,fun _=>⟨w4,?_⟩⟩
   ·rw [z1y,zCZ (id:=id)]
   ·rw [z5R _ _ _ u2.root,c2];have:z8B D=0:=by unfold z8B;rw [if_neg (by omega)]
    omega
 ·exact absurd (no3 (j:=j) u hs h26) fun h=>h
def Reg(Q:Prm){j D:Nat}(cx:Cx j D)(h:Nat)(t:Ct j):Prop:=
 z2v cx h t+D+3≤90∨(zJS Q D∧z2v cx h t+z8B D≤90∧(0<j→Ct.n j t<cx.need Q→z2v cx h t+z8B D+1≤90))
theorem zAE(hQ:Q.Ok){P:Pgr}{j D:Nat}{cx:Cx j D}{h:Nat}{t:Ct j}{st:Pag}(u:UpI Q P c cx h t st)(hs:512≤szP (Ct.page j t)):z7s Q j≤Ct.n j t:=by
 have hn:=Ct.n_page j t;have hz:=u.big.sz;cases j with
 |zero=>
  have h1:=z26 (M:=484) (cs:=(Ct.page 0 t).2.2) fun c hc=>z2P (u.big.small c hc)
  have h2:=hQ.a2;simp only [z7s];omega
 |succ j=>
  have hK:=hQ.K;have h1:=z26 (M:=Q.K+4) (cs:=(Ct.page (j+1) t).2.2) fun c hc=>by
   obtain⟨k,hk,rfl⟩:=List.mem_map.1 (show c∈z0C (j:=j) t from hc);exact z52 (u.big.key.2 _ hc) hK (u.i90 (k.2.1,Ct.page j k.2.2) (List.mem_append_right _ (zI8 (ks:=t) hk)))
  have h2:=hQ.low;simp only [z7s];rcases Nat.lt_or_ge (Ct.n (j+1) t) Q.m with h3|h3
  ·exfalso;have h4:(Ct.n (j+1) t+1)*(Q.K+4)≤Q.m*(Q.K+4):=Nat.mul_le_mul_right _ h3;rw [Nat.succ_mul]at h4;rw [hn,Nat.mul_comm]at h1;omega
  ·exact h3
theorem zBl(hQ:Q.Ok):∀ {j D:Nat} (cx:Cx j D) (h:Nat) (t:Ct j) (st:Pag) (P:Pgr),DnI Q P c cx h t st→szP (Ct.page j t)≤2048→cx.need Q≤Ct.n j t+1→Reg Q cx h t→D≤90→
 ∃D' t',DnR Q (z2x c P (cx.steps h) (h:Int) (Ct.page j t)) c D (cx.cl++Ct.cells j t++cx.cr) D' t'
 |j,_,.top,h,t,st,P,u,hs,hn,hreg,hD=>by
  have e:z2x c P (Cx.steps (Cx.top (D:=j)) h) (h:Int) (Ct.page j t)=finP P c (h:Int) (Ct.page j t):=by rw [Cx.steps,z2x]
  rw [e];obtain rfl:h=0:=u.root;have hcn:z2v (Cx.top (D:=j)) 0 t=1+(Ct.subs j t).length:=by unfold z2v;show 0+1+_=_;omega
  have hcells:Cx.cl (Cx.top (D:=j))++Ct.cells j t++Cx.cr (Cx.top (D:=j))=Ct.cells j t:=by simp [Cx.cl,Cx.cr]
  rw [hcells];by_cases hc:(Ct.page j t).1=false∧(Ct.page j t).2.2.length=1
  ·
   obtain⟨j',rfl⟩:∃j',j=j'+1:=by
    cases j with
    |zero=>cases hc.1
    |succ j=>exact⟨j,rfl⟩
   have h1:List.length (α:=Kid j') t=1:=by rw [←hc.2,Ct.n_page];rfl
   obtain⟨⟨k,i,t'⟩,ht⟩:∃x:Kid j',t=([x]:List (Kid j')):=List.length_eq_one_iff.1 h1;subst ht;have hsub:Ct.subs (j'+1) ([(k,(i,t'))]:List (Kid j'))=(i,Ct.page j' t')::Ct.subs j' t':=by
    show z0B [(k,(i,t'))]=_;rw [z07];simp [z0B]
   have rep:=u.rep;rw [hsub]at rep;have rep:RepP P c ((0,st)::(i,Ct.page j' t')::Ct.subs j' t'):=rep;have hnd:=rep.rep.nodup;have hi9:=rep.rep.lt (i,Ct.page j' t') (by simp);have hi0:0<i:=by
    rw [List.map_cons,List.nodup_cons]at hnd;rcases Nat.eq_zero_or_pos i with h1|h1
    ·exact absurd (by simp [h1]) hnd.1
    ·exact h1
   have hch:z0E (cellAt (Ct.page (j'+1) ([(k,(i,t'))]:List (Kid j'))).2.2 0).2=(i:Int):=z2n hi0 hi9;have hpg:P.pgD c (i:Int)=Ct.page j' t':=rep.pgD (by simp);have hok:=u.ok (i,Ct.page j' t') (by rw [hsub];simp);have e2:finP P c ((0:Nat):Int) (Ct.page (j'+1) ([(k,(i,t'))]:List (Kid j')))=(P.free (i:Int)).wp ((0:Nat):Int) (Ct.page j' t'):=by
    unfold finP;rw [if_pos ⟨rfl,hc⟩,hch,hpg]
   rw [e2];have q1:=(rep.perm (List.Perm.swap _ _ _)).free;have q2:=q1.wp hok.1;obtain⟨lo,hi,⟨rfl,rfl⟩,w2⟩:=u.wf;obtain⟨w3,w4,_,_⟩:=w2;obtain rfl:k= []:=by injection w3
   have hfl:FlT Q j' t':=(z0y (j:=j')).1 u.fl |>.1;have hf2:=(z1a Q j' t').1 hfl;have hm2:=hQ.m2;have T:Tree Q ((P.free (i:Int)).wp ((0:Nat):Int) (Ct.page j' t')) c j' t':=by
    refine⟨q2,w4,fun q hq=> ?_,?_,hf2.2,?_⟩
    ·rcases List.mem_cons.1 hq with rfl|hq
     ·exact hok
     ·exact u.ok q (by rw [hsub];simp [hq])
    ·have hch:=u.ch;simp only [Cx.ll,Cx.lr,List.nil_append,List.append_nil]at hch;have e3:Ct.lvs (j'+1) 0 ([([],(i,t'))]:List (Kid j'))=Ct.lvs j' i t':=by
      show z4u [([],(i,t'))]=_;rw [z1R];simp [z4u]
     rw [e3]at hch;exact zFu j' t' i 0 0 hch
    ·cases j' with
     |zero=>exact Nat.zero_le _
     |succ j'=>exact Nat.le_trans hm2 hf2.1
   refine⟨_,_,T,?_,by omega,by omega,fun hw=>⟨by have:=hw.2.2.2;omega,?_⟩⟩
   ·show _=z0e [([],(i,t'))];rw [z0k];simp [z0e]
   ·unfold Reg at hreg;rw [hcn,hsub,List.length_cons]at hreg;have h2:z8B j'≤1:=by unfold z8B;split<;>omega
    rcases hreg with h3|⟨_,h3,_⟩<;>omega
  ·have e2:finP P c ((0:Nat):Int) (Ct.page j t)=P.wp ((0:Nat):Int) (Ct.page j t):=by
    unfold finP;rw [if_neg (fun h=>hc h.2)]
   rw [e2];have hneed:Cx.need Q (Cx.top (D:=j))≤Ct.n j t:=by
    rw [Ct.n_page]at hc;show z89 j≤_;have hn:z89 j≤Ct.n j t+1:=hn;cases j with
    |zero=>exact Nat.zero_le _
    |succ j=>
     simp only [z89]at hn ⊢;have:¬Ct.n (j+1) t=1:=fun h=>hc ⟨rfl,h⟩
     omega
   refine⟨_,_,u.toUpI.fin hneed hs,?_,by omega,by omega,fun hw=>⟨hw.2.2.2,?_⟩⟩
   ·rw [z1y];simp [Cx.cl,Cx.cr]
   ·rw [z5R _ _ _ u.root];have h2:z8B j≤1:=by unfold z8B;split<;>omega
    rcases hreg with h3|⟨_,h3,_⟩<;>omega
 |j,D,.step id l k r up,h,t,st,P,u,hs,hn,hreg,hD=>by
  have e0:¬ (h:Int)=0:=by have:=u.root.1;omega
  by_cases h5:szP (Ct.page j t)<512
  ·have hreg':(Q.a=1∧Q.m=2)∨z2v (Cx.step id l k r up) h t+D+3≤90:=by
    rcases hreg with h1|⟨h1,_⟩
    ·exact .inr h1
    ·exact .inl ⟨h1.1,h1.2.1⟩
   obtain⟨t',R⟩:=zCf hQ u h5 hn hreg' hD;have e:z2x c P (Cx.steps (Cx.step id l k r up) h) (h:Int) (Ct.page j t)=if 2048<szP (z0g P c ⟨(id:Int),l.length,z09 l k h r⟩ (h:Int) (Ct.page j t)).2
    then upP (z0g P c ⟨(id:Int),l.length,z09 l k h r⟩ (h:Int) (Ct.page j t)).1 (up.steps id) (id:Int) (z0g P c ⟨(id:Int),l.length,z09 l k h r⟩ (h:Int) (Ct.page j t)).2
    else z2x c (z0g P c ⟨(id:Int),l.length,z09 l k h r⟩ (h:Int) (Ct.page j t)).1 (up.steps id) (id:Int) (z0g P c ⟨(id:Int),l.length,z09 l k h r⟩ (h:Int) (Ct.page j t)).2:=by
    rw [Cx.steps,z2x,if_pos h5]
   rw [e];generalize z0g P c ⟨(id:Int),l.length,z09 l k h r⟩ (h:Int) (Ct.page j t)=X at R ⊢;obtain⟨P1,x1⟩:=X;have hpg:x1=Ct.page (j+1) t':=R.page;subst hpg;have hcells:=R.cells;have hcok:up.need Q≤l.length+1+r.length:=u.cok;rcases R.cases_ with⟨k1,k2,k3⟩|⟨k1,k2,k3⟩|⟨k1,k2,k3,k4⟩
   ·simp only at k1 ⊢;rw [if_neg (by omega)];have hreg2:Reg Q up id t':=by
     rcases hreg with h1|⟨h1,h2,h3⟩
     ·exact .inl (by omega)
     ·exact .inr ⟨h1,by omega,fun _ _=>by omega⟩
    obtain⟨D',t'',R2⟩:=zBl hQ up id t' _ P1 R.dn k1 (by omega) hreg2 hD;rw [hcells]at R2;exact⟨D',t'',R2⟩
   ·simp only at k1 ⊢;rw [if_neg (by omega)];have hreg2:Reg Q up id t':=by
     rcases hreg with h1|⟨h1,h2,h3⟩
     ·exact .inl (by omega)
     ·exact .inr ⟨h1,by omega,fun _ h4=>by omega⟩
    obtain⟨D',t'',R2⟩:=zBl hQ up id t' _ P1 R.dn k1 (by omega) hreg2 hD;rw [hcells]at R2;exact⟨D',t'',R2⟩
   ·simp only at k1 ⊢;rw [if_pos k1];by_cases hfew:z2v (Cx.step id l k r up) h t+D+3≤90
    ·have hdp:=up.depth;obtain⟨D',t'',R2,_⟩:=zIa hQ up id t' _ P1 R.dn.toUpI (by omega) R.dn.small (by omega);rw [hcells]at R2;refine⟨D',t'',R2.tree,R2.cells,by have:=R2.d0;omega,R2.d1,fun hw=>⟨?_,?_⟩⟩
     ·have h1:=R2.d3 hw.2.2.1;have h2:=hw.2.2.2;have h3:=R2.d1;omega
     ·have h1:=R2.cnt;have h2:z8B D'≤1:=by unfold z8B;split<;>omega
      omega
    ·rcases k4 with k4|⟨k4,k5⟩
     ·exact absurd k4 hfew
     ·rcases hreg with h1|⟨h1,h2,h3⟩
      ·exact absurd h1 hfew
      ·obtain⟨j',rfl⟩:∃j',j=j'+1:=⟨j-1,by omega⟩;have hm:z7s Q (j'+1)=2:=h1.2.1;have h4:=h3 (by omega) (show Ct.n (j'+1) t<z7s Q (j'+1) by omega);obtain⟨D',t'',R2⟩:=zJ9 hQ (j:=j') h1 R.dn.toUpI (show up.need Q≤Ct.n (j'+1+1) t' by omega) R.dn.small k1 (show z2v up id t'+z8B D+1≤90 by omega);rw [hcells]at R2;exact⟨D',t'',R2⟩
  ·have e:z2x c P (Cx.steps (Cx.step id l k r up) h) (h:Int) (Ct.page j t)=P.wp (h:Int) (Ct.page j t):=by
    rw [Cx.steps,z2x,if_neg h5];unfold finP;rw [if_neg (fun h=>e0 h.1)]
   rw [e];refine⟨_,_,u.toUpI.fin (zAE hQ u.toUpI (by omega)) hs,?_,by omega,by omega,fun hw=>⟨hw.2.2.2,?_⟩⟩
   ·rw [z1y]
   ·rw [z5R _ _ _ u.root];have h2:z8B D≤1:=by unfold z8B;split<;>omega
    rcases hreg with h3|⟨_,h3,_⟩<;>omega
theorem z9g:∀ (j:Nat) (t:Ct j),FlIn ⟨1,1,0⟩ j t→(0<j→0<Ct.n j t)→j≤(Ct.subs j t).length
 |0,_,_,_=>Nat.zero_le _
 |j+1,t,hf,hn=>by
  obtain⟨⟨k,i,t'⟩,r,rfl⟩:∃k r,t=(k::r:List (Kid j)):=by
   cases t with
   |nil=>exact absurd (hn (by omega)) (by simp [Ct.n])
   |cons k r=>exact⟨k,r,rfl⟩
  have h1:=(z1a _ j t').1 (z0y (j:=j).1 hf).1;have:=z9g j t' h1.2 fun h=>by have:=h1.1;cases j with
   |zero=>omega
   |succ j=>exact this
  have e:Ct.subs (j+1) ((k,(i,t'))::r:List (Kid j))=(i,Ct.page j t')::Ct.subs j t'++z0B r:=z07 r (k,(i,t'));rw [e,List.length_append,List.length_cons];omega
theorem Tree.deep(hQ:Q.Ok){P:Pgr}{D:Nat}{t:Ct D}(T:Tree Q P c D t):D≤89:=by
 have h1:=z9g D t (T.fl.weak hQ) fun h0=>by
  have:=T.root;obtain⟨D',rfl⟩:∃D',D=D'+1:=⟨D-1,by omega⟩;simp only [z89]at this;omega
 have h2:=T.rep.le90;unfold z9q at h2;rw [List.length_cons]at h2;omega
theorem zI4(hQ:Q.Ok){P:Pgr}{D:Nat}{t:Ct D}(T:Tree Q P c D t){k:Key}(hk:isK (Ct.cells D t) k=true)(hreg:1+(Ct.subs D t).length+D+3≤90∨(zJS Q D∧1+(Ct.subs D t).length+z8B D≤90)):
 ∃w,z38 (P.pgD c) k (D+1) 0=some w∧w.length=D+1∧(deleteT P c w k).2=0∧Kin P (deleteT P c w k).1∧
  ∃D' t',DnR Q (deleteT P c w k).1 c D (delC (Ct.cells D t) k) D' t':=by
 obtain⟨w,n,cs,h,cx,h1,h2,h3,a⟩:=T.way k;obtain⟨c1,c2,c3⟩:=a.cells;have hkc:isK cs k=true:=by rw [←z5O c2 c3,←c1];exact hk
 have e:deleteT P c w k=(z2x c P (cx.steps h) (h:Int) (z47 (true,n,cs) k),0):=by
  unfold deleteT;rw [h3];simp only;rw [if_pos hkc]
 have hw:t=cx.plug h (show Ct 0 from(n,cs)):=eq_of_heq (Sigma.mk.inj a.whole).2;have hp:=z31 cx h (show Ct 0 from(n,cs)) a.root;rw [←hw]at hp;have hmem:(h,((true,n,cs):Pag))∈z9q D t:=hp.mem_iff.2 (List.mem_append_right _ (by exact List.mem_cons_self));have hleaf:=T.ok _ hmem;have hd:=hleaf.1.del k;have hb:=hd.1.big (hleaf.2.del k);have u:=a.upi T (cs':=delC cs k) hb fun lo hi h4 h5 y hy=>h5 y (z5F hy)
 have hlen:=z6F cs k;unfold z2O at hlen;rw [hkc,if_pos rfl]at hlen;have hneed:cx.need Q≤Ct.n 0 (show Ct 0 from(n,delC cs k))+1:=by
  have h4:=a.need;have h5:Ct.n 0 (show Ct 0 from(n,cs))=cs.length:=rfl;have h6:Ct.n 0 (show Ct 0 from(n,delC cs k))=(delC cs k).length:=rfl;omega
 have hcnt:z2v cx h (show Ct 0 from(n,delC cs k))=1+(Ct.subs D t).length:=by
  rw [←u.pages,T.rep.len];unfold z9q;rw [List.length_cons];omega
 have hl:z5U (P.pgD c) (0+1) h:=by
  refine⟨[⟨(h:Int),0,(true,n,cs)⟩],?_,rfl⟩;have:=T.rep.pgD hmem;rw [z38,this,if_pos (.inl rfl)]
 have hD:=T.deep hQ;obtain⟨D',t',R⟩:=zBl hQ cx h _ _ P ⟨u,hl,by have:=hd.1.parts.2.2;exact Nat.le_trans this (by omega)⟩ hd.1.parts.2.2 hneed (by
  rcases hreg with h4|⟨h4,h5⟩
  ·exact .inl (by omega)
  ·exact .inr ⟨h4,by omega,fun h0=>by omega⟩) (by omega)
 refine⟨w,h1,h2,by rw [e],by rw [e];exact Kin.down _ _ _ _ _,D',t',?_⟩;rw [e,c1,zDA c2 c3];exact R
end
noncomputable def putW(P:Pgr)(c:Int→List UInt8)(x:Cel):Pgr×Nat:=putT P ((z38 (P.pgD c) x.1 100 0).getD []) x
theorem zFJ{P:Pgr}{c:Int→List UInt8}{x:Cel}{n:Nat}{w:List TStp}(h:z38 (P.pgD c) x.1 n 0=some w)(hn:n≤100):putW P c x=putT P w x:=by
 unfold putW;rw [z2i h hn];rfl
noncomputable def delW(P:Pgr)(c:Int→List UInt8)(k:Key):Pgr×Nat:=deleteT P c ((z38 (P.pgD c) k 100 0).getD []) k
theorem zFO{P:Pgr}{c:Int→List UInt8}{k:Key}{n:Nat}{w:List TStp}(h:z38 (P.pgD c) k n 0=some w)(hn:n≤100):delW P c k=deleteT P c w k:=by
 unfold delW;rw [z2i h hn];rfl
noncomputable def putsW(c:Int→List UInt8):Pgr→List Cel→Pgr
 |P,[]=>P
 |P,x::xs=>putsW c (putW P c x).1 xs
section
variable {Q:Prm} {c:Int→List UInt8}
end
def z42(h _:Nat):Nat:=if h=0 then 1 else 0
def zB8(h _:Nat):Nat:=if h=0 then 0 else 1
theorem zDq(D:Nat)(t:Ct D):wS z42 D t+wS zB8 D t=1+(Ct.subs D t).length:=by
 rw [←zGD];refine zIE _ _ _ (fun h n=> ?_) D t;unfold z42 zB8
 split<;>rfl
theorem zFr{Q:Prm}{j:Nat}(ih:∀t:Ct j,FlT Q j t→(Q.m-1)*wS zB8 j t+1≤wS z42 j t∧Q.a*wS z42 j t≤(Ct.cells j t).length):
 ∀l:List (Kid j),FlL Q l→(Q.m-1)*z2G (wS zB8 j) l+l.length≤z2G (wS z42 j) l∧Q.a*z2G (wS z42 j) l≤(z0e l).length
 | [],_=>by simp [z2G,z0e]
 |k::l,h=>by
  obtain⟨h1,h2⟩:=z0y.1 h;obtain⟨a1,a2⟩:=ih k.2.2 h1;obtain⟨b1,b2⟩:=zFr ih l h2;rw [z0k,List.length_append,List.length_cons];show(Q.m-1)*(wS zB8 j k.2.2+z2G (wS zB8 j) l)+(l.length+1)≤wS z42 j k.2.2+z2G (wS z42 j) l∧Q.a*(wS z42 j k.2.2+z2G (wS z42 j) l)≤_;rw [Nat.mul_add,Nat.mul_add];omega
theorem zFP{Q:Prm}(hm:1≤Q.m):∀ (j:Nat) (t:Ct j),FlT Q j t→(Q.m-1)*wS zB8 j t+1≤wS z42 j t∧Q.a*wS z42 j t≤(Ct.cells j t).length
 |0,t,h=>by
  have e1:wS zB8 0 t=0:=rfl;have e2:wS z42 0 t=1:=rfl;have e3:Ct.cells 0 t=t.2:=rfl;rw [e1,e2,e3];have:Q.a≤t.2.length:=h;simp;exact this
 |j+1,ks,h=>by
  obtain⟨h1,h2⟩:=(z1a Q (j+1) ks).1 h;obtain⟨a1,a2⟩:=zFr (fun t=>zFP hm j t) ks h2;have hn:Q.m≤List.length (α:=Kid j) ks:=h1;have e1:wS zB8 (j+1) ks=1+z2G (wS zB8 j) ks:=rfl;have e2:wS z42 (j+1) ks=0+z2G (wS z42 j) ks:=rfl;have e3:Ct.cells (j+1) ks=z0e ks:=rfl;rw [e1,e2,e3,Nat.mul_add,Nat.mul_one];rw [Nat.zero_add];omega
theorem Tree.bound{Q:Prm}{P:Pgr}{c:Int→List UInt8}{D:Nat}{t:Ct (D+1)}(hm:1≤Q.m)(T:Tree Q P c (D+1) t):
 ∃leaves inner,leaves+inner=1+(Ct.subs (D+1) t).length∧1≤inner∧(Q.m-1)*(inner-1)+2≤leaves∧Q.a*leaves≤(Ct.cells (D+1) t).length:=by
 obtain⟨a1,a2⟩:=zFr (fun t=>zFP hm D t) t T.fl;have hr:2≤List.length (α:=Kid D) t:=T.root;have e1:wS zB8 (D+1) t=1+z2G (wS zB8 D) t:=rfl;have e2:wS z42 (D+1) t=0+z2G (wS z42 D) t:=rfl;refine⟨wS z42 (D+1) t,wS zB8 (D+1) t,zDq (D+1) t,by omega,?_,?_⟩
 ·rw [e1,e2,show 1+z2G (wS zB8 D) t-1=z2G (wS zB8 D) t by omega];omega
 ·rw [e2,Nat.zero_add];exact a2
def lvC:(j:Nat)→Nat→Ct j→List (Nat×Pag)
 |0,i,t=> [(i,Ct.page 0 t)]
 |j+1,_,ks=>List.flatMap (fun k:Kid j=>lvC j k.2.1 k.2.2) ks
def zB5{j:Nat}(ks:List (Kid j)):List (Nat×Pag):=List.flatMap (fun k:Kid j=>lvC j k.2.1 k.2.2) ks
def Cx.lcr:{j D:Nat}→Cx j D→List (Nat×Pag)
 |_,_,.top=> []
 |_,_,.step _ _ _ r up=>zB5 r++up.lcr
theorem z7f:∀ (j i:Nat) (t:Ct j),(lvC j i t).map (fun q=>(q.1,q.2.2.1))=Ct.lvs j i t∧(lvC j i t).flatMap (fun q=>q.2.2.2)=Ct.cells j t∧(∀q∈lvC j i t,q∈(i,Ct.page j t)::Ct.subs j t)∧∀q∈lvC j i t,q.2.1=true
 |0,i,t=>⟨rfl,by simp [lvC,Ct.page,Ct.cells],fun q hq=>by obtain rfl:=List.mem_singleton.1 hq;simp,fun q hq=>by obtain rfl:=List.mem_singleton.1 hq;rfl⟩
 |j+1,i,ks=>by
  have ih:=fun(k:Kid j)=>z7f j k.2.1 k.2.2
  refine⟨?_,?_,fun q hq=> ?_,fun q hq=> ?_⟩
  ·show List.map _ (List.flatMap (fun k:Kid j=>lvC j k.2.1 k.2.2) ks)=List.flatMap (fun k:Kid j=>Ct.lvs j k.2.1 k.2.2) ks;rw [List.map_flatMap]
   congr 1
   funext k
   exact(ih k).1
  ·show List.flatMap _ (List.flatMap (fun k:Kid j=>lvC j k.2.1 k.2.2) ks)=List.flatMap (fun k:Kid j=>Ct.cells j k.2.2) ks;rw [List.flatMap_assoc]
   congr 1
   funext k
   exact(ih k).2.1
  ·obtain⟨k,hk,hq⟩:=List.mem_flatMap.1 (show q∈List.flatMap (fun k:Kid j=>lvC j k.2.1 k.2.2) ks from hq);exact List.mem_cons_of_mem _ (List.mem_flatMap.2 ⟨k,hk,(ih k).2.2.1 q hq⟩)
  ·obtain⟨k,hk,hq⟩:=List.mem_flatMap.1 (show q∈List.flatMap (fun k:Kid j=>lvC j k.2.1 k.2.2) ks from hq);exact(ih k).2.2.2 q hq
theorem zDg{j:Nat}(ks:List (Kid j)):(zB5 ks).map (fun q=>(q.1,q.2.2.1))=z4u ks∧(zB5 ks).flatMap (fun q=>q.2.2.2)=z0e ks∧(∀q∈zB5 ks,q∈z0B ks)∧∀q∈zB5 ks,q.2.1=true:=by
 have h:=z7f (j+1) 0 ks;refine⟨h.1,h.2.1,fun q hq=> ?_,h.2.2.2⟩;obtain⟨k,hk,hq⟩:=List.mem_flatMap.1 (show q∈List.flatMap (fun k:Kid j=>lvC j k.2.1 k.2.2) ks from hq);exact List.mem_flatMap.2 ⟨k,hk,(z7f j k.2.1 k.2.2).2.2.1 q hq⟩
theorem z9t:∀ {j D:Nat} (cx:Cx j D) (h:Nat),cx.lcr.map (fun q=>(q.1,q.2.2.1))=cx.lr∧cx.lcr.flatMap (fun q=>q.2.2.2)=cx.cr∧(∀q∈cx.lcr,q∈cx.pgs h)∧∀q∈cx.lcr,q.2.1=true
 |_,_,.top,h=>⟨rfl,rfl,fun q hq=>(by cases hq),fun q hq=>by cases hq⟩
 |_,_,.step id l k r up,h=>by
  obtain⟨a1,a2,a3,a4⟩:=z9t up id;obtain⟨b1,b2,b3,b4⟩:=zDg r;refine⟨?_,?_,fun q hq=> ?_,fun q hq=> ?_⟩
  ·rw [Cx.lcr,Cx.lr,List.map_append,a1,b1]
  ·rw [Cx.lcr,Cx.cr,List.flatMap_append,a2,b2]
  ·rw [z0S];simp only [List.mem_append];rcases List.mem_append.1 hq with hq|hq
   ·exact .inl (.inr (.inr (b3 q hq)))
   ·exact .inr (a3 q hq)
  ·rcases List.mem_append.1 hq with hq|hq
   ·exact b4 q hq
   ·exact a4 q hq
theorem zCF{pf:Int→Pag}:∀ (l:List (Nat×Pag)) (n:Nat) (cs:List Cel) (m:Nat),l.length<m→(∀q∈l,pf (q.1:Int)=q.2∧0<q.1)→z8e (l.map fun q=>(q.1,q.2.2.1)) 0→n=z7y (l.map fun q=>(q.1,q.2.2.1)) 0→
 z0s pf m (true,n,cs)=some (cs++l.flatMap fun q=>q.2.2.2)
 |_,_,_,0,hm,_,_,_=>by omega
 | [],n,cs,m+1,hm,hp,hc,hn=>by
   have:n=0:=hn;rw [z0s,if_pos this];simp
 |(i,x)::l,n,cs,m+1,hm,hp,hc,hn=>by
  have hn:n=i:=hn;subst hn;have h1:=hp (n,x) (by simp);rw [z0s,if_neg (by have:=h1.2;simp only at this ⊢;omega)];have e:pf (((true,n,cs):Pag).2.1:Int)=x:=h1.1;rw [e];obtain⟨b,n',cs'⟩:=x;have ih:=zCF l n' cs' m (by simp at hm;omega) (fun q hq=>hp q (by simp [hq])) hc.2 hc.1;have e2:z0s pf m (b,n',cs')=z0s pf m (true,n',cs'):=by cases m<;>rfl
  rw [e2,ih];simp
section
variable {Q:Prm} {P:Pgr} {c:Int→List UInt8} {D:Nat} {t:Ct D}
theorem zFv{key:Key}{cx:Cx 0 D}{h n:Nat}{cs:List Cel}(a:At Q ⟨D,t⟩ key cx h (show Ct 0 from(n,cs))):t=cx.plug h (show Ct 0 from(n,cs)):=eq_of_heq (Sigma.mk.inj a.whole).2
theorem At.perm{key:Key}{cx:Cx 0 D}{h n:Nat}{cs:List Cel}(a:At Q ⟨D,t⟩ key cx h (show Ct 0 from(n,cs))):(z9q D t).Perm (cx.pgs h++ [(h,((true,n,cs):Pag))]):=by
 have hp:=z31 cx h (show Ct 0 from(n,cs)) a.root;rw [←zFv a]at hp;exact hp
theorem Tree.chain(T:Tree Q P c D t){key:Key}{cx:Cx 0 D}{h n:Nat}{cs:List Cel}(a:At Q ⟨D,t⟩ key cx h (show Ct 0 from(n,cs))):z0s (P.pgD c) 91 (true,n,cs)=some (cs++cx.cr):=by
 have hp:=a.perm;obtain⟨l1,l2,l3,l4⟩:=z9t cx h;have hch:=T.ch;rw [zFv a,z6C cx h _ a.root]at hch;rw [List.append_assoc,z6O]at hch;obtain⟨_,h1,h2⟩:=hch;rw [←l2];have hz:∀q∈cx.lcr,0<q.1:=fun q hq=>by
  have h5:=l3 q hq;rcases Nat.eq_zero_or_pos q.1 with h6|h6
  ·exfalso;have h7:q∈z9q D t:=hp.mem_iff.2 (List.mem_append_left _ h5);rcases List.mem_cons.1 h7 with h8|h8
   ·have h9:=l4 q hq;rw [h8]at h9;cases D with
    |zero=>
     cases cx with
     |top=>cases hq
     |step id l k r up=>have:=up.depth;omega
    |succ D=>cases h9
   ·have:=(T.zero q h8).1;omega
  ·exact h6
 refine zCF cx.lcr n cs 91 ?_ (fun q hq=>⟨T.rep.pgD (p:=q.2) (hp.mem_iff.2 (List.mem_append_left _ (l3 q hq))),hz q hq⟩) (by rw [l1];exact h2) (by rw [l1];exact h1);have hle:∀ {j D:Nat} (cx:Cx j D) (h:Nat),cx.lcr.length≤(cx.pgs h).length:=by
  have hl1:∀ (j i:Nat) (t:Ct j),(lvC j i t).length≤1+(Ct.subs j t).length:=by
   intro j
   induction j with
   |zero=>intro i t;simp [lvC]
   |succ j ih=>
    intro i ks;have:∀l:List (Kid j),(zB5 l).length≤(z0B l).length:=fun l=>by
     induction l with
     |nil=>simp [zB5]
     |cons k l il=>
      have e1:zB5 (k::l)=lvC j k.2.1 k.2.2++zB5 l:=by simp [zB5]
      rw [e1,z07,List.length_append,List.length_append,List.length_cons];have:=ih k.2.1 k.2.2;omega
    have:=this ks;show(zB5 ks).length≤1+(z0B ks).length;omega
  have hl2:∀ {j:Nat} (l:List (Kid j)),(zB5 l).length≤(z0B l).length:=fun {j} l=>by
   induction l with
   |nil=>simp [zB5]
   |cons k l il=>
    have e1:zB5 (k::l)=lvC j k.2.1 k.2.2++zB5 l:=by simp [zB5]
    rw [e1,z07,List.length_append,List.length_append,List.length_cons];have:=hl1 j k.2.1 k.2.2;omega
  intro j D cx
  induction cx with
  |top=>intro h;exact Nat.zero_le _
  |step id l k r up ih=>
   intro h;have h1:=ih id;have h2:=hl2 r;rw [z0S,Cx.lcr];simp only [List.length_append,List.length_cons,List.length_nil];omega
 have h1:=hle cx h;have h2:=T.rep.le90;have h3:=hp.length_eq;rw [List.length_append]at h3;simp only [List.length_cons,List.length_nil]at h3;omega
end
def limL(l:List Cel)(lim:Int):List Cel:=if lim<0 then l else l.take lim.toNat
theorem z8R(v:List UInt8):z0E v= -1∨(1≤z0E v∧z0E v<90):=by
 unfold z0E
 split
 ·split
  ·exact .inl rfl
  ·right;omega
 ·exact .inl rfl
end
section
open Go Go.RowKit
structure Pr(P:Pgr)(c:Int→List UInt8):Prop where
 ok:P.D.Ok
 stored:z44 P.D P.a P.tb c
 wlen:∀x b,P.wr x=some b→b.length≤2048
 a0:0≤P.a
 a1:P.a≤65536
theorem Kin.pr{P P':Pgr}{c:Int→List UInt8}(k:Kin P P')(h:Pr P c):Pr P' c:=
 ⟨by rw [k.D];exact h.ok,by rw [k.D,k.a,k.tb];exact h.stored,k.wlen h.wlen,by rw [k.a];exact h.a0,by rw [k.a];exact h.a1⟩
structure Tg(w:World)(g:Nat)(Z:Pz)(P:Pgr)(c:Int→List UInt8):Prop where
 pg:Pg w Z P
 blk:Blk w g 102 #[.pointer (some ⟨Z.g,0,none⟩)]
 pr:Pr P c
 bits:BitsOk w
 z0:¬Z.has 0
section
variable {w w':World} {g:Nat} {Z:Pz} {P P':Pgr} {c:Int→List UInt8}
theorem Tg.later(t:Tg w g Z P c)(hb:Below w.heap.size w w'):Tg w' g Z P c:=⟨t.pg.later hb,t.blk.later hb,t.pr,t.bits.later hb,t.z0⟩
theorem Pz.not_kind{b:Nat}{ty:TypeId}(p:Pg w Z P)(hk:z0H w b=some (some ty))(h1:ty≠91)(h2:ty≠151)(h3:ty≠76)(h4:ty≠124):¬Z.has b:=by
 intro hb;have:=p.kinds hb;rw [hk]at this;simp only [Option.some.injEq,reduceCtorEq,false_or]at this;rcases this with h|h|h|h
 ·exact h1 h
 ·exact h2 h
 ·exact h3 h
 ·exact h4 h
theorem Tg.nz(t:Tg w g Z P c):¬Z.has g:=Pz.not_kind t.pg (z0K t.blk) (by decide) (by decide) (by decide) (by decide)
theorem zG7(h:BitsOk w)(z0:¬Z.has 0)(s:Ptp Z w Z w'):BitsOk w':=fun i hi=>by
 have hb:=s.turn.block 0 h.pos z0;rw [←h i hi];unfold World.cell?;rw [hb]
theorem Tg.done(t:Tg w g Z P c)(d:z6a Z P' w w')(k:Kin P P'):Tg w' g Z P' c:=
 ⟨d.1,(d.2.turn.block g t.blk.lt t.nz).trans t.blk,k.pr t.pr,zG7 t.bits t.z0 d.2,t.z0⟩
def z1S(g:Nat)(Z:Pz)(P':Pgr)(c:Int→List UInt8)(w w':World):Prop:=Tg w' g Z P' c∧Ptp Z w Z w'
theorem Cs.ptp{S:Nat→Prop}{v:Value}{cs:List Cel}(h:Cs S w v cs)(s:Ptp Z w Z w')(hS:∀b,S b→b<w.heap.size∧¬Z.has b):Cs S w' v cs:=
 Sl.keep h fun b o hb=>World.cell?_of_block (s.turn.block b (hS b hb).1 (hS b hb).2)
end
theorem zEo{x:Pag}(h:POk x):Mid x.2.2:=⟨by have:=zAl (x:=x);have:=h.parts.2.2;omega,fun c hc=>by have:=z18 none _ h.parts.2.1 c hc;omega⟩
theorem zCp:∀ (l:List UInt8) (i v er:Nat),z7r i v l= .error er→er=10∨er=12
 | [],i,v,er,h=>by rw [z7r]at h;injection h with h;exact .inl h.symm
 |b::r,i,v,er,h=>by
  rw [z7r]at h
  split at h
  ·injection h with h;exact .inr h.symm
  ·split at h
   ·cases h
   ·exact zCp r _ _ er h
theorem zBD{l:List UInt8}{er:Nat}(h:z0q l= .error er):er=10∨er=12:=zCp l 0 0 er h
theorem zGg{l:List UInt8}{x:Pag}(h:z3J l=some x):POk x:=by
 unfold z3J at h
 split at h
 ·cases h
 ·unfold zJO at h
  split at h
  split at h
  split at h
  split at h
  split at h
  ·rename_i hc;cases h
   exact hc.2
  ·cases h
theorem pg_ok{P:Pgr}{c:Int→List UInt8}{i:Int}{x:Pag}(h:P.pg c i=some x):POk x:=by
 unfold Pgr.pg at h;rw [Option.bind_eq_some_iff]at h;obtain⟨b,_,h⟩:=h;exact zGg h
theorem POk.no:POk noPg:=by
 refine POk.mk' (by decide) rfl ?_;have:=z5B (next:=0) (cs:= []) (by omega) (by simp);show z2z ((0:Nat):Int) []≤2048;simp [z08]at this;simp;omega
theorem z77(P:Pgr)(c:Int→List UInt8)(i:Int):POk (P.pgD c i):=by
 unfold Pgr.pgD;cases h:P.pg c i with
 |none=>exact POk.no
 |some x=>exact pg_ok h
theorem z3Y(k v:List UInt8)(w:World)(hv:v.length≤1000000):
 Calls Tryz.prog 73 #[.agg #[.string (st k),.string (st v)]] w fun e w'=>e= .returned (.int .i64 (z0E v))∧Below w.heap.size w w':=by
 have hml:v.length≤maxLen:=by simp only [maxLen];omega
 have q0:=(Below.refl w.heap.size w).alloc (Nat.le_refl _) (.cells #[.string (st k),.string (st v)] 81);have b0:Blk (w.alloc (.cells #[.string (st k),.string (st v)] 81)) w.heap.size 81 #[.string (st k),.string (st v)]:=Blk.new _ _ _;have c1:(w.alloc (.cells #[.string (st k),.string (st v)] 81)).cell? ⟨w.heap.size,1,none⟩=some (.string (st v)):=b0.cell 1;have hsz:=b0.lt;have HQ:=zz q0;clear b0 q0;go_enter Tryz.func73,Tryz.ntmps73
 generalize hW:w.alloc (.cells #[.string (st k),.string (st v)] 81)=W at*;go_wp2_with (refine z30 _ rfl (.tmp 8) rfl tS tB tU hml rfl ?_;intro A1 c1 w1 hbs1 hbl1 hsz1)
 have HB1:=zz (HQ.out.trans (hbl1.mono HQ.out.size));refine(z4Y _ _ v w1 (by omega) hbs1).mono ?_;rintro e w2 ⟨hok,herr⟩;cases hg:z0q v with
 |error er=>
  obtain⟨rfl,hb2⟩:=herr er hg;have hc:Hid (z0E v= -1):=by unfold z0E;rw [Hid,hg]
  have her:¬ ((er:Int)=0):=by
   have:=zBD hg;omega
  clear hok herr hg;go_wp2_with fail
  go_ret
  exact⟨by rw [hc.out];rfl,HB1.out.trans (hb2.mono HB1.out.size)⟩
 |ok x=>
  obtain⟨x,n⟩:=x;obtain⟨A,k',c',rfl,hown,hb2⟩:=hok x n hg;have hx:=(z2J hg).1;have HX:Hid (x<U64):=hx;have hc:Hid (z0E v=if x=0∨90≤x then-1 else(x:Int)):=by unfold z0E;rw [Hid,hg]
  have HB2:=zz (HB1.out.trans (hb2.mono HB1.out.size));clear hok herr hg hown hx;by_cases h0:x=0
  ·subst h0;rw [if_pos (.inl rfl)]at hc;go_wp2_with fail
   go_ret
   exact⟨by rw [hc.out];rfl,HB2.out⟩
  ·by_cases h9:90≤x
   ·rw [if_pos (.inr h9)]at hc;have g0:¬ (x:Int)=0:=by omega
    have g9:(90:Int)≤(x:Int):=by omega
    go_wp2_with fail
    go_ret
    exact⟨by rw [hc.out];rfl,HB2.out⟩
   ·rw [if_neg (by omega)]at hc;have g0:((x:Int)==0)=false:=beq_eq_false_iff_ne.2 (by omega);have g9:decide ((90:Int)≤(x:Int))=false:=decide_eq_false (by omega);have gw:IntKind.i64.wrap (x:Int)=(x:Int):=z1B (by omega) (by omega);go_wp2_with fail
    go_ret
    exact⟨by rw [hc.out];rfl,HB2.out⟩
theorem cellTy:z1l Tryz.prog 81 2:=⟨⟨_,Tryz.underlying81⟩,by kernel_rfl⟩
theorem zDY{B:Nat}{w0 w:World}{g:Nat}(h:Below B w0 w)(hg:B≤g)(x y:Value):Below B w0 ((w.setCell ⟨g,0,none⟩ x).setCell ⟨g,1,none⟩ y):=
 (h.setCell (p:=⟨g,0,none⟩) hg x).setCell (p:=⟨g,1,none⟩) hg y
theorem z2X(k:List UInt8)(i:Nat)(w:World)(hi:i<1000000):
 Calls Tryz.prog 113 #[.string (st k),.int .i64 (i:Int)] w fun e w'=>e= .returned (.agg #[.string (st k),.string (st (z0D i))])∧Below w.heap.size w w':=by
 have b0:Blk (w.alloc (.cells #[.string ⟨#[]⟩,.string ⟨#[]⟩] 81)) w.heap.size 81 #[.string ⟨#[]⟩,.string ⟨#[]⟩]:=Blk.new _ _ _;have HQ:=zz ((Below.refl w.heap.size w).alloc (Nat.le_refl _) (.cells #[.string ⟨#[]⟩,.string ⟨#[]⟩] 81));have HB:=zz b0;have gw:IntKind.u64.wrap (i:Int)=(i:Int):=z1e (by omega) (by unfold U64;omega);have hl:(z0D i).length≤10:=z0G (by unfold U64;omega);clear b0;go_enter Tryz.func113,Tryz.ntmps113
 go_wp2_with fail
 generalize hW:w.alloc (.cells #[.string ⟨#[]⟩,.string ⟨#[]⟩] 81)=W at*;clear hW;refine(z8K (fun _=>True) _ [] i W (by unfold U64;omega) (by rw [List.nil_append];omega) (Bs.nilv _ _)).mono ?_;rintro e w2 ⟨A,k2,c2,rfl,hob,hb2⟩;rw [List.nil_append]at hob;have hbs:=hob.bs;have K2:=zz (HB.out.later hb2);have k20:w2.cell? ⟨w.heap.size,0,none⟩=some (.string ⟨#[]⟩):=K2.out.cell 0;have k21:w2.cell? ⟨w.heap.size,1,none⟩=some (.string ⟨#[]⟩):=K2.out.cell 1;have j20:=K2.out.free 0;have j21:=K2.out.free 1;have HQ2:=zz (HQ.out.trans (hb2.mono HQ.out.size));clear hob hb2;generalize hV:z0D i=V at*;have HV:=zz hV;clear hV;go_wp2_with (refine z2o _ rfl (.tmp 8) rfl tB tU tS hbs rfl ?_)
 exact bodyPost_ret (z0W rfl _ _ w.heap.size rfl (K2.out.put2 _ _) cellTy) rfl ⟨by rw [HV.out],zDY HQ2.out (Nat.le_refl _) _ _⟩
theorem PgIs.no(B:Nat)(w:World):PgIs B w (.agg #[.bool false,.int .i64 0,.slice none 0 0]) false 0 []:=⟨none,0,rfl,Sl.nil⟩
theorem z2W(g:Nat)(Z:Pz)(P:Pgr)(c:Int→List UInt8)(i:Int)(w:World)(ht:Tg w g Z P c)(hi:InI i):
 Calls Tryz.prog 72 #[.pointer (some ⟨g,0,none⟩),.int .i64 i] w fun e w'=>∃v,e= .returned (.tuple #[v,.bool (P.pg c i).isSome])∧PgIs w.heap.size w' v (P.pgD c i).1 ((P.pgD c i).2.1:Int) (P.pgD c i).2.2∧Below w.heap.size w w':=by
 have HT:=zz ht;have HI:=zz hi;have hb0:Blk (w.alloc (.cells #[.bool false,.int .i64 0,.slice none 0 0] 36)) w.heap.size 36 #[.bool false,.int .i64 0,.slice none 0 0]:=Blk.new _ _ _;have HB0:=zz hb0;have HQ0:=zz ((Below.refl w.heap.size w).alloc (Nat.le_refl _) (.cells #[.bool false,.int .i64 0,.slice none 0 0] 36));have e0:(w.alloc (.cells #[.bool false,.int .i64 0,.slice none 0 0] 36)).cell? ⟨g,0,none⟩=some (.pointer (some ⟨Z.g,0,none⟩)):=(ht.blk.later HQ0.out).cell 0;have HT0:=zz (ht.later HQ0.out);clear ht hi hb0;go_enter Tryz.func72,Tryz.ntmps72
 go_wp2_with fail
 generalize hW:w.alloc (.cells #[.bool false,.int .i64 0,.slice none 0 0] 36)=W at*;clear hW;refine(zEP Z P c i W HT0.out.pg HT0.out.pr.ok HT0.out.pr.stored HT0.out.pr.wlen HT0.out.pr.a0 HT0.out.pr.a1 HI.out).mono ?_;rintro e w1 ⟨A,n,c1,rfl,hob,hb1⟩;have HB1:=zz (HB0.out.later hb1);have HQ1:=zz (HQ0.out.trans (hb1.mono HQ0.out.size));have hz1:=HB1.out.lt;have k0:w1.cell? ⟨w.heap.size,0,none⟩=some (.bool false):=HB1.out.cell 0;have k1:w1.cell? ⟨w.heap.size,1,none⟩=some (.int .i64 0):=HB1.out.cell 1;have k2:w1.cell? ⟨w.heap.size,2,none⟩=some (.slice none 0 0):=HB1.out.cell 2;have j0:=HB1.out.free 0;have j1:=HB1.out.free 1;have j2:=HB1.out.free 2;have HOB:=zz hob;have hln:n=((P.page c i).getD []).length:=hob.len;subst hln;clear hob hb1 e0;cases hh:P.has i with
 |false=>
  have hpg:P.pg c i=none:=by unfold Pgr.pg Pgr.page;rw [hh];rfl
  have HPD:Hid (P.pgD c i=noPg):=by unfold Pgr.pgD;rw [Hid,hpg];rfl
  have HPG:=zz hpg;clear hpg hh;go_wp2_with fail
  exact bodyPost_ret (z0L rfl _ _ w.heap.size rfl (HB1.out.put3 _ _ _) z1I) rfl ⟨_,by rw [HPG.out];rfl,by rw [HPD.out];exact PgIs.no _ _,z0Y HQ1.out (Nat.le_refl _) _ _ _⟩
 |true=>
  have hpage:P.page c i=some ((P.wr i).getD (c i)):=by unfold Pgr.page;rw [hh];rfl
  have hpg:P.pg c i=z3J ((P.page c i).getD []):=by unfold Pgr.pg;rw [hpage];rfl
  have HPG:=zz hpg;have hlen:((P.page c i).getD []).length≤2048:=by
   rw [hpage];simp only [Option.getD_some];cases hw:P.wr i with
   |some b=>exact HT0.out.pr.wlen i b hw
   |none=>
    have:(P.tb i).isSome=true:=by
     unfold Pgr.has at hh;rw [hw]at hh;simp only [Option.isSome_none,Bool.false_or,Bool.and_eq_true]at hh;exact hh.1
    obtain⟨⟨p,l⟩,hpl⟩:=Option.isSome_iff_exists.1 this;obtain⟨_,h2,h3,_⟩:=HT0.out.pr.stored i p l hpl;simp only [Option.getD_none];omega
  generalize (P.page c i).getD []=L at*;clear hpage hpg hh;go_wp2_with fail
  refine(zHQ _ _ L w1 (by omega) HOB.out.bs).mono ?_;rintro e w2 ⟨hsome,hnone,hb2⟩;have HB2:=zz (HB1.out.later hb2);have HQ2:=zz (HQ1.out.trans (hb2.mono HQ1.out.size));have hz2:=hb2.size;have hlt2:w.heap.size<w2.heap.size:=by omega
  have hn1:¬w.heap.size=w2.heap.size:=by omega
  have hn2:¬w2.heap.size=w.heap.size:=by omega
  have k0:w2.cell? ⟨w.heap.size,0,none⟩=some (.bool false):=HB2.out.cell 0;have k1:w2.cell? ⟨w.heap.size,1,none⟩=some (.int .i64 0):=HB2.out.cell 1;have k2:w2.cell? ⟨w.heap.size,2,none⟩=some (.slice none 0 0):=HB2.out.cell 2;have j0:=HB2.out.free 0;have j1:=HB2.out.free 1;have j2:=HB2.out.free 2;cases ho:z3J L with
  |none=>
   obtain rfl:=hnone ho;have HPG2:Hid (P.pg c i=none):=HPG.out.trans ho;have HPD:Hid (P.pgD c i=noPg):=by unfold Pgr.pgD;rw [Hid,HPG2.out];rfl
   clear hsome hnone hb2 ho;go_wp2_with fail
   exact bodyPost_ret (z0L rfl _ _ w.heap.size rfl ((HB2.out.put3 _ _ _).alloc _) z1I) rfl ⟨_,by rw [HPG2.out];rfl,by rw [HPD.out];exact PgIs.no _ _,(z0Y HQ2.out (Nat.le_refl _) _ _ _).alloc (by simp;omega) _⟩
  |some x=>
   obtain⟨b,m,cs⟩:=x;obtain⟨v,rfl,A2,c2,rfl,hcs⟩:=hsome b m cs ho;have HPG2:Hid (P.pg c i=some (b,m,cs)):=HPG.out.trans ho;have HPD:Hid (P.pgD c i=(b,m,cs)):=by unfold Pgr.pgD;rw [Hid,HPG2.out];rfl
   have HCS:=zz hcs;clear hsome hnone hb2 ho hcs;go_wp2_with fail
   refine bodyPost_ret (z0L rfl _ _ w.heap.size rfl ((HB2.out.put3 _ _ _).alloc _) z1I) rfl ⟨_,by rw [HPG2.out];rfl,?_,(z0Y HQ2.out (Nat.le_refl _) _ _ _).alloc (by simp;omega) _⟩;rw [HPD.out];refine⟨A2,c2,rfl,?_⟩;have h3:=Cs.put3 (L:=w1.heap.size) (B:=w.heap.size) HCS.out (fun b h=>h) hz1 (Nat.le_of_lt hz1) (.bool b) (.int .i64 (m:Int)) (.slice A2 cs.length c2);exact(Sl.alloc h3 (fun b h=>h.2) _).more fun b h=>⟨h.1,by simp at h ⊢;omega⟩
theorem zGL(x:Pag):(pgB x).length≤2048:=by
 by_cases h:POk x
 ·exact h.bytes.1
 ·unfold pgB;unfold POk at h;rw [if_neg h];simp
theorem z0N(g:Nat)(Z:Pz)(P:Pgr)(c:Int→List UInt8)(i:Int)(S:Nat→Prop)(leaf:Bool)(n:Nat)(v0:Value)(cs:List Cel)(w:World)(ht:Tg w g Z P c)(hi:InI i)(hm:Mid cs)(hn:n≤1000000)(hr:Cs S w v0 cs):
 Calls Tryz.prog 43 #[.pointer (some ⟨g,0,none⟩),.int .i64 i,.agg #[.bool leaf,.int .i64 (n:Int),v0]] w fun e w'=>e= .returned (.tuple #[])∧z1S g Z (P.wp i (leaf,n,cs)) c w w':=by
 have HT:=zz ht;have HI:=zz hi;have HR:=zz hr.lt;obtain⟨A,c1,rfl,_⟩:=hr.at;have HQ0:=zz ((Below.refl w.heap.size w).alloc (Nat.le_refl _) (.cells #[.bool leaf,.int .i64 (n:Int),.slice A cs.length c1] 36));have hb0:Blk (w.alloc (.cells #[.bool leaf,.int .i64 (n:Int),.slice A cs.length c1] 36)) w.heap.size 36 #[.bool leaf,.int .i64 (n:Int),.slice A cs.length c1]:=Blk.new _ _ _;have HT0:=zz (ht.later HQ0.out);have HR0:=zz (HR.out.up HQ0.out);clear ht hi hr;have d0:(w.alloc (.cells #[.bool leaf,.int .i64 (n:Int),.slice A cs.length c1] 36)).cell? ⟨w.heap.size,0,none⟩=some (.bool leaf):=hb0.cell 0;have d1:(w.alloc (.cells #[.bool leaf,.int .i64 (n:Int),.slice A cs.length c1] 36)).cell? ⟨w.heap.size,1,none⟩=some (.int .i64 (n:Int)):=hb0.cell 1;have d2:(w.alloc (.cells #[.bool leaf,.int .i64 (n:Int),.slice A cs.length c1] 36)).cell? ⟨w.heap.size,2,none⟩=some (.slice A cs.length c1):=hb0.cell 2;clear hb0;go_enter Tryz.func43,Tryz.ntmps43
 generalize hW:w.alloc (.cells #[.bool leaf,.int .i64 (n:Int),.slice A cs.length c1] 36)=W at*;go_wp2_with fail
 refine(z7U _ leaf (n:Int) _ cs W HT0.out.bits (by omega) hm HR0.out).mono ?_;rintro e w1 ⟨hok,hno,hb1⟩;have HT1:=zz (HT0.out.later hb1);have HQ1:=zz (HQ0.out.trans (hb1.mono HQ0.out.size));have e0:w1.cell? ⟨g,0,none⟩=some (.pointer (some ⟨Z.g,0,none⟩)):=HT1.out.blk.cell 0;have HPB:Hid (pgB (leaf,n,cs)=if z1M (n:Int) cs=0 then z7O (pgF leaf (n:Int) cs)else []):=rfl;have HL:=zGL (leaf,n,cs);have HWP:Hid (P.wp i (leaf,n,cs)=P.write i (pgB (leaf,n,cs))):=rfl;generalize pgB (leaf,n,cs)=b at*;have fin:∀ (w2:World),z6a Z (P.write i b) w1 w2→z1S g Z (P.wp i (leaf,n,cs)) c w w2:=fun w2 hd=>by
  rw [HWP.out];exact⟨HT1.out.done hd (Kin.write P i b),(Ptp.below HQ1.out).trans hd.2⟩
 have FIN:=zz fin;clear fin;by_cases hc:z1M (n:Int) cs=0
 ·obtain⟨A2,k2,c2,rfl,hob⟩:=hok hc;rw [if_pos hc]at HPB;have HB:=HPB.out;subst HB;have HOB:=zz hob;clear hok hno hb1 hob hc;go_wp2_with fail
  refine(z5p Z P i _ _ _ w1 HT1.out.pg HI.out HOB.out.bs (by omega)).mono ?_;rintro e w2 ⟨rfl,hd⟩;go_wp2_with fail
  go_end0
  exact⟨rfl,FIN.out w2 hd⟩
 ·obtain rfl:=hno hc;rw [if_neg hc]at HPB;have HB:=HPB.out;subst HB;clear hok hno hb1 hc;go_wp2_with fail
  refine(z5p Z P i (fun _=>True) _ [] w1 HT1.out.pg HI.out (Bs.nilv _ _) (by simp)).mono ?_;rintro e w2 ⟨rfl,hd⟩;go_wp2_with fail
  go_end0
  exact⟨rfl,FIN.out w2 hd⟩
end
end Go.Proofs.YthbhkdhljlganaaGreatDoor
