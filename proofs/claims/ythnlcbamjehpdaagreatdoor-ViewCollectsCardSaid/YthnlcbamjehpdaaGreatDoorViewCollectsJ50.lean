/- Part 50. -/
import Derived.Test.YthnlcbamjehpdaaGreatDoorViewCollectsJ22
import Derived.Test.YthnlcbamjehpdaaGreatDoorViewCollectsJ38
import Derived.Test.YthnlcbamjehpdaaGreatDoorViewCollectsJ48
namespace Go.Proofs.YthnlcbamjehpdaaGreatDoor
set_option linter.unusedVariables false
set_option maxHeartbeats 16000000
set_option maxRecDepth 100000
section
open Go.ChangeShapes Go.WideShapes Go.ChangeAt Go.RowKit Go.Deep
section
variable {H:Type} {P:Program}
theorem z7w{e:TypeId}{ds:List (DataW H)}{d:DataW H}(hd:d∈ds){n:Nat}(hn:n∈d.weights P e):n∈DataW.weightsAll P e ds:=by
 induction ds with
 |nil=>cases hd
 |cons a r ih=>
  rw [DataW.weightsAll,yF];rcases y9.1 hd with rfl|hd
  .exact .inl hn
  .exact .inr (ih hd)
def Szd(P:Program)(t:TypeId)(d:DataW H):Prop:=∀n∈d.weights P t,n<=reachBytes
theorem Szd.elem{t e:TypeId}{es sp:List (DataW H)}(ht:P.underlying t=some (.slice e))(h:Szd P t (.slice es sp)){d:DataW H}(hd:d∈es):Szd P e d:=fun n hn=>h n (by
 simp only [DataW.weights,ht];exact ym _ (yS _ (z7w hd hn)))
theorem Szd.field{t:TypeId}{fs:Array Field}{ps:List (DataW H)}(ht:P.underlying t=some (.struct fs))(h:Szd P t (.agg ps)){j:Nat}{f:Field}{d:DataW H}(hf:fs[j]? =some f)(hd:ps[j]? =some d):Szd P f.type d:=fun n hn=>h n (by
 simp only [DataW.weights,ht];exact DataW.weights_mem_each (j:=j) (by simp [hf]) hd n hn)
theorem Szd.str{t:TypeId}{bs:List UInt8}(h:Szd P t (.lit (.string bs):DataW H)):bs.length<=reachBytes:=h _ (by simp [DataW.weights])
theorem zCg:reachBytes=140737488351232:=by decide
end
section
variable {H:Type} {enc:TypeId×Value->H} {P:Program} {w:World} {base:Nat} {spare:Nat->Bool} {held:Bool}
theorem zBY{w:World}{a:Addr}{v:Value}(h:w.cell? a=some v):a.spot=none/\a.block<w.heap.size:=by
 refine⟨?_,Yc w _ h⟩;obtain⟨ab,ao,asp⟩:=a;cases asp with
 |none=>rfl
 |some z=>
  unfold World.cell? at h
  split at h
  .simp at h
  .cases h
end
theorem zD7(l:List Wri):(z9r l).length=l.length*3:=by
 induction l with
 |nil=>rfl
 |cons a l ih=>
  show(z87 a++z9r l).length=_;rw [y6,ih];simp only [z87,y8,yW];omega
section
variable {H:Type} {enc:TypeId×Value->H} {P:Program} {w:World} {base:Nat} {spare:Nat->Bool} {held:Bool}
theorem zDl{t e:TypeId}{f0 f1 f2:Field}{v:Value}{fuel:Nat}{x:DataW H×List MemPlace}(ht:P.underlying t=some (.slice e))(he:P.underlying e=some (.struct #[f0,f1,f2]))(hone:oneCellFields P #[f0,f1,f2]=true)(hC:P.cellsOf e=3)
 (h0:P.underlying f0.type=some .string) (h1:P.underlying f1.type=some .string) (h2:P.underlying f2.type=some .bool) (hf:DataW.trod enc P w base spare held fuel t [v]=some x) (hz:Szd P t x.1):
 ∃l:List Wri,(∀y∈l,y.k.length<=140737488351232/\y.v.length<=140737488351232)/\Wrs (fun b=>b<w.heap.size) w v l:=by
 rcases z28 ht he hone (by simpa using hC) hf with⟨hc,_⟩|⟨a,len,cap,m,D,Pl,hcs,_,hl,hcm,hm,hxx,hi⟩
 .have hv:v= .slice none 0 0:=by simpa using hc
  subst hv;exact⟨[],fun y hy=>(by cases hy),Sl.nil⟩
 .have hlm:len<=m:=by rw [hm];split<;>omega
  have hva:v= .slice (some a) len cap:=by simpa using hcs
  subst hva;have hxd:x.1= .slice ((List.range len).map D) ((List.range (m-len)).map fun j=>D (len+j)):=congrArg Prod.fst hxx;rw [hxd]at hz;have key:∀i,i<len->∃y:Wri,(y.k.length<=140737488351232/\y.v.length<=140737488351232)/\w.cell? (a.add (i*3))=some (.string (st y.k))/\w.cell? (a.add (i*3+1))=some (.string (st y.v))/\w.cell? (a.add (i*3+2))=some (.bool y.gone):=by
   intro i hil;obtain⟨ys,n,hD,_,_,hfs⟩:=hi i (by omega);have hzi:Szd P e (D i):=Szd.elem ht hz (yP.2 ⟨i,yt.2 hil,rfl⟩);rw [hD]at hzi;obtain⟨v0,y0,c0,hy0,t0⟩:=hfs 0 f0 rfl;obtain⟨v1,y1,c1,hy1,t1⟩:=hfs 1 f1 rfl;obtain⟨v2,y2,c2,_,t2⟩:=hfs 2 f2 rfl;obtain⟨xi,e0,z0,_⟩:=DataW.trod_string h0 t0;obtain⟨xs,e1,z1,_⟩:=DataW.trod_string h1 t1;obtain⟨xb,e2,_⟩:=DataW.trod_bool h2 t2;obtain rfl:v0=_:=by simpa using e0
   obtain rfl:v1=_:=by simpa using e1
   obtain rfl:v2=_:=by simpa using e2
   have s0:Szd P f0.type y0.1:=Szd.field he hzi (j:=0) rfl (by simp [hy0]);rw [z0]at s0;have l0:=s0.str;rw [zCg]at l0;have s1:Szd P f1.type y1.1:=Szd.field he hzi (j:=1) rfl (by simp [hy1]);rw [z1]at s1;have l1:=s1.str;rw [zCg]at l1;exact⟨⟨xi.data.toList,xs.data.toList,xb⟩,⟨l0,l1⟩,by rw [zK5];simpa using c0,by rw [zK5];simpa using c1,by simpa using c2⟩
  have hll:((List.range len).map fun i=>if h:i<len then(key i h).choose else(⟨[],[],false⟩:Wri)).length=len:=by simp
  refine⟨(List.range len).map fun i=>if h:i<len then(key i h).choose else(⟨[],[],false⟩:Wri),?_,?_⟩
  .intro y hy;obtain⟨i,hi',rfl⟩:=yP.1 hy;have hil:=yt.1 hi';simp only [hil,dite_true];exact(key i hil).choose_spec.1
  .unfold Wrs;rw [hll];refine⟨by rw [zD7,hll],some a,cap,rfl,hl,hcm,(fun h=>by cases h),fun hl0=> ?_⟩;obtain⟨x0,_,hc0,_⟩:=key 0 hl0;obtain⟨ab,ao,asp⟩:=a;obtain⟨hsp,hblt⟩:=zBY hc0;simp [Addr.add]at hsp hblt;subst hsp;refine⟨ab,ao,rfl,hblt,fun j u hu=> ?_⟩;have hjl:j<len*3:=by
    have:=(yg.1 hu).1;rw [zD7,hll]at this;exact this
   have hq:j / 3<len:=by omega
   have hk:=(key (j / 3) hq).choose_spec.2;have hat:=zC3 (l:=(List.range len).map fun i=>if h:i<len then(key i h).choose else(⟨[],[],false⟩:Wri)) (j:=j / 3) (by rw [hll];exact hq);simp only [Z5,ZZ,hq,dite_true]at hat;generalize (key (j / 3) hq).choose=y at hk hat;simp only [z0U]at hk;have hmod:j=j / 3*3∨j=j / 3*3+1∨j=j / 3*3+2:=by omega
   rcases hmod with h|h|h
   .rw [h]at hu ⊢;rw [hat.1]at hu;injection hu with hu
    rw [<-hu];exact hk.1
   .rw [h]at hu ⊢;rw [hat.2.1]at hu;injection hu with hu
    rw [<-hu];exact hk.2.1
   .rw [h]at hu ⊢;rw [hat.2.2]at hu;injection hu with hu
    rw [<-hu];exact hk.2.2
theorem zDk{r:Reach}{b0:Nat}{t e ts es tw ew:TypeId}{f0 f1 f2 f3 f4 g0 g1 q0 q1 q2:Field}{v:Value}{d:DataW H}{ps:List MemPlace}(ht:P.underlying t=some (.slice e))(he:P.underlying e=some (.struct #[f0,f1,f2,f3,f4]))(hone:oneCellFields P #[f0,f1,f2,f3,f4]=true)(hC:P.cellsOf e=5)
 (h0:P.underlying f0.type=some (.int .i64)) (h1:P.underlying f1.type=some (.int .i64)) (h2:P.underlying f2.type=some (.int .u64)) (h4:f3.type=tw) (htw:P.underlying tw=some (.slice ew)) (hew:P.underlying ew=some (.struct #[q0,q1,q2])) (honew:oneCellFields P #[q0,q1,q2]=true) (hCw:P.cellsOf ew=3) (m0:P.underlying q0.type=some .string) (m1:P.underlying q1.type=some .string) (m2:P.underlying q2.type=some .bool) (h3:f4.type=ts) (hts:P.underlying ts=some (.slice es)) (hes:P.underlying es=some (.struct #[g0,g1])) (hones:oneCellFields P #[g0,g1]=true) (hCs:P.cellsOf es=2)
 (k0:P.underlying g0.type=some (.int .i64)) (k1:P.underlying g1.type=some (.int .i64)) (hval:Value.okWide P w r b0 t v) (h:DataW.Trod enc P w base spare held t v d ps) (hz:Szd P t d):∃xs:List VAct,VActs w v xs:=by
 subst h3 h4;obtain⟨fuel,hf⟩:=h;obtain⟨a',len',cap',rfl⟩:=okWide_slice ht hval;rcases z28 ht he hone (by simpa using hC) hf with⟨hc,_⟩|⟨a,len,cap,m,D,Pl,hcs,_,hl,hcm,hm,hxx,hi⟩
 .obtain⟨rfl,rfl,rfl⟩:a'=none/\len'=0/\cap'=0:=by simpa [Value.cells]using hc
  exact⟨[],none,0,rfl,by simp,by simp,fun h=>by simp at h⟩
 .have hlm:len<=m:=by rw [hm];split<;>omega
  have hxd:d= .slice ((List.range len).map D) ((List.range (m-len)).map fun j=>D (len+j)):=congrArg Prod.fst hxx;rw [hxd]at hz;have key:∀i,i<len->∃x:VAct,x.Ok w/\w.cell? (a.add (i*5))=some (.int .i64 x.kind)/\w.cell? (a.add (i*5+1))=some (.int .i64 x.most)/\w.cell? (a.add (i*5+2))=some (.int .u64 (x.at_:Int))/\w.cell? (a.add (i*5+3))=some x.wv/\w.cell? (a.add (i*5+4))=some x.lv:=by
   intro i hil;obtain⟨ys,n,hD,_,_,hfs⟩:=hi i (by omega);have hzi:Szd P e (D i):=Szd.elem ht hz (yP.2 ⟨i,yt.2 hil,rfl⟩);rw [hD]at hzi;obtain⟨v0,y0,c0,_,t0⟩:=hfs 0 f0 rfl;obtain⟨v1,y1,c1,_,t1⟩:=hfs 1 f1 rfl;obtain⟨v2,y2,c2,_,t2⟩:=hfs 2 f2 rfl;obtain⟨v3,y3,c3,hy3,t3⟩:=hfs 3 f3 rfl;obtain⟨v4,y4,c4,_,t4⟩:=hfs 4 f4 rfl;obtain⟨x,e0,_,b0⟩:=QB h0 t0;obtain⟨y,e1,_,b1⟩:=QB h1 t1;obtain⟨z,e2,_,b2⟩:=QB h2 t2;obtain rfl:v0=_:=by simpa using e0
   obtain rfl:v1=_:=by simpa using e1
   obtain rfl:v2=_:=by simpa using e2
   obtain⟨q,rfl,hq⟩:=zGU b2;have s3:Szd P f3.type y3.1:=Szd.field he hzi (j:=3) rfl (by simp [hy3]);obtain⟨ws,hwl,hws⟩:=zDl htw hew honew hCw m0 m1 m2 t3 s3;obtain⟨l,_,hsv⟩:=zFZ hts hes hones hCs k0 k1 t4;exact⟨⟨x,y,q,ws,l,v3,v4⟩,⟨zCT b0,zCT b1,hq,hwl,hws,hsv⟩,by simpa using c0,by simpa using c1,by simpa using c2,by simpa using c3,by simpa using c4⟩
  obtain⟨rfl,rfl,rfl⟩:a'=some a/\len'=len/\cap'=cap:=by simpa [Value.cells]using hcs
  have hll:((List.range len').map fun i=>if h:i<len' then(key i h).choose else(⟨0,0,0,[],[],.slice none 0 0,.slice none 0 0⟩:VAct)).length=len':=by simp
  refine⟨(List.range len').map fun i=>if h:i<len' then(key i h).choose else(⟨0,0,0,[],[],.slice none 0 0,.slice none 0 0⟩:VAct),some a,cap',by rw [hll],by rw [hll];simp only [maxLen]at hcm;omega,?_,fun hl0=> ?_⟩
  .intro y hy;obtain⟨i,hi',rfl⟩:=yP.1 hy;have hil:=yt.1 hi';simp only [hil,dite_true];exact(key i hil).choose_spec.1
  .rw [hll]at hl0;obtain⟨x,_,hc0,_⟩:=key 0 hl0;obtain⟨ab,ao,asp⟩:=a;obtain⟨hsp,hblt⟩:=z5L hc0;simp [Addr.add]at hsp hblt;subst hsp;refine⟨ab,ao,rfl,hblt,fun j hj=> ?_⟩;have hjl:j<len':=by rw [hll]at hj;exact hj
   have hk:=(key j hjl).choose_spec.2;simp only [Z5,ZZ,hjl,dite_true];generalize (key j hjl).choose=y at hk ⊢;simp only [z0U,<-Z4]at hk;exact hk
end
end
end Go.Proofs.YthnlcbamjehpdaaGreatDoor
