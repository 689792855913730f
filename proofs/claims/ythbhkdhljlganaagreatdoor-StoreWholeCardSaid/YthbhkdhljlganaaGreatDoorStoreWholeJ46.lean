/- Part 46. -/
import Derived.Test.YthbhkdhljlganaaGreatDoorStoreWholeJ40
namespace Go.Proofs.YthbhkdhljlganaaGreatDoor
set_option linter.unusedVariables false
set_option maxHeartbeats 16000000
set_option maxRecDepth 100000
section
open Go.ChangeShapes Go.WideShapes Go.ChangeAt Go.RowKit Go.Deep
section
variable {H:Type} {P:Program}
end
section
variable {H:Type} {enc:TypeId×Value→H} {P:Program} {w:World} {base:Nat} {spare:Nat→Bool} {held:Bool}
theorem z7N{w:World}{a:Addr}{v:Value}(h:w.cell? a=some v):a.spot=none∧a.block<w.heap.size:=by
 refine⟨?_,World.block_lt_of_cell? w _ h⟩;obtain⟨ab,ao,asp⟩:=a;cases asp with
 |none=>rfl
 |some z=>
  unfold World.cell? at h
  split at h
  ·simp at h
  ·cases h
end
section
variable {H:Type} {enc:TypeId×Value→H} {P:Program} {w:World} {base:Nat} {spare:Nat→Bool} {held:Bool}
theorem zAO{r:Reach}{b0:Nat}{t e:TypeId}{f0 f1 f2:Field}{v:Value}{d:DataW H}{ps:List MemPlace}(ht:P.underlying t=some (.slice e))(he:P.underlying e=some (.struct #[f0,f1,f2]))(hone:oneCellFields P #[f0,f1,f2]=true)(hC:P.cellsOf e=3)
 (h0:P.underlying f0.type=some .string) (h1:P.underlying f1.type=some .string) (h2:P.underlying f2.type=some .bool) (hval:Value.okWide P w r b0 t v) (h:DataW.Trod enc P w base spare held t v d ps):∃l:List Chg,Ch (fun b=>b<w.heap.size) w v l:=by
 obtain⟨fuel,hf⟩:=h;obtain⟨a',len',cap',rfl⟩:=okWide_slice ht hval;rcases z3Q ht he hone (by simpa using hC) hf with⟨hc,_⟩|⟨a,len,cap,m,D,Pl,hcs,_,hl,hcm,hm,hxx,hi⟩
 ·obtain⟨rfl,rfl,rfl⟩:a'=none∧len'=0∧cap'=0:=by simpa [Value.cells]using hc
  exact⟨[],Sl.nil⟩
 ·have hlm:len≤m:=by rw [hm];split<;>omega
  have key:∀i,i<len→∃x:Chg,w.cell? (a.add (i*3))=some (.string (st x.k))∧w.cell? (a.add (i*3+1))=some (.string (st x.v))∧w.cell? (a.add (i*3+2))=some (.bool x.gone):=by
   intro i hil;obtain⟨ys,n,hD,_,_,hfs⟩:=hi i (by omega);obtain⟨v0,y0,c0,_,t0⟩:=hfs 0 f0 rfl;obtain⟨v1,y1,c1,_,t1⟩:=hfs 1 f1 rfl;obtain⟨v2,y2,c2,_,t2⟩:=hfs 2 f2 rfl;obtain⟨x,e0,_⟩:=DataW.trod_string h0 t0;obtain⟨y,e1,_⟩:=DataW.trod_string h1 t1;obtain⟨z,e2,_⟩:=DataW.trod_bool h2 t2;obtain rfl:v0=_:=by simpa using e0
   obtain rfl:v1=_:=by simpa using e1
   obtain rfl:v2=_:=by simpa using e2
   exact⟨⟨x.data.toList,y.data.toList,z⟩,by rw [st_of];simpa using c0,by rw [st_of];simpa using c1,by simpa using c2⟩
  obtain⟨rfl,rfl,rfl⟩:a'=some a∧len'=len∧cap'=cap:=by simpa [Value.cells]using hcs
  have hll:((List.range len').map fun i=>if h:i<len' then(key i h).choose else(⟨[],[],false⟩:Chg)).length=len':=by simp
  refine⟨(List.range len').map fun i=>if h:i<len' then(key i h).choose else(⟨[],[],false⟩:Chg),?_⟩;unfold Ch;rw [hll];refine⟨by rw [zBd,hll],some a,cap',rfl,hl,hcm,(fun h=>by cases h),fun hl0=> ?_⟩;obtain⟨x,hc0,_⟩:=key 0 hl0;obtain⟨ab,ao,asp⟩:=a;obtain⟨hsp,hblt⟩:=z7N hc0;simp [Addr.add]at hsp hblt;subst hsp;refine⟨ab,ao,rfl,hblt,fun j u hu=> ?_⟩;have hjl:j<len'*3:=by
   have:=(List.getElem?_eq_some_iff.1 hu).1;rw [zBd,hll]at this;exact this
  have hq:j / 3<len':=by omega
  have hk:=(key (j / 3) hq).choose_spec;have hat:=zFj (l:=(List.range len').map fun i=>if h:i<len' then(key i h).choose else(⟨[],[],false⟩:Chg)) (j:=j / 3) (by rw [hll];exact hq);simp only [List.getElem_map,List.getElem_range,hq,dite_true]at hat;generalize (key (j / 3) hq).choose=y at hk hat;simp only [z0j]at hk;have hmod:j=j / 3*3∨j=j / 3*3+1∨j=j / 3*3+2:=by omega
  rcases hmod with h|h|h
  ·rw [h]at hu ⊢;rw [hat.1]at hu;injection hu with hu
   rw [←hu];exact hk.1
  ·rw [h]at hu ⊢;rw [hat.2.1]at hu;injection hu with hu
   rw [←hu];exact hk.2.1
  ·rw [h]at hu ⊢;rw [hat.2.2]at hu;injection hu with hu
   rw [←hu];exact hk.2.2
theorem zE1{r:Reach}{b0:Nat}{t e:TypeId}{f0 f1:Field}{v:Value}{d:DataW H}{ps:List MemPlace}(ht:P.underlying t=some (.slice e))(he:P.underlying e=some (.struct #[f0,f1]))(hone:oneCellFields P #[f0,f1]=true)(hC:P.cellsOf e=2)
 (h0:P.underlying f0.type=some (.int .i64)) (h1:P.underlying f1.type=some (.int .i64)) (hval:Value.okWide P w r b0 t v) (h:DataW.Trod enc P w base spare held t v d ps):∃l:List (Int×Int),(∀y∈l,InI y.1∧InI y.2)∧Sv (fun b=>b<w.heap.size) w v l:=by
 obtain⟨fuel,hf⟩:=h;obtain⟨a',len',cap',rfl⟩:=okWide_slice ht hval;rcases z3Q ht he hone (by simpa using hC) hf with⟨hc,_⟩|⟨a,len,cap,m,D,Pl,hcs,_,hl,hcm,hm,hxx,hi⟩
 ·obtain⟨rfl,rfl,rfl⟩:a'=none∧len'=0∧cap'=0:=by simpa [Value.cells]using hc
  exact⟨[],by simp,Sl.nil⟩
 ·have hlm:len≤m:=by rw [hm];split<;>omega
  have key:∀i,i<len→∃x:Int×Int,w.cell? (a.add (i*2))=some (.int .i64 x.1)∧w.cell? (a.add (i*2+1))=some (.int .i64 x.2)∧InI x.1∧InI x.2:=by
   intro i hil;obtain⟨ys,n,hD,_,_,hfs⟩:=hi i (by omega);obtain⟨v0,y0,c0,_,t0⟩:=hfs 0 f0 rfl;obtain⟨v1,y1,c1,_,t1⟩:=hfs 1 f1 rfl;obtain⟨x,e0,_,b0⟩:=DataW.trod_int h0 t0;obtain⟨y,e1,_,b1⟩:=DataW.trod_int h1 t1;obtain rfl:v0=_:=by simpa using e0
   obtain rfl:v1=_:=by simpa using e1
   exact⟨⟨x,y⟩,by simpa using c0,by simpa using c1,zIB b0,zIB b1⟩
  obtain⟨rfl,rfl,rfl⟩:a'=some a∧len'=len∧cap'=cap:=by simpa [Value.cells]using hcs
  have hll:((List.range len').map fun i=>if h:i<len' then(key i h).choose else((0,0):Int×Int)).length=len':=by simp
  refine⟨(List.range len').map fun i=>if h:i<len' then(key i h).choose else((0,0):Int×Int),?_,?_⟩
  ·intro y hy;obtain⟨i,hi',rfl⟩:=List.mem_map.1 hy;have hil:=List.mem_range.1 hi';simp only [hil,dite_true];exact(key i hil).choose_spec.2.2
  ·unfold Sv;rw [hll];refine⟨by rw [zFd,hll],some a,cap',rfl,hl,hcm,(fun h=>by cases h),fun hl0=> ?_⟩;obtain⟨x,hc0,_⟩:=key 0 hl0;obtain⟨ab,ao,asp⟩:=a;obtain⟨hsp,hblt⟩:=z7N hc0;simp [Addr.add]at hsp hblt;subst hsp;refine⟨ab,ao,rfl,hblt,fun j u hu=> ?_⟩;have hjl:j<len'*2:=by
    have:=(List.getElem?_eq_some_iff.1 hu).1;rw [zFd,hll]at this;exact this
   have hq:j / 2<len':=by omega
   have hk:=(key (j / 2) hq).choose_spec;have hat:=zCI (l:=(List.range len').map fun i=>if h:i<len' then(key i h).choose else((0,0):Int×Int)) (j:=j / 2) (by rw [hll];exact hq);simp only [List.getElem_map,List.getElem_range,hq,dite_true]at hat;generalize (key (j / 2) hq).choose=y at hk hat;simp only [z0j]at hk;have hmod:j=j / 2*2∨j=j / 2*2+1:=by omega
   rcases hmod with h|h
   ·rw [h]at hu ⊢;rw [hat.1]at hu;injection hu with hu
    rw [←hu];exact hk.1
   ·rw [h]at hu ⊢;rw [hat.2]at hu;injection hu with hu
    rw [←hu];exact hk.2.1
end
end
end Go.Proofs.YthbhkdhljlganaaGreatDoor
