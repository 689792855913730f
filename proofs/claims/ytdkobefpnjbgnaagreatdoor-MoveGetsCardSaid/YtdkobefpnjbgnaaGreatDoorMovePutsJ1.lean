/- Part 1. -/
import Derived.WalkKit
import Derived.WalkSpells
import Derived.WalkLawsBesides
import Derived.Maps.AppendAt
import Derived.Deep.AppendLies
import Derived.Deep.Draws
import Derived.Lib.Hide
import Derived.Laws.IdiomStrings
import Derived.Test.YtdkobefpnjbgnaaGreatDoorProg
import Derived.Deep.QuietTactic
import Derived.BigQuiet
import Derived.Lib.SlBytesConst
import Derived.Laws.OwnMore
import Derived.RegionTactic
import Derived.Lib.AppendStr
import Derived.Laws.BitsAllLaws
import Derived.Laws.Rows
namespace Go.Proofs.YtdkobefpnjbgnaaGreatDoor
set_option linter.unusedVariables false
set_option maxHeartbeats 16000000
set_option maxRecDepth 100000
section
open Go Go.RowKit
def Sl(S:Nat→Prop)(w:World)(size:Nat)(v:Value)(n:Nat)(xs:List Value):Prop:=
 xs.length=n*size∧∃A c,v= .slice A n c∧n≤c∧c≤maxLen∧(A=none→c=0)∧
  (0<n→∃b o,A=some ⟨b,o,none⟩∧S b∧∀j u,xs[j]? =some u→w.cell? ⟨b,o+j,none⟩=some u)
theorem z0U(b o j:Nat):(⟨b,o,none⟩:Addr).add j=⟨b,o+j,none⟩:=by
 unfold Addr.add
 split<;>simp_all
section
variable {S S':Nat→Prop} {w w':World} {size n:Nat} {v:Value} {xs:List Value}
theorem Sl.nil:Sl S w size (.slice none 0 0) 0 []:=⟨by simp,none,0,rfl,by omega,by simp [maxLen],fun _=>rfl,fun h=>by omega⟩
theorem Sl.keep(h:Sl S w size v n xs)(hk:∀b o,S b→w'.cell? ⟨b,o,none⟩=w.cell? ⟨b,o,none⟩):Sl S w' size v n xs:=by
 obtain⟨h1,A,c,h2,h3,h4,h5,h6⟩:=h;refine⟨h1,A,c,h2,h3,h4,h5,fun hn=> ?_⟩;obtain⟨b,o,ha,hs,hc⟩:=h6 hn;exact⟨b,o,ha,hs,fun j u hu=>(hk _ _ hs).trans (hc j u hu)⟩
theorem Sl.more(h:Sl S w size v n xs)(hS:∀b,S b→S' b):Sl S' w size v n xs:=by
 obtain⟨h1,A,c,h2,h3,h4,h5,h6⟩:=h;refine⟨h1,A,c,h2,h3,h4,h5,fun hn=> ?_⟩;obtain⟨b,o,ha,hs,hc⟩:=h6 hn;exact⟨b,o,ha,hS _ hs,hc⟩
theorem Sl.lt(h:Sl S w size v n xs)(hp:0<size):Sl (fun b=>S b∧b<w.heap.size) w size v n xs:=by
 obtain⟨h1,A,c,h2,h3,h4,h5,h6⟩:=h;refine⟨h1,A,c,h2,h3,h4,h5,fun hn=> ?_⟩;obtain⟨b,o,ha,hs,hc⟩:=h6 hn;refine⟨b,o,ha,⟨hs,?_⟩,hc⟩;have hl:0<xs.length:=by rw [h1];exact Nat.mul_pos hn hp
 exact World.block_lt_of_cell? w _ (hc 0 _ (List.getElem?_eq_getElem hl))
theorem Sl.below{B:Nat}(h:Sl S w size v n xs)(hb:Below B w w')(hS:∀b,S b→b<B):Sl S w' size v n xs:=
 h.keep fun b o hs=>hb.cell (p:=⟨b,o,none⟩) (hS b hs)
theorem Sl.drew(h:Sl S w size v n xs):Sl S w.drew size v n xs:=h
theorem Sl.drewN(h:Sl S w size v n xs)(k:Nat):Sl S (w.drewN k) size v n xs:=h
theorem Sl.alloc(h:Sl S w size v n xs)(hS:∀b,S b→b<w.heap.size)(o:Obj):Sl S (w.alloc o) size v n xs:=
 h.keep fun b o' hs=>World.cell?_alloc_lt w o ⟨b,o',none⟩ (hS b hs)
theorem Sl.alloc1(h:Sl S w 1 v n xs)(o:Obj):Sl S (w.alloc o) 1 v n xs:=
 ((h.lt (by omega)).alloc (fun _ hb=>hb.2) o).more fun _ hb=>hb.1
theorem Sl.setCell(h:Sl S w size v n xs){p:Addr}(hp:¬S p.block)(u:Value):Sl S (w.setCell p u) size v n xs:=
 h.keep fun b o hs=>World.cell?_setCell_other w p ⟨b,o,none⟩ u (fun e=>hp (by subst e;exact hs))
theorem Sl.grown{row:Option Nat}(h:Sl S w size v n xs)(hg:w.grownBy w' row)(hlt:∀b,S b→b<w.heap.size)(hr:∀b,S b→some b≠row):Sl S w' size v n xs:=
 h.keep fun b o hs=>World.cell?_of_block (hg.block b (hlt b hs) (hr b hs))
theorem Sl.of_own{base:Nat}{e:TypeId}(hsz:0<size)(h:w.ownsRow base e size v n xs):Sl (fun b=>base≤b∧b<w.heap.size) w size v n xs:=by
 have hlt:=h.lt;have hcells:∀ {g:Nat},v.ownBlock=some g→_:=fun {g} hg=>h.cells (g:=g) hg
 refine⟨h.1,?_⟩;rcases h.2 with⟨rfl,rfl⟩|⟨g,cap,cur,rfl,hb,hg,hnc,hcm,_⟩
 ·exact⟨none,0,rfl,by omega,by simp [maxLen],fun _=>rfl,fun hn=>by omega⟩
 ·refine⟨_,cap,rfl,hnc,hcm,fun hh=>(by cases hh),fun _=>⟨g,0,rfl,hlt g rfl,fun j u hu=> ?_⟩⟩;have:=hcells (g:=g) rfl j u hu
  rwa [z0U]at this
end
structure Elem(P:Program)(t e:TypeId)(z:Value)(size bytes:Nat):Prop where
 under:P.underlying t=some (.slice e)
 info:∃i,P.info? e=some i∧i.zero=some z∧i.size=size∧i.bytes=bytes
 cells:z.cells.size=size
 pos:0<size
theorem Elem.mk'{P:Program}{t e:TypeId}{z:Value}{size bytes:Nat}(hu:P.underlying t=some (.slice e))
 (hi:(P.info? e).map (fun i=>(i.zero,i.size,i.bytes))=some (some z,size,bytes)) (hc:z.cells.size=size) (hp:0<size):Elem P t e z size bytes:=
 ⟨hu,info_parts hi,hc,hp⟩
theorem z0p{w:World}{base:Nat}{e:TypeId}{size n:Nat}{v:Value}{xs:List Value}(h:w.ownsRow base e size v n xs):∃A k c,v= .slice A k c:=by
 rcases h.2 with⟨rfl,_⟩|⟨g,cap,_,rfl,_⟩
 ·exact⟨_,_,_,rfl⟩
 ·exact⟨_,_,_,rfl⟩
theorem z0V{w:World}{base:Nat}{e:TypeId}{size n:Nat}{A:Option Addr}{k c:Nat}{xs:List Value}(h:w.ownsRow base e size (.slice A k c) n xs):k=n:=by
 rcases h.2 with⟨hv,hn⟩|⟨g,cap,_,hv,_⟩
 ·injection hv with _ h2 _;omega
 ·injection hv
section
variable {P:Program} (w:World)
theorem z5a{base:Nat}{t e:TypeId}{z:Value}{size bytes:Nat}(E:Elem P t e z size bytes)(ty:TypeId)
 {v:Value} {n:Nat} {xs:List Value} (hown:w.ownsRow base e size v n xs) (c:Nat):(Builtin.append_ #[t,t] ty #[v,.slice none 0 c]).run P w= .ok v w:=by
 obtain⟨i,hi,_⟩:=E.info;rcases hown.2 with⟨rfl,rfl⟩|⟨g,cap,cur,rfl,_,_,hnc,_⟩
 ·simp [Builtin.append_,run_underlying E.under,sizeOf,typeInfo,hi,Builtin.lenOf,Builtin.firstCells]
 ·simp [Builtin.append_,run_underlying E.under,sizeOf,typeInfo,hi,Builtin.lenOf,Builtin.firstCells,hnc,storeCells]
theorem z1b{base:Nat}{t e:TypeId}{z:Value}{size bytes:Nat}(E:Elem P t e z size bytes)(ty:TypeId)
 {v:Value} {n:Nat} {xs:List Value} (hown:w.ownsRow base e size v n xs)
 {S:Nat→Prop} {u:Value} {m:Nat} {news:List Value} (hr:Sl S w size u m news) (h1:∀x∈news,x.oneCell'=true)
 (hlen:n+m≤maxLen) (hbytes:(n+m)*bytes≤140737488355328) (hbase:base≤w.heap.size):
 ∃v' w',(Builtin.append_ #[t,t] ty #[v,u]).run P w= .ok v' w'∧w'.ownsRow base e size v' (n+m) (xs++news)∧w.grownBy w' v.ownBlock∧
  (v'.ownBlock=v.ownBlock∨v'.ownBlock=some w.heap.size):=by
 obtain⟨hl,A,c,rfl,hmc,hcm,hA0,hA⟩:=hr;have hE:=E;obtain⟨i,hi,hz,hsz,hby⟩:=E.info;rcases Nat.eq_zero_or_pos m with hm|hm
 ·subst hm;obtain rfl:news= []:=List.eq_nil_of_length_eq_zero (by simpa using hl);rcases A with _|ad
  ·exact⟨v,w,z5a w hE ty hown c,by simpa using hown,World.grownBy.refl w _,.inl rfl⟩
  ·obtain⟨v',w',hrun,h2,h3,_,h5⟩:=run_append_own_at (P:=P) w base t ty e i z size bytes E.under hi hz hsz hby E.cells E.pos v n xs hown ad 0 c [] (by simp) (fun j u hu=>by simp at hu) (fun u hu=>by simp at hu) hlen hbytes hbase;exact⟨v',w',hrun,h2,h3,h5⟩
 ·obtain⟨b,o,rfl,_,hc⟩:=hA hm;obtain⟨v',w',hrun,h2,h3,_,h5⟩:=run_append_own_at (P:=P) w base t ty e i z size bytes E.under hi hz hsz hby E.cells E.pos v n xs hown ⟨b,o,none⟩ m c news hl (fun j u hu=>by rw [z0U];exact hc j u hu) h1 hlen hbytes hbase;exact⟨v',w',hrun,h2,h3,h5⟩
theorem z05{ops:Array Oper}{rest:List Oper}{o:Oper}{a:Act}{Q:Exit→Act→World→Prop}(hgd:o.guard=none)(s x:Operand){t e:TypeId}{z:Value}{size bytes:Nat}
 (E:Elem P t e z size bytes) (ho:o.op= .call {callee:= .builtin .append,args:= #[s,x],argTypes:= #[t,t]})
 {base:Nat} {v:Value} {n:Nat} {xs:List Value} (hown:w.ownsRow base e size v n xs)
 {S:Nat→Prop} {u:Value} {m:Nat} {news:List Value} (hr:Sl S w size u m news) (hs:a.eval s=v) (hx:a.eval x=u) (h1:∀y∈news,y.oneCell'=true)
 (hlen:n+m≤maxLen) (hbytes:(n+m)*bytes≤140737488355328) (hbase:base≤w.heap.size)
 (h:∀A k c w',w'.ownsRow base e size (.slice A k c) (n+m) (xs++news)→w.grownBy w' v.ownBlock→((Value.slice A k c).ownBlock=v.ownBlock∨(Value.slice A k c).ownBlock=some w.heap.size)→wpList P ops Q rest (a.put o.dst (.slice A k c)) w'):
 wpList P ops Q (o::rest) a w:=by
 refine wpList_plain hgd fun K hK=> ?_
 obtain⟨v',w',hrun,h2,h3,h4⟩:=z1b (P:=P) w E o.type hown hr h1 hlen hbytes hbase;obtain⟨A,k,c,rfl⟩:=z0p h2;unfold Oper.wp execOp;simp only [ho,resolve,invoke,builtin,Sem.run_bind,Sem.run_pure,Result.andThen_ok,List.map_toArray,List.map_cons,List.map_nil,hs,hx,hrun];exact hK _ _ (h A k c w' h2 h3 h4)
end
def bv(l:List UInt8):List Value:=l.map fun b=> .int .u8 (b.toNat:Int)
theorem z6b(l m:List UInt8):bv (l++m)=bv l++bv m:=by simp [bv]
theorem zIJ(l:List UInt8):∀u∈bv l,u.oneCell'=true:=by
 intro u hu;obtain⟨_,_,rfl⟩:=List.mem_map.1 hu;rfl
theorem zJ3{l:List UInt8}{j:Nat}(h:j<l.length):(bv l)[j]? =some (.int .u8 (l[j].toNat:Int)):=by simp [bv,List.getElem?_eq_getElem h]
def Bs(S:Nat→Prop)(w:World)(v:Value)(l:List UInt8):Prop:=Sl S w 1 v l.length (bv l)
def Ob(e:TypeId)(w:World)(B:Nat)(v:Value)(l:List UInt8):Prop:=w.ownsRow B e 1 v l.length (bv l)
theorem Ob.nil(e:TypeId)(w:World)(B:Nat):Ob e w B (.slice none 0 0) []:=World.ownsRow_nil w B e 1
theorem Ob.made(e:TypeId)(w:World)(B:Nat)(hB:B≤w.heap.size){g:Nat}(hg:g=w.heap.size):Ob e (w.alloc (.cells #[] e)) B (.slice (some ⟨g,0,none⟩) 0 0) []:=by
 subst hg;exact World.ownsRow_made w #[] 0 hB (by simp [maxLen]) (by simp)
theorem Ob.len{e:TypeId}{w:World}{B:Nat}{A:Option Addr}{k c:Nat}{l:List UInt8}(h:Ob e w B (.slice A k c) l):k=l.length:=z0V h
theorem Ob.bs{e:TypeId}{w:World}{B:Nat}{v:Value}{l:List UInt8}(h:Ob e w B v l):Bs (fun b=>B≤b∧b<w.heap.size) w v l:=Sl.of_own (by omega) h
theorem Ob.alloc{e:TypeId}{w:World}{B:Nat}{v:Value}{l:List UInt8}(h:Ob e w B v l)(o:Obj):Ob e (w.alloc o) B v l:=World.ownsRow.alloc h o
theorem Ob.lower{e:TypeId}{w:World}{B B':Nat}{v:Value}{l:List UInt8}(h:Ob e w B v l)(hB:B'≤B):Ob e w B' v l:=by
 obtain⟨h1,h2⟩:=h;refine⟨h1,?_⟩;rcases h2 with h2|⟨g,cap,cur,hv,hg,r⟩
 ·exact .inl h2
 ·exact .inr ⟨g,cap,cur,hv,Nat.le_trans hB hg,r⟩
theorem Ob.later{e:TypeId}{w w':World}{B:Nat}{v:Value}{l:List UInt8}(h:Ob e w B v l)(hb:Below w.heap.size w w'):Ob e w' B v l:=by
 obtain⟨h1,h2⟩:=h;refine⟨h1,?_⟩;rcases h2 with h2|⟨g,cap,cur,hv,hg,hh,r⟩
 ·exact .inl h2
 ·exact .inr ⟨g,cap,cur,hv,hg,(hb.block g (lt_of_block hh)).trans hh,r⟩
theorem Bs.one(w:World)(e:TypeId)(x:Int)(h0:0≤x)(h1:x≤255){g:Nat}(hg:g=w.heap.size):Bs (fun b=>b=w.heap.size) (w.alloc (.cells #[.int .u8 x] e)) (.slice (some ⟨g,0,none⟩) 1 1) [UInt8.ofNat x.toNat]:=by
 subst hg;refine⟨by simp [bv],_,1,rfl,by simp,by simp [maxLen],(fun h=>by cases h),fun _=>⟨_,0,rfl,rfl,fun j u hu=> ?_⟩⟩;rcases j with _|j
 ·simp [bv]at hu;subst hu;rw [World.cell?_alloc_new];simp;omega
 ·simp [bv]at hu
theorem Bs.at{S:Nat→Prop}{w:World}{v:Value}{l:List UInt8}(h:Bs S w v l):∃A c,v= .slice A l.length c∧l.length≤c∧c≤maxLen∧(A=none→c=0)∧
 (0<l.length→∃b o,A=some ⟨b,o,none⟩∧S b∧∀j (hj:j<l.length),w.cell? ⟨b,o+j,none⟩=some (.int .u8 (l[j].toNat:Int))):=by
 obtain⟨_,A,c,h2,h3,h4,h5,h6⟩:=h;refine⟨A,c,h2,h3,h4,h5,fun hn=> ?_⟩;obtain⟨b,o,ha,hs,hc⟩:=h6 hn;exact⟨b,o,ha,hs,fun j hj=>hc j _ (zJ3 hj)⟩
theorem Bs.mk_{S:Nat→Prop}{w:World}{l:List UInt8}{A:Option Addr}{c:Nat}(h3:l.length≤c)(h4:c≤maxLen)(h5:A=none→c=0)
 (h6:0<l.length→∃b o,A=some ⟨b,o,none⟩∧S b∧∀j (hj:j<l.length),w.cell? ⟨b,o+j,none⟩=some (.int .u8 (l[j].toNat:Int))):Bs S w (.slice A l.length c) l:=by
 refine⟨by simp [bv],A,c,rfl,h3,h4,h5,fun hn=> ?_⟩;obtain⟨b,o,ha,hs,hc⟩:=h6 hn;refine⟨b,o,ha,hs,fun j u hu=> ?_⟩;have hj:j<l.length:=by
  have:=(List.getElem?_eq_some_iff.1 hu).1;simpa [bv]using this
 rw [zJ3 hj]at hu;rw [hc j hj];exact hu
theorem Bs.cut{S:Nat→Prop}{w:World}{l:List UInt8}{b o c:Nat}(h:Bs S w (.slice (some ⟨b,o,none⟩) l.length c) l){k:Nat}(hk:k≤l.length):
 Bs S w (.slice (if c=k then some ⟨b,o,none⟩else some ⟨b,o+k,none⟩) (l.length-k) (c-k)) (l.drop k):=by
 obtain⟨A',c',hv,h3,h4,h5,h6⟩:=h.at;injection hv with hA _ hc
 subst hA hc;rw [←List.length_drop];refine Bs.mk_ (by rw [List.length_drop];omega) (by omega) (fun hn=>by split at hn<;>cases hn) fun hn=> ?_
 rw [List.length_drop]at hn;obtain⟨b',o',hA,hS,hc⟩:=h6 (by omega);injection hA with hA
 injection hA with hb ho
 subst hb ho;rw [if_neg (by omega)];refine⟨b,o+k,rfl,hS,fun j hj=> ?_⟩;rw [List.length_drop]at hj;rw [Nat.add_assoc,hc (k+j) (by omega),List.getElem_drop]
theorem z03{P:Program}(w:World){ops:Array Oper}{rest:List Oper}{o:Oper}{a:Act}{Q:Exit→Act→World→Prop}(hgd:o.guard=none)(s x:Operand){t e:TypeId}
 (E:Elem P t e (.int .u8 0) 1 1) (ho:o.op= .call {callee:= .builtin .append,args:= #[s,x],argTypes:= #[t,t]})
 {base:Nat} {v:Value} {l:List UInt8} (hown:Ob e w base v l)
 {S:Nat→Prop} {u:Value} {m:List UInt8} (hr:Bs S w u m) (hs:a.eval s=v) (hx:a.eval x=u)
 (hlen:l.length+m.length≤140737488355328) (hbase:base≤w.heap.size)
 (h:∀A k c w',Ob e w' base (.slice A k c) (l++m)→w.grownBy w' v.ownBlock→((Value.slice A k c).ownBlock=v.ownBlock∨(Value.slice A k c).ownBlock=some w.heap.size)→wpList P ops Q rest (a.put o.dst (.slice A k c)) w'):
 wpList P ops Q (o::rest) a w:=
 z05 w hgd s x E ho hown hr hs hx (zIJ _) (by simp only [maxLen];omega) (by omega) hbase fun A k c w' h2 h3 h4=>
  h A k c w' (by unfold Ob;rw [z6b,List.length_append];exact h2) h3 h4
theorem z02{B:Nat}{w0 w w':World}{e:TypeId}{size n:Nat}{v:Value}{xs:List Value}(h:Below B w0 w)(hown:w.ownsRow B e size v n xs)(hg:w.grownBy w' v.ownBlock)(hB:B≤w.heap.size):Below B w0 w':=
 h.grown hg hB fun k hk=>(hown.lt k hk).1
def Blk(w:World)(g:Nat)(t:TypeId)(cs:Array Value):Prop:=w.heap[g]? =some (.cells cs t (0,0))
section
variable {w w':World} {g:Nat} {t:TypeId} {cs:Array Value}
theorem Blk.lt(h:Blk w g t cs):g<w.heap.size:=lt_of_block h
theorem Blk.cell(h:Blk w g t cs)(i:Nat):w.cell? ⟨g,i,none⟩=cs[i]? :=by unfold Blk at h;simp [World.cell?,h]
theorem Blk.free(h:Blk w g t cs)(i:Nat):w.frozen? ⟨g,i,none⟩=false:=by unfold Blk at h;simp [World.frozen?,h]
theorem Blk.new(w:World)(t:TypeId)(cs:Array Value):Blk (w.alloc (.cells cs t)) w.heap.size t cs:=heap_alloc_new w _
theorem Blk.drew(h:Blk w g t cs):Blk w.drew g t cs:=h
theorem Blk.drewN(h:Blk w g t cs)(n:Nat):Blk (w.drewN n) g t cs:=h
theorem Blk.alloc(h:Blk w g t cs)(o:Obj):Blk (w.alloc o) g t cs:=(Below.heap_alloc w o g h.lt).trans h
theorem Blk.put(h:Blk w g t cs)(i:Nat)(u:Value):Blk (w.setCell ⟨g,i,none⟩ u) g t (cs.setIfInBounds i u):=by
 unfold Blk at h ⊢;simp [World.setCell,Array.getElem?_modify,h]
theorem Blk.put1{v:Value}(h:Blk w g t #[v])(u:Value):Blk (w.setCell ⟨g,0,none⟩ u) g t #[u]:=h.put 0 u
theorem Blk.far(h:Blk w g t cs){p:Addr}(hp:g≠p.block)(u:Value):Blk (w.setCell p u) g t cs:=(Below.heap_setCell w p u g hp).trans h
theorem Blk.below{B:Nat}(h:Blk w g t cs)(hb:Below B w w')(hg:g<B):Blk w' g t cs:=(hb.block g hg).trans h
theorem Blk.later(h:Blk w g t cs)(hb:Below w.heap.size w w'):Blk w' g t cs:=h.below hb h.lt
theorem Blk.grown{row:Option Nat}(h:Blk w g t cs)(hb:w.grownBy w' row)(hg:row≠some g):Blk w' g t cs:=(hb.block g h.lt (fun e=>hg e.symm)).trans h
theorem Blk.ne{g':Nat}{t':TypeId}{cs':Array Value}(h:Blk w g t cs)(h':Blk w g' t' cs')(hne:t≠t'):g≠g':=by
 rintro rfl;unfold Blk at h h';rw [h]at h';injection h' with h'
 injection h' with _ ht
 exact hne ht
theorem z7x{base:Nat}{e:TypeId}{size n:Nat}{v:Value}{xs:List Value}(h:w.ownsRow base e size v n xs)(hg:Blk w g t cs)(hne:e≠t):v.ownBlock≠some g:=by
 rcases h.2 with⟨rfl,_⟩|⟨g',cap,cur,rfl,_,hh,_⟩
 ·simp [Value.ownBlock]
 ·intro he;have e':g'=g:=by simpa [Value.ownBlock]using he
  subst e';exact Blk.ne (t:=e) hh hg hne rfl
theorem Blk.kept{base:Nat}{e:TypeId}{size n:Nat}{v:Value}{xs:List Value}(hg:Blk w g t cs)(h:w.ownsRow base e size v n xs)(hb:w.grownBy w' v.ownBlock)(hne:e≠t):Blk w' g t cs:=
 hg.grown hb (z7x h hg hne)
theorem z1m{base:Nat}{e:TypeId}{size n:Nat}{v:Value}{xs:List Value}(h:w.ownsRow base e size v n xs)(hg:Blk w g t cs)(hne:e≠t)(i:Nat)(u:Value):(w.setCell ⟨g,i,none⟩ u).ownsRow base e size v n xs:=
 ownsRow_setCell_other h (z7x h hg hne) u
end
def zGr(w w':World):Prop:=∃n,w'=w.drewN n
theorem z0K(P:Program)(fn:Fn)(first cap:Array Value)(w:World):(Instr.makeFunc fn first cap).run P w= .ok (.func fn first cap) w:=rfl
def U64:Nat:=18446744073709551616
def z0A(x:Nat):List UInt8:=if x<128 then [UInt8.ofNat x]else UInt8.ofNat (x%128+128)::z0A (x / 128)
termination_by x
theorem z1e{y:Nat}(h:y<128):z0A y= [UInt8.ofNat y]:=by rw [z0A,if_pos h]
theorem z5L{y:Nat}(h:¬y<128):z0A y=UInt8.ofNat (y%128+128)::z0A (y / 128):=by rw [z0A,if_neg h]
theorem z1G(x:Nat):1≤(z0A x).length:=by
 unfold z0A;split<;>simp
theorem z5C:∀ (n x:Nat),x<128 ^ (n+1)→(z0A x).length≤n+1
 |0,x,h=>by rw [z1e (by simpa using h)];simp
 |n+1,x,h=>by
  by_cases hx:x<128
  ·rw [z1e hx];simp
  ·rw [z5L hx,List.length_cons];have:=z5C n (x / 128) (by rw [Nat.pow_succ]at h;exact Nat.div_lt_of_lt_mul (by omega));omega
theorem z06{x:Nat}(h:x<U64):(z0A x).length≤10:=z5C 9 x (Nat.lt_of_lt_of_le h (by unfold U64;decide))
theorem or128:∀a,a<256→a|||128=a%128+128:=by decide+kernel
theorem zDe(y:Nat):bits .or .u8 ((y:Int)%256) 128=(y:Int)%128+128:=by
 have h:=u8_or_nat (y%256) 128 (by omega) (by omega);rw [or128 _ (by omega)]at h;have e:(((y%256:Nat)):Int)=(y:Int)%256:=by omega
 rw [e]at h;exact h.trans (by omega)
def z4S(y:Nat):Nat:=if y=0 then 0 else(z0A y).length
theorem zA0{y:Nat}(h:0<y):z4S y=z4S (y / 128)+1:=by
 unfold z4S;rw [if_neg (by omega)];by_cases hy:y<128
 ·rw [z1e hy,if_pos (by omega)];rfl
 ·rw [z5L hy,if_neg (by omega)];rfl
theorem z8g(x:Nat):1+z4S (x / 128)=(z0A x).length:=by
 unfold z4S;by_cases hx:x<128
 ·rw [z1e hx,if_pos (by omega)];rfl
 ·rw [z5L hx,if_neg (by omega),List.length_cons];omega
def z7C:Nat→Nat→List UInt8→Except Nat (Nat×Nat)
 |_,_,[]=> .error 10
 |i,v,b::r=>
  if(i=9∧1<b.toNat)∨(0<i∧b.toNat=0)then .error 12
  else if b.toNat<128 then .ok (v+b.toNat*128 ^ i,i+1)
  else z7C (i+1) (v+(b.toNat%128)*128 ^ i) r
def z0S(l:List UInt8):Except Nat (Nat×Nat):=z7C 0 0 l
theorem z7c:∀ (l:List UInt8) (i v:Nat),i≤9→v<128 ^ i→∀x n,z7C i v l= .ok (x,n)→x<U64∧i<n∧n≤i+l.length
 | [],_,_,_,_,_,_,h=>by simp [z7C]at h
 |b::r,i,v,hi,hv,x,n,h=>by
  rw [z7C]at h
  split at h
  ·cases h
  ·rename_i hc
   split at h
   ·rename_i hb;simp only [Except.ok.injEq,Prod.mk.injEq]at h;obtain⟨rfl,rfl⟩:=h;refine⟨?_,by omega,by simp⟩;by_cases h9:i=9
    ·subst h9;have:b.toNat≤1:=by omega
     have h1:b.toNat*128 ^ 9≤1*128 ^ 9:=Nat.mul_le_mul_right _ this;unfold U64;omega
    ·have h1:b.toNat*128 ^ i≤127*128 ^ i:=Nat.mul_le_mul_right _ (by omega);have h2:128 ^ i≤128 ^ 8:=Nat.pow_le_pow_right (by omega) (by omega);unfold U64;omega
   ·rename_i hb;by_cases h9:i=9
    ·subst h9;omega
    ·have h1:(b.toNat%128)*128 ^ i≤127*128 ^ i:=Nat.mul_le_mul_right _ (by omega);have:=z7c r (i+1) (v+(b.toNat%128)*128 ^ i) (by omega) (by rw [Nat.pow_succ];omega) x n h;simp;omega
theorem z1X{l:List UInt8}{x n:Nat}(h:z0S l= .ok (x,n)):x<U64∧0<n∧n≤l.length:=by
 have:=z7c l 0 0 (by omega) (by simp) x n h;omega
theorem zI9(a x i:Nat)(ha:a<128 ^ i)(hx:x*128 ^ i<U64)(ha':a<U64):bits .or .u64 (a:Int) (IntKind.u64.wrap ((x:Int)*2 ^ (7*i)))=((a+x*128 ^ i:Nat):Int):=by
 have e:(2:Nat) ^ (7*i)=128 ^ i:=by rw [Nat.pow_mul]
 have e1:((x:Int)*2 ^ (7*i))=((x*128 ^ i:Nat):Int):=by
  rw [Int.natCast_mul,←e,Int.natCast_pow];rfl
 have e2:IntKind.u64.wrap ((x:Int)*2 ^ (7*i))=((x*128 ^ i:Nat):Int):=by
  rw [e1];unfold U64 at hx;simp only [IntKind.wrap,IntKind.bits,IntKind.signed];generalize x*128 ^ i=q at*;simp;omega
 rw [e2];unfold U64 at hx ha';rw [u64_or_nat _ _ ha' hx,Nat.or_comm,nat_join (7*i) (x*128 ^ i) a (by rw [e];exact Nat.mul_mod_left _ _) (by rw [e];exact ha),Nat.add_comm]
theorem and127(x:Nat)(hx:x<256):bits .and .u8 (x:Int) 127=((x%128:Nat):Int):=by
 have h:=u8_and_nat x 127 hx (by omega);rw [nat_mask7]at h;exact h
theorem z9M:∀ (k x:Nat) (s:List UInt8) (i v:Nat),x<128 ^ (k+1)→i+k≤9→(i+k=9→x<128 ^ k*2)→(0<i→0<x)→
 z7C i v (z0A x++s)= .ok (v+x*128 ^ i,i+(z0A x).length)
 |0,x,s,i,v,hx,hi,h9,h0=>by
  have hx':x<128:=by simpa using hx
  rw [z1e hx'];have hb:(UInt8.ofNat x).toNat=x:=by simp;omega
  simp only [List.cons_append,List.nil_append,z7C,hb,List.length_singleton]
  rw [if_neg (by intro hh;rcases hh with⟨h1,h2⟩|⟨h1,h2⟩
                 ·have:=h9 (by omega);simp at this;omega
                 ·have:=h0 h1;omega),if_pos hx']
 |k+1,x,s,i,v,hx,hi,h9,h0=>by
  by_cases hx':x<128
  ·rw [z1e hx'];have hb:(UInt8.ofNat x).toNat=x:=by simp;omega
   simp only [List.cons_append,List.nil_append,z7C,hb,List.length_singleton];rw [if_neg (by omega),if_pos hx']
  ·rw [z5L hx'];have hb:(UInt8.ofNat (x%128+128)).toNat=x%128+128:=by simp;omega
   simp only [List.cons_append,z7C,hb,List.length_cons];rw [if_neg (by omega),if_neg (by omega)];have e:(x%128+128)%128=x%128:=by omega
   rw [e];have hd:x / 128<128 ^ (k+1):=by rw [Nat.pow_succ]at hx;exact Nat.div_lt_of_lt_mul (by omega)
   rw [z9M k (x / 128) s (i+1) _ hd (by omega) (fun h=>by
    have:=h9 (by omega);rw [Nat.pow_succ]at this;exact Nat.div_lt_of_lt_mul (by omega)) (fun _=>by omega)]
   have e2:x%128*128 ^ i+x / 128*128 ^ (i+1)=x*128 ^ i:=by
    rw [Nat.pow_succ,Nat.mul_comm (128 ^ i) 128,←Nat.mul_assoc,←Nat.add_mul]
    congr 1
    omega
   congr 2
   ·omega
   ·omega
theorem z2S{x:Nat}(hx:x<U64)(s:List UInt8):z0S (z0A x++s)= .ok (x,(z0A x).length):=by
 have h:=z9M 9 x s 0 0 (Nat.lt_of_lt_of_le hx (by unfold U64;decide)) (by omega) (fun _=>Nat.lt_of_lt_of_le hx (by unfold U64;decide)) (fun h=>by omega);unfold z0S;rw [h];simp
def beB(v n:Nat):List UInt8:=(List.range n).map fun k=>UInt8.ofNat (v / 256 ^ (n-1-k))
theorem z0u(v n:Nat):(beB v n).length=n:=by simp [beB]
theorem zBm(v n:Nat):beB v (n+1)=beB (v / 256) n++ [UInt8.ofNat v]:=by
 unfold beB;rw [List.range_succ,List.map_append]
 congr 1
 ·apply List.map_congr_left;intro k hk;have hk:=List.mem_range.1 hk;rw [show n+1-1-k=(n-1-k)+1 from by omega,Nat.pow_succ,Nat.mul_comm,Nat.div_div_eq_div_mul]
 ·simp
def deB(l:List UInt8):Nat:=l.foldl (fun v b=>v*256+b.toNat) 0
theorem zEA(l:List UInt8):∀v,l.foldl (fun v b=>v*256+b.toNat) v=v*256 ^ l.length+deB l:=by
 unfold deB
 induction l with
 |nil=>intro v;simp
 |cons b r ih=>
  intro v;rw [List.foldl_cons,ih,List.foldl_cons,ih (0*256+b.toNat),List.length_cons,Nat.pow_succ,Nat.add_mul,Nat.mul_assoc,Nat.mul_comm 256 (256 ^ r.length),Nat.zero_mul,Nat.zero_add,Nat.add_assoc]
theorem z8Z(l:List UInt8)(b:UInt8):deB (l++ [b])=deB l*256+b.toNat:=by simp [deB]
theorem z8Y(l:List UInt8)(b:UInt8):deB (b::l)=b.toNat*256 ^ l.length+deB l:=by
 have:=zEA l (0*256+b.toNat);unfold deB at*;rw [List.foldl_cons,this];simp
theorem zEh(l:List UInt8):deB l<256 ^ l.length:=by
 induction l with
 |nil=>simp [deB]
 |cons b r ih=>
  rw [z8Y,List.length_cons,Nat.pow_succ];have hb:b.toNat<256:=b.toNat_lt;have:b.toNat*256 ^ r.length≤255*256 ^ r.length:=Nat.mul_le_mul_right _ (by omega);omega
theorem z71:∀ (n v:Nat),v<256 ^ n→deB (beB v n)=v
 |0,v,h=>by simp [beB,deB];simp at h;omega
 |n+1,v,h=>by
  rw [zBm,z8Z,z71 n (v / 256) (by rw [Nat.pow_succ]at h;exact Nat.div_lt_of_lt_mul (by omega))];simp;omega
theorem zJZ(l:List UInt8):beB (deB l) l.length=l:=by
 obtain⟨n,hn⟩:∃n,n=l.length:=⟨_,rfl⟩
 induction n generalizing l with
 |zero=>
  obtain rfl:=List.eq_nil_of_length_eq_zero hn.symm;rfl
 |succ n ih=>
  obtain⟨r,b,rfl⟩:∃r b,l=r++ [b]:=⟨l.dropLast,l.getLast (by intro h;subst h;simp at hn),(List.dropLast_concat_getLast _).symm⟩;have hr:n=r.length:=by simpa using hn
  rw [List.length_append,List.length_singleton,zBm,z8Z];have hb:b.toNat<256:=b.toNat_lt;rw [show(deB r*256+b.toNat) / 256=deB r from by omega,ih r hr]
  congr 2
  apply UInt8.toNat_inj.1;simp
theorem zJ9(a x i:Nat)(ha:a<256 ^ i)(hi:i<8)(hx:x<256):bits .or .u64 (IntKind.u64.wrap ((a:Int)*256)) (x:Int)=((a*256+x:Nat):Int):=by
 have h1:a*256<U64:=by
  have h2:256 ^ i≤256 ^ 7:=Nat.pow_le_pow_right (by omega) (by omega);unfold U64;omega
 have e:IntKind.u64.wrap ((a:Int)*256)=((a*256:Nat):Int):=by
  unfold U64 at h1;simp only [IntKind.wrap,IntKind.bits,IntKind.signed];simp;omega
 rw [e];unfold U64 at h1;rw [u64_or_nat _ _ h1 (by omega),nat_join 8 (a*256) x (Nat.mul_mod_left _ _) (by simpa using hx)]
theorem z8o{l:List UInt8}{i:Nat}(h:i<l.length):deB (l.take (i+1))=deB (l.take i)*256+l[i].toNat:=by
 rw [List.take_succ_eq_append_getElem h,z8Z]
theorem z4G(l:List UInt8)(i:Nat):deB (l.take i)<256 ^ i:=
 Nat.lt_of_lt_of_le (zEh _) (Nat.pow_le_pow_right (by omega) (by simp;omega))
def z15:List UInt8→List UInt8→Int
 | [],[]=>0
 | [],_::_=> -1
 |_::_,[]=>1
 |a::l,b::m=>if a.toNat<b.toNat then-1 else if b.toNat<a.toNat then 1 else z15 l m
theorem z8a:∀l m,z15 l m= -1∨z15 l m=0∨z15 l m=1
 | [],[]=>by simp [z15]
 | [],_::_=>by simp [z15]
 |_::_,[]=>by simp [z15]
 |a::l,b::m=>by
  unfold z15
  split
  ·simp
  ·split
   ·simp
   ·exact z8a l m
theorem z3d:∀l,z15 l l=0
 | []=>rfl
 |a::l=>by simp [z15,z3d l]
theorem z6G:∀l m,z15 m l= -z15 l m
 | [],[]=>by simp [z15]
 | [],_::_=>by simp [z15]
 |_::_,[]=>by simp [z15]
 |a::l,b::m=>by
  unfold z15;by_cases h:a.toNat<b.toNat
  ·simp [h,Nat.lt_asymm h]
  ·by_cases h2:b.toNat<a.toNat
   ·simp [h,h2]
   ·simp [h,h2,z6G l m]
theorem zBX:∀l m,z15 l m=0→l=m
 | [],[],_=>rfl
 | [],_::_,h=>by simp [z15]at h
 |_::_,[],h=>by simp [z15]at h
 |a::l,b::m,h=>by
  unfold z15 at h
  split at h
  ·simp at h
  ·split at h
   ·simp at h
   ·rw [zBX l m h,UInt8.toNat_inj.1 (by omega:a.toNat=b.toNat)]
theorem zBa:∀c l m,z15 (c++l) (c++m)=z15 l m
 | [],_,_=>rfl
 |a::c,l,m=>by simp [z15,zBa c l m]
theorem z0d:∀l m,Op.bytesLess l m=decide (z15 l m<0)
 | [],[]=>by simp [z15,Op.bytesLess]
 | [],_::_=>by simp [z15,Op.bytesLess]
 |_::_,[]=>by simp [z15,Op.bytesLess]
 |a::l,b::m=>by
  unfold Op.bytesLess z15;by_cases h:a.toNat<b.toNat
  ·have:a<b:=h;simp [this,h]
  ·have h':¬a<b:=h;by_cases h2:b.toNat<a.toNat
   ·have h3:¬a=b:=by rintro rfl;omega
    simp [h,h',h2,h3]
   ·obtain rfl:a=b:=UInt8.toNat_inj.1 (by omega);simp [h,z0d l m]
theorem zCT:∀l m:List UInt8,l.length=m.length→z15 l m=(if deB l<deB m then-1 else if deB m<deB l then 1 else 0)
 | [],[],_=>by simp [z15,deB]
 | [],_::_,h=>by simp at h
 |_::_,[],h=>by simp at h
 |a::l,b::m,h=>by
  have h':l.length=m.length:=by simpa using h
  have hl:=zEh l;have hm:=zEh m;rw [z8Y,z8Y,h'];rw [h']at hl;unfold z15;by_cases h1:a.toNat<b.toNat
  ·have:(a.toNat+1)*256 ^ m.length≤b.toNat*256 ^ m.length:=Nat.mul_le_mul_right _ h1;rw [Nat.add_mul]at this;rw [if_pos h1,if_pos (by omega)]
  ·rw [if_neg h1];by_cases h2:b.toNat<a.toNat
   ·have:(b.toNat+1)*256 ^ m.length≤a.toNat*256 ^ m.length:=Nat.mul_le_mul_right _ h2;rw [Nat.add_mul]at this;rw [if_pos h2,if_neg (by omega),if_pos (by omega)]
   ·rw [if_neg h2,zCT l m h',show a.toNat=b.toNat from by omega];by_cases h3:deB l<deB m
    ·simp [h3]
    ·by_cases h4:deB m<deB l
     ·simp [h3,h4]
     ·simp [h3,h4]
def z1y(l:List UInt8):List UInt8:=l.flatMap fun b=>if b=0 then [0,255]else [b]
theorem z2J(b:UInt8)(l:List UInt8):z1y (b::l)=(if b=0 then [0,255]else [b])++z1y l:=rfl
theorem z6U(l m:List UInt8):z1y (l++m)=z1y l++z1y m:=by simp [z1y]
theorem zCc(l:List UInt8):z1y (l++ [0])=z1y l++ [0,255]:=by rw [z6U];rfl
theorem zE3(l:List UInt8){b:UInt8}(h:b≠0):z1y (l++ [b])=z1y l++ [b]:=by rw [z6U,z2J,if_neg h];rfl
theorem z8r(l:List UInt8):l.length≤(z1y l).length∧(z1y l).length≤2*l.length:=by
 induction l with
 |nil=>simp [z1y]
 |cons b l ih=>
  rw [z2J];by_cases h:b=0
  ·rw [if_pos h];simp;omega
  ·rw [if_neg h];simp;omega
def z1q:List UInt8→Option (List UInt8)
 | []=>some []
 | [b]=>if b=0 then none else some [b]
 |b::c::r=>if b=0 then(if c=255 then(z1q r).map (0:: ·)else none)else(z1q (c::r)).map (b:: ·)
theorem z6n:z1q []=some []:=by rw [z1q]
theorem z5J(c:UInt8)(r:List UInt8):z1q (0::c::r)=if c=255 then(z1q r).map (0:: ·)else none:=by rw [z1q,if_pos rfl]
theorem zAe:z1q [0]=none:=by rw [z1q,if_pos rfl]
theorem z7p{b:UInt8}(h:b≠0)(r:List UInt8):z1q (b::r)=(z1q r).map (b:: ·):=by
 cases r with
 |nil=>rw [z6n];simp [z1q,h]
 |cons c r=>rw [z1q,if_neg h]
theorem z5K:∀l,z1q (z1y l)=some l
 | []=>z6n
 |b::l=>by
  rw [z2J];by_cases h:b=0
  ·subst h;rw [if_pos rfl];show z1q (0::255::z1y l)=_;rw [z5J,if_pos rfl,z5K l];rfl
  ·rw [if_neg h];show z1q (b::z1y l)=_;rw [z7p h,z5K l];rfl
def z1B(k:List UInt8)(t:Nat):List UInt8:=z1y k++ [0,1]++beB (18446744073709551615-t) 8
def z2o(s:List UInt8):Option (List UInt8×Nat):=
 if s.length<10 then none else if(s.drop (s.length-10)).take 2= [0,1]then
  match z1q (s.take (s.length-10))with
  |some k=>if k.length≤64 then some (k,deB (s.drop (s.length-8)))else none
  |none=>none
 else none
theorem zCl(k:List UInt8)(t:Nat)(hk:k.length≤64)(ht:t<U64):z2o (z1B k t)=some (k,18446744073709551615-t):=by
 have hl:(z1B k t).length=(z1y k).length+10:=by simp [z1B,z0u]
 have e1:(z1B k t).drop (z1y k).length= [0,1]++beB (18446744073709551615-t) 8:=by
  unfold z1B;rw [List.append_assoc,List.drop_left]
 have e2:(z1B k t).take (z1y k).length=z1y k:=by
  unfold z1B;rw [List.append_assoc,List.take_left]
 have e3:(z1B k t).drop ((z1y k).length+2)=beB (18446744073709551615-t) 8:=by
  rw [←List.drop_drop,e1];rfl
 unfold z2o;rw [if_neg (by omega),hl,Nat.add_sub_cancel,e1,e2,show(z1y k).length+10-8=(z1y k).length+2 by omega,e3,if_pos (show List.take 2 ([0,1]++beB (18446744073709551615-t) 8)= [0,1]from rfl),z5K];simp only;rw [if_pos hk,z71 8 _ (by unfold U64 at ht;omega)]
theorem z0s(x y:UInt8)(l m:List UInt8):z15 (x::l) (y::m)=if x.toNat<y.toNat then-1 else if y.toNat<x.toNat then 1 else z15 l m:=by rw [z15]
theorem z1V(x:UInt8)(l m:List UInt8):z15 (x::l) (x::m)=z15 l m:=by rw [z0s,if_neg (by omega),if_neg (by omega)]
theorem z58{x:UInt8}(h:x≠0):0<x.toNat:=by
 rcases Nat.eq_zero_or_pos x.toNat with h0|h0
 ·exact absurd (UInt8.toNat_inj.1 h0) h
 ·exact h0
theorem zFi:∀ (a b u v:List UInt8),z15 (z1y a++0::1::u) (z1y b++0::1::v)=if a=b then z15 u v else z15 a b
 | [],[],u,v=>by
   rw [if_pos rfl];show z15 (0::1::u) (0::1::v)=_;rw [z1V,z1V]
 | [],y::b,u,v=>by
   rw [if_neg (by simp),z2J,show z15 [] (y::b)= -1 from by rw [z15]];by_cases hy:y=0
   ·subst hy;rw [if_pos rfl];show z15 (0::1::u) (0::255::(z1y b++0::1::v))=_;rw [z1V,z0s,if_pos (by decide)]
   ·rw [if_neg hy];show z15 (0::1::u) (y::(z1y b++0::1::v))=_;have:=z58 hy;rw [z0s,if_pos (by simpa using this)]
 |x::a,[],u,v=>by
  rw [if_neg (by simp),z2J,show z15 (x::a) []=1 from by rw [z15]];by_cases hx:x=0
  ·subst hx;rw [if_pos rfl];show z15 (0::255::(z1y a++0::1::u)) (0::1::v)=_;rw [z1V,z0s,if_neg (by decide),if_pos (by decide)]
  ·rw [if_neg hx];show z15 (x::(z1y a++0::1::u)) (0::1::v)=_;have:=z58 hx;rw [z0s,if_neg (by simp),if_pos (by simpa using this)]
 |x::a,y::b,u,v=>by
  have ih:=zFi a b u v;rw [z2J,z2J];by_cases hxy:x=y
  ·subst hxy;have e:(x::a=x::b)↔a=b:=by simp
   rw [z1V x a b];by_cases hx:x=0
   ·subst hx;rw [if_pos rfl];show z15 (0::255::(z1y a++0::1::u)) (0::255::(z1y b++0::1::v))=_;rw [z1V,z1V,ih];simp only [e]
   ·rw [if_neg hx];show z15 (x::(z1y a++0::1::u)) (x::(z1y b++0::1::v))=_;rw [z1V,ih];simp only [e]
  ·rw [if_neg (show ¬ (x::a=y::b)from by simp [hxy]),z0s x y a b];have hne:x.toNat≠y.toNat:=fun h=>hxy (UInt8.toNat_inj.1 h)
   by_cases hx:x=0
   ·subst hx;have hy:y≠0:=fun h=>hxy h.symm
    have:=z58 hy;rw [if_pos rfl,if_neg hy,if_pos (by simpa using this)];show z15 (0::255::(z1y a++0::1::u)) (y::(z1y b++0::1::v))=_;rw [z0s,if_pos (by simpa using this)]
   ·have hx0:=z58 hx;rw [if_neg hx];by_cases hy:y=0
    ·subst hy;rw [if_pos rfl,if_neg (by simp),if_pos (by simpa using hx0)];show z15 (x::(z1y a++0::1::u)) (0::255::(z1y b++0::1::v))=_;rw [z0s,if_neg (by simp),if_pos (by simpa using hx0)]
    ·rw [if_neg hy];show z15 (x::(z1y a++0::1::u)) (y::(z1y b++0::1::v))=_;rw [z0s];by_cases h1:x.toNat<y.toNat
     ·rw [if_pos h1,if_pos h1]
     ·rw [if_neg h1,if_neg h1,if_pos (by omega),if_pos (by omega)]
theorem zGf(p q:Nat)(hp:p<U64)(hq:q<U64):z15 (beB p 8) (beB q 8)=if p<q then-1 else if q<p then 1 else 0:=by
 have h8:(256:Nat) ^ 8=U64:=by unfold U64;decide
 rw [zCT _ _ (by rw [z0u,z0u]),z71 8 p (by rw [h8];exact hp),z71 8 q (by rw [h8];exact hq)]
theorem z9b(l:List UInt8)(t:Nat):z1B l t=z1y l++0::1::beB (18446744073709551615-t) 8:=by simp [z1B]
theorem zDJ(a b:List UInt8)(x y:Nat)(hx:x<U64)(hy:y<U64):z15 (z1B a x) (z1B b y)=if a=b then(if y<x then-1 else if x<y then 1 else 0)else z15 a b:=by
 rw [z9b,z9b,zFi,zGf _ _ (by unfold U64;omega) (by unfold U64;omega)];unfold U64 at hx hy;by_cases h:a=b
 ·rw [if_pos h,if_pos h];by_cases h1:y<x
  ·rw [if_pos h1,if_pos (by omega)]
  ·rw [if_neg h1,if_neg (by omega)];by_cases h2:x<y
   ·rw [if_pos h2,if_pos (by omega)]
   ·rw [if_neg h2,if_neg (by omega)]
 ·rw [if_neg h,if_neg h]
theorem z5v(l:List UInt8):Op.bytesLess l l=false:=by rw [z0d,z3d];rfl
theorem z6J(x y:UInt8)(l m:List UInt8):Op.bytesLess (x::l) (y::m)=if x.toNat<y.toNat then true else if y.toNat<x.toNat then false else Op.bytesLess l m:=by
 rw [z0d,z0d,z0s]
 split
 ·rfl
 ·split<;>rfl
theorem zBu(l:List UInt8):Op.bytesLess l []=false:=by
 rw [z0d];cases l<;>rw [z15]<;>rfl
theorem z8X(y:UInt8)(m:List UInt8):Op.bytesLess [] (y::m)=true:=by rw [z0d,z15];rfl
theorem zHD(c l m:List UInt8):Op.bytesLess (c++l) (c++m)=Op.bytesLess l m:=by rw [z0d,z0d,zBa]
theorem zFw(l:List UInt8):Op.bytesLess l (l++ [0])=true:=by
 have:=zHD l [] [0];rw [List.append_nil]at this;rw [this,z8X]
theorem z9v:∀ (l m:List UInt8),Op.bytesLess l m=true→Op.bytesLess m (l++ [0])=false
 |l,[],h=>by rw [zBu]at h;cases h
 | [],y::m,_=>by
   show Op.bytesLess (y::m) [0]=false;rw [z6J,if_neg (by simp),zBu]
   split<;>rfl
 |x::l,y::m,h=>by
  rw [z6J]at h;show Op.bytesLess (y::m) (x::(l++ [0]))=false;rw [z6J];by_cases h1:x.toNat<y.toNat
  ·rw [if_neg (by omega),if_pos h1]
  ·rw [if_neg h1]at h;by_cases h2:y.toNat<x.toNat
   ·rw [if_pos h2]at h;cases h
   ·rw [if_neg h2]at h;rw [if_neg h2,if_neg h1];exact z9v l m h
theorem z7q(l m:List UInt8):(Op.bytesLess l m=true∧Op.bytesLess m l=false∧(l==m)=false∧(m==l)=false∧z15 l m= -1)∨l=m∨(Op.bytesLess m l=true∧Op.bytesLess l m=false∧(l==m)=false∧(m==l)=false∧z15 l m=1):=by
 have ha:=z6G l m;rcases z8a l m with h|h|h
 ·left;have hne:l≠m:=by rintro rfl;rw [z3d]at h;omega
  refine⟨by rw [z0d,h];rfl,by rw [z0d,ha,h];rfl,by simpa using hne,by simpa using fun h'=>hne h'.symm,h⟩
 ·right;left;exact zBX l m h
 ·right;right;have hne:l≠m:=by rintro rfl;rw [z3d]at h;omega
  refine⟨by rw [z0d,ha,h];rfl,by rw [z0d,h];rfl,by simpa using hne,by simpa using fun h'=>hne h'.symm,h⟩
theorem zG5{l m:List UInt8}(h:Op.bytesLess l m=true):Op.bytesLess m l=false∧(m==l)=false∧(l==m)=false:=by
 rcases z7q l m with h1|rfl|h1
 ·exact⟨h1.2.1,h1.2.2.2.1,h1.2.2.1⟩
 ·rw [z5v]at h;cases h
 ·rw [h1.2.1]at h;cases h
theorem z0Z:Elem Tryz.prog 25 5 (.int .u8 0) 1 1:=Elem.mk' Tryz.underlying25 (by kernel_rfl) rfl (by omega)
theorem zz{p:Prop}(h:p):RowKit.Hid p:=Lib.hid h
theorem z7z(S:Nat→Prop)(v0:Value)(l:List UInt8)(x:Nat)(w:World)(hx:x<U64)(hl:(l++z0A x).length≤1099511627776)(hb:Bs S w v0 l):
 Calls Tryz.prog 73 #[v0,.int .u64 x] w fun e w'=>∃A k c,e= .returned (.slice A k c)∧Ob 5 w' w.heap.size (.slice A k c) (l++z0A x)∧Below w.heap.size w w':=by
 have HB:=zz hb;have hvl:=z1G x;have hlx:l.length≤1099511627776:=by simp at hl;omega
 obtain⟨A,c,rfl,hlc,hcm,hA0,hA⟩:=hb.at;clear hA hA0 hb;go_enter Tryz.func73,Tryz.ntmps73
 go_wp2_with (at_builtin;go_loud (refine z03 _ rfl (.tmp 6) (.tmp 7) z0Z rfl (Ob.made _ _ _ (Nat.le_refl _) (by simp)) (Sl.alloc1 HB.out _) rfl rfl (by simp;omega) (by simp) ?_);intro A1 k1 c1 w1 hown1 hg1 hat1)
 have hbl1:Below w.heap.size w w1:=z02 ((Below.refl _ _).alloc (Nat.le_refl _) _) (Ob.made _ _ _ (Nat.le_refl _) (by simp)) hg1 (by simp);clear hg1 hat1 HB;go_loopw [1,5] (fun xv out wr=>∃y d A k c,xv= .int .u64 ((y:Nat):Int)∧out= .slice A k c∧y<U64∧d++z0A y=l++z0A x∧Ob 5 wr w.heap.size out d∧Below w.heap.size w wr) (fun xv _ _=>(intOf xv).toNat)
 case atStart=>exact⟨x,l,_,_,_,rfl,rfl,hx,rfl,hown1,hbl1⟩
 case round=>
  obtain⟨y,d,A,k,c,rfl,rfl,hy,hd,hown,hbl⟩:=hrel;have hsz:=hbl.size;have hvy:=z1G y;have hdl:d.length<(l++z0A x).length:=by rw [←hd];simp;omega
  have HD:=zz hd;clear hd;by_cases h:y<128
  ·go_wp2_with (at_builtin;go_loud (refine z03 _ rfl (.tmp 19) (.tmp 22) z0Z rfl (hown.alloc _) (Bs.one _ _ _ (by omega) (by omega) (by simp)) rfl rfl (by simp;omega) (by simp;omega) ?_);intro A2 k2 c2 w2 hown2 hg2 hat2)
   go_ret
   refine⟨A2,k2,c2,rfl,?_,z02 (hbl.alloc hsz _) (hown.alloc _) hg2 (by simp;omega)⟩;rw [←HD.out,z1e h];exact hown2
  ·have hor:=zDe y;go_wp2_with (at_builtin;go_loud (refine z03 _ rfl (.tmp 13) (.tmp 17) z0Z rfl (hown.alloc _) (Bs.one _ _ _ (by omega) (by omega) (by simp)) rfl rfl (by simp;omega) (by simp;omega) ?_);intro A2 k2 c2 w2 hown2 hg2 hat2)
   go_roundw
   case rel=>exact⟨y / 128,d++ [UInt8.ofNat (y%128+128)],_,_,_,by go_num,rfl,by omega,by rw [←HD.out,z5L h];simp,by rw [show((y:Int)%128+128).toNat=y%128+128 from by omega]at hown2;exact hown2,z02 (hbl.alloc hsz _) (hown.alloc _) hg2 (by simp;omega)⟩
   case measure=>simp [intOf];omega
theorem z8f(x:Nat)(w:World)(hx:x<U64):
 Calls Tryz.prog 195 #[.int .u64 x] w fun e w'=>e= .returned (.int .i64 (z0A x).length)∧w=w':=by
 have hf:=z8g x;have h10:=z06 hx;have HF:=zz hf;go_enter Tryz.func195,Tryz.ntmps195
 clear hf;go_wp2_with fail
 go_loop [0,3] (fun xv n=>∃y k,xv= .int .u64 ((y:Nat):Int)∧n= .int .i64 ((k:Nat):Int)∧y<U64∧k+z4S y=(z0A x).length) (fun xv _=>(intOf xv).toNat)
 case atStart=>exact⟨x / 128,1,by go_num,rfl,by omega,HF.out⟩
 case round=>
  obtain⟨y,k,rfl,rfl,hy,hkl⟩:=hrel;have hk:k≤10:=by omega
  have HK:=zz hkl;clear hkl;by_cases h:0<y
  ·go_wp2
   go_round
   case rel=>exact⟨y / 128,k+1,by go_num,by go_num,by omega,by have:=HK.out;rw [zA0 h]at this;omega⟩
   case measure=>simp [intOf];omega
  ·go_wp2
   go_ret
   obtain rfl:y=0:=by omega
   have:=HK.out;simp only [z4S,if_pos]at this;rw [←this];exact⟨rfl,rfl⟩
def BitsOk(w:World):Prop:=∀i,i<9→w.cell? ⟨0,i,none⟩=some (.int .u64 ((8*i:Nat):Int))
theorem BitsOk.pos{w:World}(h:BitsOk w):0<w.heap.size:=World.block_lt_of_cell? w _ (h 0 (by omega))
theorem BitsOk.below{w w':World}{B:Nat}(h:BitsOk w)(hb:Below B w w')(hB:0<B):BitsOk w':=fun i hi=>(hb.cell (p:=⟨0,i,none⟩) hB).trans (h i hi)
theorem BitsOk.later{w w':World}(h:BitsOk w)(hb:Below w.heap.size w w'):BitsOk w':=h.below hb h.pos
theorem z87(x sh:Nat):UInt8.ofNat ((x:Int) / 2 ^ sh%256).toNat=UInt8.ofNat (x / 2 ^ sh):=by
 have e:((x:Int) / 2 ^ sh%256)=((x / 2 ^ sh%256:Nat):Int):=by rw [Int.natCast_emod,Int.natCast_ediv,Int.natCast_pow];rfl
 rw [e,Int.toNat_natCast];apply UInt8.toNat_inj.1;simp
theorem zH7(B bo bv x sh:Nat)(s:Int)(hs:s=(sh:Int))(A:Option Addr)(k c:Nat)(l:List UInt8)(w:World)(ho:Blk w bo 25 #[.slice A k c])(hv:Blk w bv 39 #[.int .u64 x])(hown:Ob 5 w B (.slice A k c) l)(hB:B≤w.heap.size)(hl:l.length≤2199023255552)(hx:x<U64)(hsh:sh<64)(hBo:B≤bo):
 Calls Tryz.prog 164 #[.int .u64 s,.pointer (some ⟨bo,0,none⟩),.pointer (some ⟨bv,0,none⟩)] w fun e w'=>e= .returned (.tuple #[])∧∃A' k' c',Blk w' bo 25 #[.slice A' k' c']∧Blk w' bv 39 #[.int .u64 x]∧Ob 5 w' B (.slice A' k' c') (l++ [UInt8.ofNat (x / 2 ^ sh)])∧Below B w w':=by
 subst hs;have c0:=ho.cell 0;have c1:=hv.cell 0;simp at c0 c1;go_enter Tryz.func164,Tryz.ntmps164
 go_wp2_with (at_builtin;go_loud (refine z03 _ rfl (.tmp 4) (.tmp 9) z0Z rfl (hown.alloc _) (Bs.one _ _ _ (by omega) (by omega) (by simp)) rfl rfl (by simp;omega) (by simp;omega) ?_);intro A2 k2 c2 w2 hown2 hg2 hat2;have ho2:=(ho.alloc _).kept (hown.alloc _) hg2 (by decide);have hv2:=(hv.alloc _).kept (hown.alloc _) hg2 (by decide);have d0:=ho2.cell 0;simp at d0;have d1:=ho2.free 0)
 go_end0
 rw [z87]at hown2;exact⟨rfl,A2,k2,c2,ho2.put1 _,hv2.far (p:=⟨bo,0,none⟩) (Blk.ne hv2 ho2 (by decide)) _,z1m hown2 ho2 (by decide) 0 _,(z02 ((Below.refl _ _).alloc hB _) (hown.alloc _) hg2 (by simp;omega)).setCell hBo _⟩
theorem zDb(x sh:Nat):(((x:Int) / 2 ^ sh) != 0)= !decide (x / 2 ^ sh=0):=by
 have e:((x:Int) / 2 ^ sh)=((x / 2 ^ sh:Nat):Int):=by rw [Int.natCast_ediv,Int.natCast_pow];rfl
 rw [e,bne,Bool.eq_iff_iff];simp only [Bool.not_eq_true',beq_eq_false_iff_ne,decide_eq_false_iff_not,ne_eq];omega
theorem z90(x n k:Nat)(hk:k<n):(beB x n).take (k+1)=(beB x n).take k++ [UInt8.ofNat (x / 2 ^ (8*(n-1-k)))]:=by
 rw [List.take_succ_eq_append_getElem (by rw [z0u];exact hk)]
 congr 2
 simp only [beB,List.getElem_map,List.getElem_range];rw [show(256:Nat)=2 ^ 8 from rfl,←Nat.pow_mul]
theorem zFG(S:Nat→Prop)(v0:Value)(l:List UInt8)(x n:Nat)(w:World)(hn:1≤n)(hn8:n≤8)(hx:x<U64)(hv:n<8→x / 2 ^ (8*n)=0)(hb:BitsOk w)(hl:l.length≤1099511627776)(hr:Bs S w v0 l):
 Calls Tryz.prog 137 #[v0,.int .u64 x,.int .i64 n] w fun e w'=>∃A k c,e= .returned (.tuple #[.slice A k c,.int .i64 0])∧Ob 5 w' w.heap.size (.slice A k c) (l++beB x n)∧Below w.heap.size w w':=by
 have h1:decide ((n:Int)<1)=false:=by simp;omega
 have h2:decide (8<(n:Int))=false:=by simp;omega
 have hmf:=z0K Tryz.prog;have hp:=hb.pos;have hc:n<8→w.cell? ⟨0,n,none⟩=some (.int .u64 (8*(n:Int))):=fun h=>(hb n (by omega)).trans (by simp)
 obtain⟨A,c,rfl,hlc,hcm,hA0,hA⟩:=hr.at;have HR:=zz hr;have HB:=zz hb;clear hA hA0 hr hb;by_cases h8:n<8
 case' pos=>
  have h3:decide ((n:Int)<8)=true:=by simp;omega
  have h4:(((x:Int) / 2 ^ (8*n)) != 0)=false:=by rw [zDb];simp [hv h8]
  have hc:=hc h8;clear hv;go_enter Tryz.func137,Tryz.ntmps137
  go_wp2_with fail
  go_quiet (fail)
 case' neg=>
  have h3:decide ((n:Int)<8)=false:=by simp;omega
  clear hc hv;go_enter Tryz.func137,Tryz.ntmps137
  go_wp2_with fail
  go_quiet (fail)
 all_goals
  go_wp2_with (at_builtin;go_loud (refine z03 _ rfl (.tmp 29) (.tmp 30) z0Z rfl (Ob.made _ _ w.heap.size (by simp) (by simp)) (Sl.alloc1 (Sl.drewN (Sl.alloc1 HR.out _) _) _) rfl rfl (by simp;omega) (by simp;omega) ?_);intro A1 k1 c1 w1 hown1 hg1 hat1)
  have hbl1:Below w.heap.size w w1:=z02 ((below_drewN ((Below.refl _ _).alloc (Nat.le_refl _) _) _).alloc (by simp) _) (Ob.made _ _ w.heap.size (by simp) (by simp)) hg1 (by simp;omega);have hs1:=hbl1.size;have hv1:Blk w1 w.heap.size 39 #[.int .u64 x]:=(((Blk.new w _ _).drewN _).alloc _).kept (Ob.made _ _ w.heap.size (by simp) (by simp)) hg1 (by decide);have hw1:=hv1.lt;have R0:Blk (w1.alloc (.cells #[.slice A1 k1 c1] 25)) w1.heap.size 25 #[.slice A1 k1 c1]∧Blk (w1.alloc (.cells #[.slice A1 k1 c1] 25)) w.heap.size 39 #[.int .u64 x]∧
   Ob 5 (w1.alloc (.cells #[.slice A1 k1 c1] 25)) w.heap.size (.slice A1 k1 c1) (l++(beB x n).take 0)∧Below w.heap.size w (w1.alloc (.cells #[.slice A1 k1 c1] 25)):=
   ⟨Blk.new _ _ _,hv1.alloc _,by simpa using Ob.alloc hown1 _,hbl1.alloc hs1 _⟩
  clear hown1 hg1 hat1 hv1 hbl1;go_loopw [34] (fun iv wr=>∃ (i:Nat) (A':Option Addr) (k' c':Nat),iv= .int .i64 (i:Int)∧i≤n∧Blk wr w1.heap.size 25 #[.slice A' k' c']∧Blk wr w.heap.size 39 #[.int .u64 x]∧Ob 5 wr w.heap.size (.slice A' k' c') (l++(beB x n).take i)∧Below w.heap.size w wr) (fun iv _=>n-(intOf iv).toNat)
  case atStart=>exact⟨0,A1,k1,c1,rfl,by omega,R0⟩
  case round=>
   obtain⟨i,A',k',c',rfl,hi,hbo,hbv,hown,hbl⟩:=hrel;clear R0;by_cases hin:i<n
   ·have hcr:wr.cell? ⟨0,n-1-i,none⟩=some (.int .u64 (((8*(n-1-i):Nat)):Int)):=(HB.out.below hbl hp) _ (by omega);have hsz:=hbl.size;have HK:=zz (z90 x n i hin);go_wp2_with fail
    refine(zH7 w.heap.size w1.heap.size w.heap.size x (8*(n-1-i)) _ (by simp) A' k' c' _ wr hbo hbv hown hsz (by simp [z0u];omega) hx (by omega) hs1).mono ?_;rintro e w3 ⟨rfl,A3,k3,c3,hbo3,hbv3,hown3,hbl3⟩;go_wp2
    go_roundw
    case rel=>exact⟨i+1,A3,k3,c3,by go_num,by omega,hbo3,hbv3,by rw [HK.out,←List.append_assoc];exact hown3,hbl.trans hbl3⟩
    case measure=>simp [intOf];omega
   ·have c0:=hbo.cell 0;simp at c0;go_wp2
    go_ret2
    obtain rfl:i=n:=by omega
    rw [List.take_of_length_le (by rw [z0u];omega)]at hown;exact⟨A',k',c',rfl,hown,hbl⟩
def st(l:List UInt8):ByteArray:=⟨l.toArray⟩
theorem st_of(s:ByteArray):st s.data.toList=s:=by cases s;rfl
@[go_sem] theorem z6p (l:List UInt8):(st l).size=l.length:=by simp [st,ByteArray.size]
@[go_sem] theorem st_toList (l:List UInt8):(st l).toList=l:=ByteArray.toList_mk l
@[go_sem] theorem st_append (l m:List UInt8):st l++st m=st (l++m):=by simp [st,ByteArray.mk_append_mk]
@[go_sem] theorem zJi (l:List UInt8) (a b:Nat):(st l).extract a b=st ((l.drop a).take (b-a)):=by
  apply ByteArray.ext;rw [ByteArray.data_extract];simp [st]
@[go_sem] theorem zJd (l:List UInt8) (i:Nat) (h:i<(st l).size):(st l)[i]'h=l[i]'(by rwa [z6p]at h):=by
  simp [st,ByteArray.getElem_eq_getElem_data]
theorem z0l{n:Int}(h0:0≤n)(h:n<(U64:Int)):IntKind.u64.wrap n=n:=by
 unfold U64 at h;simp only [IntKind.wrap,IntKind.bits,IntKind.signed];simp;omega
theorem Bs.nilv(S:Nat→Prop)(w:World):Bs S w (.slice none 0 0) []:=Sl.nil
theorem Bs.lit(w:World)(e:TypeId)(l:List UInt8)(hl:l.length≤maxLen)(k:Nat×Nat){g:Nat}(hg:g=w.heap.size):Bs (fun b=>b=w.heap.size) (w.alloc (.cells (bv l).toArray e k)) (.slice (some ⟨g,0,none⟩) l.length l.length) l:=by
 subst hg;refine Bs.mk_ (Nat.le_refl _) hl (fun h=>by cases h) fun _=>⟨_,0,rfl,rfl,fun j hj=> ?_⟩
 obtain⟨lo,hi⟩:=k;rw [Nat.zero_add,World.cell?_alloc_mark,List.getElem?_toArray];exact zJ3 hj
section
variable {P:Program} {ops:Array Oper} {Q:Exit→Act→World→Prop} {a:Act} {rest:List Oper} {o:Oper}
theorem z52{w:World}(hw:Region.wanted o (yielded ops a.tmps)=true)
 (h:∀K:Act→World→Prop,(∀a w,wpList P ops Q rest a w→K a w)→o.wp P a w K Q):wpList P ops Q (o::rest) a w:=
 wpList_step fun K hK=>by rw [if_pos hw];exact h K hK
theorem z0i{S:Nat→Prop}{w:World}{v:Value}{l:List UInt8}(hb:Bs S w v l){src dst e:TypeId}(hs:P.underlying src=some (.slice e))(he:P.underlying e=some (.int .u8))(hd:P.underlying dst=some .string):
 (convert src dst v).run P w= .ok (.string (st l)) w:=by
 obtain⟨A,c,rfl,h3,h4,h5,h6⟩:=hb.at;rcases Nat.eq_zero_or_pos l.length with h0|h0
 ·obtain rfl:l= []:=List.eq_nil_of_length_eq_zero h0;rcases A with _|ad
  ·exact run_convert_bytes_nil w src e hs he _ _ dst hd
  ·exact run_convert_bytes_back w src dst e ad c [] hs he hd (fun j hj=>by simp at hj)
 ·obtain⟨b,o',rfl,_,hc⟩:=h6 h0;exact run_convert_bytes_back w src dst e ⟨b,o',none⟩ c l hs he hd (fun j hj=>by rw [z0U];exact hc j hj)
theorem conv1{src dst e:TypeId}(hs:P.underlying src=some (.slice e))(he:P.underlying e=some (.int .u8))(hd:P.underlying dst=some .string)(w:World)(n:Int)(b:UInt8)(h0:0≤n)(h1:n≤255)(hb:b.toNat=n.toNat):
 (convert src dst (.slice (some ⟨w.heap.size,0,none⟩) 1 1)).run P (w.alloc (.cells #[.int .u8 n] e))= .ok (.string (st [b])) (w.alloc (.cells #[.int .u8 n] e)):=by
 have h:=z0i (P:=P) (Bs.one w e n h0 h1 rfl) hs he hd;have hb':b=UInt8.ofNat n.toNat:=by
  apply UInt8.toNat_inj.1;simp;omega
 rw [hb'];exact h
theorem z0o(w:World)(hw:Region.wanted o (yielded ops a.tmps)=true)(x:Operand){src dst e:TypeId}(ho:o.op= .convert src dst x)
 (hs:P.underlying src=some (.slice e)) (he:P.underlying e=some (.int .u8)) (hd:P.underlying dst=some .string)
 {S:Nat→Prop} {v:Value} {l:List UInt8} (hb:Bs S w v l) (hx:a.eval x=v) (h:wpList P ops Q rest (a.put o.dst (.string (st l))) w):wpList P ops Q (o::rest) a w:=by
 refine z52 hw fun K hK=> ?_
 have hrun:=z0i (P:=P) hb hs he hd;unfold Oper.wp execOp;simp [ho,hx,hrun,Result.andThen];exact hK _ _ h
theorem Bs.of_string(w:World)(s:List UInt8)(e:TypeId)(cap:Nat)(hc:s.length≤cap)(hm:cap≤maxLen)(k:Nat×Nat):
 Bs (fun b=>b=w.heap.size) (w.alloc (.cells (bytesRow (st s) cap) e k)) (.slice (some ⟨w.heap.size,0,none⟩) s.length cap) s:=by
 refine Bs.mk_ hc hm (fun h=>by cases h) fun _=>⟨_,0,rfl,rfl,fun j hj=> ?_⟩
 rw [Nat.zero_add];obtain⟨lo,hi⟩:=k;rw [World.cell?_alloc_mark,bytesRow_at (st s) cap j (by simpa [st]using hj)];simp [st]
theorem z1W(w:World)(hw:Region.wanted o (yielded ops a.tmps)=true)(x:Operand){src dst e:TypeId}(ho:o.op= .convert src dst x)
 (hs:P.underlying src=some .string) (hd:P.underlying dst=some (.slice e)) (he:P.underlying e=some (.int .u8))
 {l:List UInt8} (hl:l.length≤maxLen) (hx:a.eval x= .string (st l))
 (h:∀A c w',Bs (fun b=>b=w.heap.size) w' (.slice A l.length c) l→Below w.heap.size w w'→w'.heap.size=w.heap.size+1→wpList P ops Q rest (a.put o.dst (.slice A l.length c)) w'):wpList P ops Q (o::rest) a w:=by
 refine z52 hw fun K hK=> ?_
 have hrun:=run_bytes_of_string (P:=P) w src dst e (st l) hs hd he;unfold Oper.wp execOp;rw [z6p]at hrun;simp [ho,hx,hrun,Result.andThen];refine hK _ _ (h _ _ _ (Bs.of_string w.drew l e _ (grownCap_ge w _ 0 e) (grownCap_le_maxLen w _ 0 e hl) _) ?_ (by simp));exact((Below.refl _ _).drew.alloc (Nat.le_refl _) _)
end
theorem Bs.pre{S:Nat→Prop}{w:World}{l:List UInt8}{A:Option Addr}{c:Nat}(h:Bs S w (.slice A l.length c) l){k:Nat}(hk:k≤l.length):Bs S w (.slice A k c) (l.take k):=by
 obtain⟨A',c',hv,h3,h4,h5,h6⟩:=h.at;injection hv with hA _ hc
 subst hA hc;have hl:(l.take k).length=k:=by rw [List.length_take];omega
 have:=Bs.mk_ (S:=S) (w:=w) (l:=l.take k) (A:=A) (c:=c) (by omega) h4 h5 fun hn=>by
  obtain⟨b,o,hA,hS,hcell⟩:=h6 (by omega);refine⟨b,o,hA,hS,fun j hj=> ?_⟩;rw [hcell j (by omega),List.getElem_take]
 rwa [hl]at this
theorem tS:Tryz.prog.underlying 9=some .string:=Tryz.underlying9
theorem tB:Tryz.prog.underlying 25=some (.slice 5):=Tryz.underlying25
theorem tU:Tryz.prog.underlying 5=some (.int .u8):=Tryz.underlying5
theorem z0N{w w':World}(h:Below w.heap.size w w')(row:Option Nat):w.grownBy w' row:=⟨h.os,h.tape,h.output,h.size,fun k hk _=>h.block k hk⟩
theorem z0f(w:World)(g i:Nat)(u:Value):w.grownBy (w.setCell ⟨g,i,none⟩ u) (some g):=
 ⟨rfl,rfl,rfl,by simp,fun k _ hk=>heap_setCell_other w ⟨g,i,none⟩ k u (fun e=>hk (by simp [e]))⟩
theorem z0M{w w':World}{g B:Nat}(h:w.grownBy w' (some g))(hg:B≤g)(hB:B≤w.heap.size):Below B w w':=(Below.refl _ _).grown h hB (fun k hk=>by cases hk;exact hg)
def Wr(w:World)(g B:Nat)(l:List UInt8):Prop:=∃A k c,Blk w g 142 #[.slice A k c,.int .i64 0]∧Ob 5 w B (.slice A k c) l
theorem Wr.later{w w':World}{g B:Nat}{l:List UInt8}(h:Wr w g B l)(hb:Below w.heap.size w w'):Wr w' g B l:=by
 obtain⟨A,k,c,h1,h2⟩:=h;exact⟨A,k,c,h1.later hb,h2.later hb⟩
theorem Wr.lower{w:World}{g B B':Nat}{l:List UInt8}(h:Wr w g B l)(hB:B'≤B):Wr w g B' l:=by
 obtain⟨A,k,c,h1,h2⟩:=h;exact⟨A,k,c,h1,h2.lower hB⟩
theorem Wr.alloc{w:World}{g B:Nat}{l:List UInt8}(h:Wr w g B l)(o:Obj):Wr (w.alloc o) g B l:=h.later ((Below.refl _ _).alloc (Nat.le_refl _) _)
theorem z3b(w:World):
 Calls Tryz.prog 32 #[] w fun e w'=>e= .returned (.pointer (some ⟨w.heap.size,0,none⟩))∧Wr w' w.heap.size w.heap.size []∧Below w.heap.size w w'∧w'.heap.size=w.heap.size+1:=by
 go_enter Tryz.func32,Tryz.ntmps32
 go_wp2_with fail
 go_ret
 exact⟨rfl,⟨none,0,0,Blk.new _ _ _,Ob.nil _ _ _⟩,(Below.refl _ _).alloc (Nat.le_refl _) _,by simp⟩
def zIN(xs:List Nat):List Value:=xs.map fun(x:Nat)=> .int .u64 (x:Int)
theorem zIq{xs:List Nat}{j:Nat}(h:j<xs.length):(zIN xs)[j]? =some (.int .u64 (xs[j]:Int)):=by simp [zIN,List.getElem?_eq_getElem h]
theorem zGv(xs:List Nat)(h:∀x∈xs,x<U64):(xs.flatMap z0A).length≤10*xs.length:=by
 induction xs with
 |nil=>simp
 |cons x xs ih=>
  have h1:=z06 (h x (by simp));have h2:=ih (fun y hy=>h y (by simp [hy]));rw [List.flatMap_cons,List.length_append,List.length_cons];omega
theorem z7Q{xs:List Nat}{i:Nat}(h:i<xs.length):(xs.take (i+1)).flatMap z0A=(xs.take i).flatMap z0A++z0A xs[i]:=by
 rw [List.take_succ_eq_append_getElem h,List.flatMap_append];simp
theorem z8J(g B B':Nat)(l:List UInt8)(xs:List Nat)(v0:Value)(w:World)(hw:Wr w g B l)(hB:B≤w.heap.size)(hB':xs.length=0→B'≤B)(hB2:B'≤w.heap.size)(hx:∀x∈xs,x<U64)(hl:l.length+10*xs.length≤1099511627776)
 (hv:Sl (fun b=>b≠g∧b<w.heap.size) w 1 v0 xs.length (zIN xs)):
 Calls Tryz.prog 33 #[.pointer (some ⟨g,0,none⟩),v0] w fun e w'=>e= .returned (.tuple #[])∧Wr w' g B' (l++xs.flatMap z0A)∧w.grownBy w' (some g):=by
 have HV:=zz hv;obtain⟨_,A0,c0,rfl,hnc,hcm,hA0,hA⟩:=hv;have HA:=zz hA;have hml:xs.length≤109951162777:=by omega
 have HX:=zz hx;have R0:Wr w g (if 0<0 then w.heap.size else B) (l++(xs.take 0).flatMap z0A)∧w.grownBy w (some g):=⟨by simpa using hw,World.grownBy.refl _ _⟩;clear hA hx hw;go_enter Tryz.func33,Tryz.ntmps33
 go_wp2_with fail
 go_loopw [5,8] (fun _ iv wr=>∃i:Nat,iv= .int .i64 (i:Int)∧i≤xs.length∧Wr wr g (if 0<i then w.heap.size else B) (l++(xs.take i).flatMap z0A)∧w.grownBy wr (some g)) (fun _ iv _=>xs.length-(intOf iv).toNat)
 case atStart=>exact⟨0,rfl,by omega,R0⟩
 case round=>
  obtain⟨i,rfl,hi,hwr,hgr⟩:=hrel;clear R0;have hsz:=hgr.size;by_cases hil:i<xs.length
  ·obtain⟨b,o,rfl,⟨hbg,hbl⟩,hcell⟩:=HA.out (by omega);have hcw:=hcell i _ (zIq hil);have hc:wr.cell? ⟨b,o+i,none⟩=some (.int .u64 (xs[i]:Int)):=by
    rw [World.cell?_of_block (hgr.block b hbl (by simpa using hbg))];exact hcw
   have hx:=HX.out _ (List.getElem_mem hil);have hlen:(l++(xs.take i).flatMap z0A).length≤l.length+10*i:=by
    have h1:=zGv (xs.take i) (fun x hx=>HX.out x (List.mem_of_mem_take hx));rw [List.length_take]at h1;rw [List.length_append];omega
   have hvx:=z06 hx;have HS:=zz (z7Q hil);have hsz':(if 0<i+1 then w.heap.size else B)≤wr.heap.size:=by rw [if_pos (by omega)];exact hsz
   have HSZ:=zz hsz';obtain⟨A,k,c,hbk,hown⟩:=hwr;clear hsz';have d0:wr.cell? ⟨g,0,none⟩=some (.slice A k c):=hbk.cell 0;have d1:wr.cell? ⟨g,1,none⟩=some (.int .i64 0):=hbk.cell 1;generalize xs[i]=x at*;clear hcell hcw;go_wp2_with fail
   refine(z7z _ _ _ x wr hx (by rw [List.length_append];omega) hown.bs).mono ?_;rintro e w2 ⟨A2,k2,c2,rfl,hown2,hbl2⟩;have hbk2:=hbk.later hbl2;have e1:=hbk2.free 0;have e0:w2.cell? ⟨g,0,none⟩=some (.slice A k c):=hbk2.cell 0;go_wp2_with fail
   go_roundw
   case rel=>exact⟨i+1,by go_num,by omega,⟨A2,k2,c2,hbk2.put 0 _,by rw [HS.out,←List.append_assoc];exact z1m (hown2.lower HSZ.out) hbk2 (by decide) 0 _⟩,(hgr.trans (z0N hbl2 _)).trans (z0f _ _ _ _)⟩
   case measure=>simp [intOf];omega
  ·obtain rfl:i=xs.length:=by omega
   rw [List.take_length]at hwr;have HW:Hid (Wr wr g B' (l++xs.flatMap z0A)):=hwr.lower (by split<;>omega);clear hwr hB';go_wp2_with fail
   go_end0
   exact⟨rfl,HW.out,hgr⟩
theorem z3r(g B:Nat)(l:List UInt8)(xs:List Nat)(v0:Value)(w:World)(hw:Wr w g B l)(hB:B≤w.heap.size)(hgB:B≤g)(hx:∀x∈xs,x<U64)(hl:l.length+10*xs.length≤1099511627776)
 (hv:Sl (fun b=>b≠g∧b<w.heap.size) w 1 v0 xs.length (zIN xs)):
 Calls Tryz.prog 33 #[.pointer (some ⟨g,0,none⟩),v0] w fun e w'=>e= .returned (.tuple #[])∧Wr w' g B (l++xs.flatMap z0A)∧w.grownBy w' (some g):=by
 exact z8J g B B l xs v0 w hw hB (fun _=>Nat.le_refl _) hB hx hl hv
theorem zEs{w w2 w3:World}{row r2:Option Nat}(h:w.grownBy w2 row)(h2:w2.grownBy w3 r2)(hk:∀k,r2=some k→w.heap.size≤k):w.grownBy w3 row:=
 ⟨h2.os.trans h.os,h2.tape.trans h.tape,h2.output.trans h.output,Nat.le_trans h.size h2.size,fun k hlt hr=>(h2.block k (Nat.lt_of_lt_of_le hlt h.size) (fun e=>by have:=hk k e.symm;omega)).trans (h.block k hlt hr)⟩
theorem z2h(g B:Nat)(l:List UInt8)(w:World)(hw:Wr w g B l)(hl:l.length≤1099511627776):
 Calls Tryz.prog 36 #[.pointer (some ⟨g,0,none⟩)] w fun e w'=>∃A k c,e= .returned (.tuple #[.slice A k c,.int .i64 0])∧Ob 5 w' w.heap.size (.slice A k c) l∧Below w.heap.size w w':=by
 obtain⟨A,k,c,hbk,hown⟩:=hw;have d0:w.cell? ⟨g,0,none⟩=some (.slice A k c):=hbk.cell 0;have d1:w.cell? ⟨g,1,none⟩=some (.int .i64 0):=hbk.cell 1;have hg:=hbk.lt;obtain rfl:=hown.len;have HB:=zz hown.bs;clear hown hbk;go_enter Tryz.func36,Tryz.ntmps36
 go_wp2_with (at_builtin;(refine z03 _ rfl (.tmp 13) (.tmp 17) z0Z rfl (Ob.made _ _ w.heap.size (Nat.le_refl _) (by simp)) (Sl.alloc1 HB.out _) rfl rfl (by simp;omega) (by simp) ?_);intro A1 k1 c1 w1 hown1 hg1 hat1)
 go_ret2
 exact⟨A1,k1,c1,rfl,by simpa using hown1,z02 ((Below.refl _ _).alloc (Nat.le_refl _) _) (Ob.made _ _ w.heap.size (Nat.le_refl _) (by simp)) hg1 (by simp)⟩
theorem zBO(l:List UInt8):Lib.strCells (st l)=bv l:=by
 simp [Lib.strCells,bv,st]
theorem z3I{P:Program}(w:World){ops:Array Oper}{rest:List Oper}{o:Oper}{a:Act}{Q:Exit→Act→World→Prop}(hgd:o.guard=none)(s x:Operand){t u e:TypeId}
 (E:Elem P t e (.int .u8 0) 1 1) (hu:P.underlying u=some .string) (ho:o.op= .call {callee:= .builtin .append,args:= #[s,x],argTypes:= #[t,u]})
 {base:Nat} {v:Value} {l:List UInt8} (hown:Ob e w base v l) {m:List UInt8} (hs:a.eval s=v) (hx:a.eval x= .string (st m))
 (hlen:l.length+m.length≤140737488355328) (hbase:base≤w.heap.size)
 (h:∀A k c w',Ob e w' base (.slice A k c) (l++m)→w.grownBy w' v.ownBlock→wpList P ops Q rest (a.put o.dst (.slice A k c)) w'):
 wpList P ops Q (o::rest) a w:=by
 obtain⟨i,hi,hz,hsz,hby⟩:=E.info;refine Lib.wpList_append_own_string w hgd s x t u ho base e i E.under hu hi hz hsz hby v l.length (bv l) hs hown (st m) hx (by rw [z6p];simp only [maxLen];omega) (by rw [z6p];exact hlen) hbase fun v' w' h2 h3 _=> ?_
 obtain⟨A,k,c,rfl⟩:=z0p h2;refine h A k c w' ?_ h3;rw [z6p,zBO]at h2;unfold Ob;rw [z6b,List.length_append];exact h2
theorem Sl.new1{S:Nat→Prop}(w:World)(e:TypeId)(u:Value){g:Nat}(hg:g=w.heap.size)(hS:S g):Sl S (w.alloc (.cells #[u] e)) 1 (.slice (some ⟨g,0,none⟩) 1 1) 1 [u]:=by
 subst hg;refine⟨by simp,_,1,rfl,by simp,by simp [maxLen],(fun h=>by cases h),fun _=>⟨_,0,rfl,hS,fun j v hu=> ?_⟩⟩;rcases j with _|j
 ·simp at hu;subst hu;rw [World.cell?_alloc_new];rfl
 ·simp at hu
def z0Q(s:List UInt8):List UInt8:=z0A s.length++s
def zJg(ss:List (List UInt8)):List Value:=ss.map fun s=> .string (st s)
theorem zJE{xs:List (List UInt8)}{j:Nat}(h:j<xs.length):(zJg xs)[j]? =some (.string (st xs[j])):=by simp [zJg,List.getElem?_eq_getElem h]
theorem z2t{s:List UInt8}(h:s.length≤65536):(z0Q s).length≤65546:=by
 unfold z0Q;have:=z06 (show s.length<U64 by unfold U64;omega);rw [List.length_append];omega
theorem zED(xs:List (List UInt8))(h:∀x∈xs,x.length≤65536):(xs.flatMap z0Q).length≤65546*xs.length:=by
 induction xs with
 |nil=>simp
 |cons x xs ih=>
  have h1:=z2t (h x (by simp));have h2:=ih (fun y hy=>h y (by simp [hy]));rw [List.flatMap_cons,List.length_append,List.length_cons];omega
theorem z6j{xs:List (List UInt8)}{i:Nat}(h:i<xs.length):(xs.take (i+1)).flatMap z0Q=(xs.take i).flatMap z0Q++z0Q xs[i]:=by
 rw [List.take_succ_eq_append_getElem h,List.flatMap_append];simp
theorem z3T(g B:Nat)(l:List UInt8)(xs:List (List UInt8))(v0:Value)(w:World)(hw:Wr w g B l)(hB:B≤w.heap.size)(hgB:B≤g)(hx:∀x∈xs,x.length≤65536)(hl:l.length+65546*xs.length≤1099511627776)
 (hv:Sl (fun b=>b≠g∧b<w.heap.size) w 1 v0 xs.length (zJg xs)):
 Calls Tryz.prog 34 #[.pointer (some ⟨g,0,none⟩),v0] w fun e w'=>e= .returned (.tuple #[])∧Wr w' g B (l++xs.flatMap z0Q)∧w.grownBy w' (some g):=by
 have HV:=zz hv;obtain⟨_,A0,c0,rfl,hnc,hcm,hA0,hA⟩:=hv;have HA:=zz hA;have hml:xs.length≤16777216:=by omega
 have HX:=zz hx;have R0:Wr w g B (l++(xs.take 0).flatMap z0Q)∧w.grownBy w (some g):=⟨by simpa using hw,World.grownBy.refl _ _⟩;clear hA hx hw;go_enter Tryz.func34,Tryz.ntmps34
 go_wp2_with fail
 go_loopw [5,8] (fun _ iv wr=>∃i:Nat,iv= .int .i64 (i:Int)∧i≤xs.length∧Wr wr g B (l++(xs.take i).flatMap z0Q)∧w.grownBy wr (some g)) (fun _ iv _=>xs.length-(intOf iv).toNat)
 case atStart=>exact⟨0,rfl,by omega,R0⟩
 case round=>
  obtain⟨i,rfl,hi,hwr,hgr⟩:=hrel;clear R0;have hsz:=hgr.size;by_cases hil:i<xs.length
  ·obtain⟨b,o,rfl,⟨hbg,hbl⟩,hcell⟩:=HA.out (by omega);have hcw:=hcell i _ (zJE hil);have hc:wr.cell? ⟨b,o+i,none⟩=some (.string (st xs[i])):=by
    rw [World.cell?_of_block (hgr.block b hbl (by simpa using hbg))];exact hcw
   have hx:=HX.out _ (List.getElem_mem hil);have hlen:(l++(xs.take i).flatMap z0Q).length≤l.length+65546*i:=by
    have h1:=zED (xs.take i) (fun x hx=>HX.out x (List.mem_of_mem_take hx));rw [List.length_take]at h1;rw [List.length_append];omega
   have HS:=zz (z6j hil);obtain⟨A,k,c,hbk,hown⟩:=id hwr;have d1:wr.cell? ⟨g,1,none⟩=some (.int .i64 0):=hbk.cell 1;have hgl:=hbk.lt;generalize xs[i]=x at*;have t0:decide (65536<x.length)=false:=by rw [decide_eq_false_iff_not];omega
   have hv10:=z06 (show x.length<U64 by unfold U64;omega);have HW:=zz hwr;clear hcell hcw hbk hown hwr;go_wp2_with fail
   refine(z8J g B wr.heap.size (l++(xs.take i).flatMap z0Q) [x.length] _ _ (HW.out.alloc _) (by simp;omega) (by intro h;simp at h) (by simp) (by intro y hy;simp at hy;subst hy;unfold U64;omega) (by have:=hlen;simp only [List.length_cons,List.length_nil];omega) (Sl.new1 wr _ _ (by simp) ⟨by omega,by simp⟩)).mono ?_;rintro e w2 ⟨rfl,hw2,hg2⟩;have hsz2:=hg2.size;simp only [List.flatMap_cons,List.flatMap_nil,List.append_nil]at hw2;obtain⟨A2,k2,c2,hbk2,hown2⟩:=hw2;have e0:w2.cell? ⟨g,0,none⟩=some (.slice A2 k2 c2):=hbk2.cell 0;have e1:w2.cell? ⟨g,1,none⟩=some (.int .i64 0):=hbk2.cell 1;have hs2:wr.heap.size≤w2.heap.size:=by simp at hsz2;omega
   have hg2':w.grownBy w2 (some g):=(hgr.trans (z0N ((Below.refl _ _).alloc (Nat.le_refl _) _) _)).trans hg2;have hll:(l++(xs.take i).flatMap z0Q++z0A x.length).length+x.length≤140737488355328:=by rw [List.length_append];omega
   go_wp2_with (at_builtin;go_loud (refine z3I _ rfl (.tmp 40) (.tmp 41) z0Z tS rfl hown2 rfl rfl hll hs2 ?_);intro A3 k3 c3 w3 hown3 hg3;have hbk3:=hbk2.kept hown2 hg3 (by decide);have d0:w3.cell? ⟨g,0,none⟩=some (.slice A2 k2 c2):=hbk3.cell 0;have f0:=hbk3.free 0)
   go_roundw
   case rel=>
    refine⟨i+1,by go_num,by omega,⟨A3,k3,c3,hbk3.put 0 _,?_⟩,?_⟩
    ·rw [HS.out,←List.append_assoc];have:=z1m (Ob.lower hown3 (show B≤_ by omega)) hbk3 (by decide) 0 (.slice A3 k3 c3);unfold z0Q at*;rw [←List.append_assoc];exact this
    ·exact(zEs hg2' hg3 (fun k hk=>Nat.le_trans hsz (hown2.lt k hk).1)).trans (z0f _ _ _ _)
   case measure=>simp [intOf];omega
  ·obtain rfl:i=xs.length:=by omega
   rw [List.take_length]at hwr;go_wp2_with fail
   go_end0
   exact⟨rfl,hwr,hgr⟩
end
section
abbrev Rg:=BitVec 32
def zJH:Rg:=0x04c11db7#32
def z4R(r:Rg)(b:Bool):Rg:=(r<<<1) ^^^ (if(r.msb ^^ b)then zJH else 0#32)
def z7D(r:Rg)(bs:List Bool):Rg:=bs.foldl z4R r
theorem zGx(r:Rg):z7D r []=r:=rfl
theorem z9K(r:Rg)(b:Bool)(bs:List Bool):z7D r (b::bs)=z7D (z4R r b) bs:=rfl
theorem z6P(r:Rg)(bs cs:List Bool):z7D r (bs++cs)=z7D (z7D r bs) cs:=List.foldl_append
theorem zHF(x y:Bool):(if(x ^^ y)then zJH else 0#32)=(if x then zJH else 0#32) ^^^ (if y then zJH else 0#32):=by
 cases x<;>cases y<;>simp
theorem zGR(a c:Rg)(x y:Bool):z4R (a ^^^ c) (x ^^ y)=z4R a x ^^^ z4R c y:=by
 unfold z4R;rw [BitVec.msb_xor,BitVec.shiftLeft_xor_distrib,show((a.msb ^^ c.msb) ^^ (x ^^ y))=((a.msb ^^ x) ^^ (c.msb ^^ y))from by cases a.msb<;>cases c.msb<;>cases x<;>cases y<;>rfl,zHF]
 ac_rfl
theorem zBg:∀ (xs ys:List Bool) (a c:Rg),xs.length=ys.length→z7D (a ^^^ c) (List.zipWith xor xs ys)=z7D a xs ^^^ z7D c ys
 | [],[],a,c,_=>rfl
 |x::xs,y::ys,a,c,h=>by
  rw [List.zipWith_cons_cons,z9K,zGR,zBg xs ys _ _ (by simpa using h)];rfl
def zFs(h:Nat):List Bool:= [h.testBit 3,h.testBit 2,h.testBit 1,h.testBit 0]
def zA2:List Bool:= [false,false,false,false]
def tab(i:Nat):Rg:=z7D (BitVec.ofNat 32 (i<<<28)) zA2
theorem z5y(x:Rg)(h:x.msb=false):z4R x false=x<<<1:=by
 unfold z4R;simp [h]
theorem low4(x:Rg)(h:x >>> 28=0#32):z7D x zA2=x<<<4:=by
 have hb:∀i,i<4→x.getLsbD (28+i)=false:=by
  intro i hi;have:=congrArg (fun y:Rg=>y.getLsbD i) h;simpa using this
 have h0:=hb 0 (by omega);have h1:=hb 1 (by omega);have h2:=hb 2 (by omega);have h3:=hb 3 (by omega);have e1:z4R x false=x<<<1:=z5y x (by rw [BitVec.msb_eq_getLsbD_last];exact h3);have e2:z4R (x<<<1) false=x<<<2:=by
  rw [z5y _ (by rw [BitVec.msb_eq_getLsbD_last];simpa using h2),←BitVec.shiftLeft_add]
 have e3:z4R (x<<<2) false=x<<<3:=by
  rw [z5y _ (by rw [BitVec.msb_eq_getLsbD_last];simpa using h1),←BitVec.shiftLeft_add]
 have e4:z4R (x<<<3) false=x<<<4:=by
  rw [z5y _ (by rw [BitVec.msb_eq_getLsbD_last];simpa using h0),←BitVec.shiftLeft_add]
 simp only [zA2,z9K,zGx,e1,e2,e3,e4]
theorem zHu:∀k,k<16→∀h,h<16→z7D (BitVec.ofNat 32 (k<<<28)) (zFs h)=tab (k ^^^ h):=by decide+kernel
theorem feed4(r:Rg)(h:Nat)(hh:h<16):z7D r (zFs h)=(r<<<4) ^^^ tab ((r >>> 28).toNat ^^^ h):=by
 have hk:(r >>> 28).toNat<16:=by
  have:=r.isLt;rw [BitVec.toNat_ushiftRight,Nat.shiftRight_eq_div_pow];omega
 obtain⟨k,hk'⟩:∃k,k=(r >>> 28).toNat:=⟨_,rfl⟩;have hhi:BitVec.ofNat 32 (k<<<28)=(r >>> 28)<<<28:=by
  apply BitVec.eq_of_toNat_eq;rw [hk',BitVec.toNat_ofNat,BitVec.toNat_shiftLeft]
 have hlo:(r ^^^ (r >>> 28)<<<28) >>> 28=0#32:=by
  ext i hi
  simp only [BitVec.getElem_ushiftRight,BitVec.getLsbD_xor,BitVec.getLsbD_shiftLeft,BitVec.getLsbD_ushiftRight,BitVec.getElem_zero];by_cases h:i<4
  ·simp [show 28+i<32 by omega]
  ·have h1:r.getLsbD (28+i)=false:=BitVec.getLsbD_of_ge r _ (by omega);have h3:¬28+i<32:=by omega
   simp [h1,h3]
 have hsl:(r ^^^ (r >>> 28)<<<28)<<<4=r<<<4:=by
  ext i hi
  simp only [BitVec.getElem_shiftLeft,BitVec.getElem_xor];by_cases h:i<4
  ·simp [h]
  ·have:i-4<28:=by omega
   simp [h,this]
 have e:r=(r ^^^ (r >>> 28)<<<28) ^^^ ((r >>> 28)<<<28):=by
  rw [BitVec.xor_assoc,BitVec.xor_self,BitVec.xor_zero]
 have hz:zFs h=List.zipWith xor zA2 (zFs h):=by simp [zA2,zFs]
 rw [←hk'];rw [←hk']at hk
 calc z7D r (zFs h)=z7D ((r ^^^ (r >>> 28)<<<28) ^^^ ((r >>> 28)<<<28)) (List.zipWith xor zA2 (zFs h)):=by rw [←e,←hz]
  _=z7D (r ^^^ (r >>> 28)<<<28) zA2 ^^^ z7D ((r >>> 28)<<<28) (zFs h):=zBg _ _ _ _ (by simp [zA2,zFs])
  _=(r<<<4) ^^^ tab (k ^^^ h):=by rw [low4 _ hlo,hsl,←hhi,zHu k hk h hh]
def bits8(b:Nat):List Bool:=zFs (b / 16)++zFs (b%16)
def zEi(r:Rg)(b:UInt8):Rg:=z7D r (bits8 b.toNat)
def z8E(r:Rg)(l:List UInt8):Rg:=l.foldl zEi r
def zEc(v:Rg)(l:List UInt8):Rg:= ~~~(z8E (~~~v) l)
def z49(l:List UInt8):Rg:=zEc 0#32 l
theorem zAB(r:Rg)(l m:List UInt8):z8E r (l++m)=z8E (z8E r l) m:=List.foldl_append
theorem zCm(r:Rg)(l:List UInt8)(b:UInt8):z8E r (l++ [b])=zEi (z8E r l) b:=by rw [zAB];rfl
theorem zHP(r:Rg)(b:UInt8):zEi r b=((((r<<<4) ^^^ tab ((r >>> 28).toNat ^^^ (b.toNat / 16)))<<<4) ^^^ tab (((((r<<<4) ^^^ tab ((r >>> 28).toNat ^^^ (b.toNat / 16))) >>> 28).toNat) ^^^ (b.toNat%16))):=by
 have:=b.toNat_lt;unfold zEi bits8;rw [z6P,feed4 r _ (by omega),feed4 _ _ (by omega)]
def zGl(n:Nat):List Bool:=List.replicate n false
end
section
open Go Go.RowKit
abbrev rv(r:Rg):Value:= .int .u32 (r.toNat:Int)
theorem z8i(r:Rg):r.toNat<4294967296:=r.isLt
theorem rg_dbl(r:Rg):((r.toNat:Int)*(2:Int)%(4294967296:Int))=((r<<<1).toNat:Int):=by
 rw [BitVec.toNat_shiftLeft];simp [Nat.shiftLeft_eq]
theorem rg_top(r:Rg):((r.toNat:Int) / 2147483648==1)=r.msb:=by
 have:=z8i r;rw [BitVec.msb_eq_decide,Bool.eq_iff_iff,beq_iff_eq,decide_eq_true_eq];omega
theorem zC4(a c:Rg):bits .xor .u32 (a.toNat:Int) (c.toNat:Int)=((a ^^^ c).toNat:Int):=by
 rw [u32_xor_nat _ _ (z8i a) (z8i c),BitVec.toNat_xor]
theorem zIv(r:Rg):bits .xor .u32 (r.toNat:Int) 79764919=((r ^^^ zJH).toNat:Int):=zC4 r zJH
theorem zHH(r:Rg)(b:Bool)(w:World):
 Calls Tryz.prog 211 #[rv r,.bool b] w fun e w'=>e= .returned (rv (z4R r b))∧w=w':=by
 have H:Hid (z4R r b=(r<<<1) ^^^ (if(r.msb ^^ b)then zJH else 0#32)):=rfl;have ht:=rg_top r;have hr:=z8i r;cases hm:r.msb<;>cases b
 all_goals
  rw [hm]at ht H;go_enter Tryz.func211,Tryz.ntmps211
  go_wp2_with fail
  go_ret
  rw [H.out];refine⟨?_,rfl⟩;have hd:=rg_dbl r;rw [hd]
  first|(rw [zIv];rfl)|(simp;done)
theorem zHi(i:Nat)(h:i<16):((i:Int)*(268435456:Int))=((BitVec.ofNat 32 (i<<<28)).toNat:Int):=by
 rw [BitVec.toNat_ofNat,Nat.shiftLeft_eq];omega
theorem z75(r:Rg)(k:Nat):z7D r (zGl (k+1))=z4R (z7D r (zGl k)) false:=by
 rw [zGl,List.replicate_succ',z6P];rfl
theorem zHM(g i:Nat)(cs:Array Value)(w:World)(hi:i<16)(hcs:cs.size=16)(hb:Blk w g 315 cs):
 Calls Tryz.prog 210 #[.int .i64 i,.pointer (some ⟨g,0,none⟩)] w fun e w'=>e= .returned (.tuple #[])∧w'=w.setCell ⟨g,i,none⟩ (rv (tab i)):=by
 go_enter Tryz.func210,Tryz.ntmps210
 go_wp2_with fail
 go_loop [3,7] (fun rvv kv=>∃k:Nat,k≤4∧kv= .int .i64 k∧rvv=rv (z7D (BitVec.ofNat 32 (i<<<28)) (zGl k))) (fun _ kv=>4-(intOf kv).toNat)
 case atStart=>exact⟨0,by omega,rfl,by rw [zHi i hi];rfl⟩
 case round=>
  obtain⟨k,hk,rfl,rfl⟩:=hrel;by_cases hlt:k<4
  ·have H:=zz (z75 (BitVec.ofNat 32 (i<<<28)) k);go_wp2_with (go_at_call 211;refine(zHH _ _ _).mono ?_;rintro e w' ⟨rfl,rfl⟩)
   go_round
   case rel=>exact⟨k+1,by omega,by go_num,by rw [H.out]⟩
   case measure=>simp [intOf];omega
  ·obtain rfl:k=4:=by omega
   have hc:=hb.cell i;have hf:=hb.free i;rw [Array.getElem?_eq_getElem (by omega)]at hc;go_wp2_with fail
   go_end0
   exact⟨rfl,rfl⟩
def z3A(i:Nat):Array Value:=(Array.range 16).map fun j=>if j<i then rv (tab j)else .int .u32 0
theorem z3O(i:Nat):(z3A i).size=16:=by simp [z3A]
theorem zGt(i:Nat)(h:i<16):(z3A i).setIfInBounds i (rv (tab i))=z3A (i+1):=by
 apply Array.ext
 ·simp [z3A]
 ·intro j h1 h2;have hj:j<16:=by simpa [z3A]using h2
  rw [Array.getElem_setIfInBounds (by simpa using h1)];by_cases e:i=j
  ·subst e;simp [z3A]
  ·rw [if_neg e];simp only [z3A,Array.getElem_map,Array.getElem_range];by_cases hl:j<i
   ·rw [if_pos hl,if_pos (by omega)]
   ·rw [if_neg hl,if_neg (by omega)]
theorem zEa(j:Nat)(h:j<16):(z3A 16)[j]? =some (rv (tab j)):=by
 rw [Array.getElem?_eq_getElem (by rw [z3O];exact h)];simp [z3A,h]
theorem zEM:z3A 0= #[.int .u32 0,.int .u32 0,.int .u32 0,.int .u32 0,.int .u32 0,.int .u32 0,.int .u32 0,.int .u32 0,.int .u32 0,.int .u32 0,.int .u32 0,.int .u32 0,.int .u32 0,.int .u32 0,.int .u32 0,.int .u32 0]:=by
 simp [z3A,←Array.toList_inj,List.range_succ]
theorem zBc(i:Nat):(z3A i).all (·.oneCell')=true:=by
 rw [Array.all_eq_true];intro j h;simp only [z3A,Array.getElem_map,Array.getElem_range]
 split<;>rfl
def tabV:Value:= .agg (z3A 16)
theorem z8z(i:Nat):(Tryz.prog.info? 315).map (·.size)=some (z3A i).size:=by rw [z3O];kernel_rfl
theorem Blk.setRow{w:World}{g:Nat}{t:TypeId}{cs:Array Value}(h:Blk w g t cs)(ds:Array Value):Blk (w.setRow g ds) g t ds:=by
 unfold Blk at h ⊢;simp [World.setRow,Array.getElem?_modify,h]
theorem z1K{B g:Nat}{w w':World}(h:Below B w w')(hg:B≤g)(ds:Array Value):Below B w (w'.setRow g ds):=by
 refine h.trans ⟨rfl,rfl,rfl,by simp,fun k hk=> ?_⟩;simp only [World.setRow,Array.getElem?_modify];rw [if_neg (by omega)]
theorem zG7(w:World):
 Calls Tryz.prog 207 #[] w fun e w'=>e= .returned tabV∧Below w.heap.size w w':=by
 have hmf:=z0K Tryz.prog;go_enter Tryz.func207,Tryz.ntmps207
 go_wp2_with fail
 rw [←zEM];have R0:Blk ((w.alloc (.cells (z3A 0) 315)).alloc (.cells (z3A 0) 315)) (w.heap.size+1) 315 (z3A 0)∧
  Blk ((w.alloc (.cells (z3A 0) 315)).alloc (.cells (z3A 0) 315)) w.heap.size 315 (z3A 0)∧
  Below w.heap.size w ((w.alloc (.cells (z3A 0) 315)).alloc (.cells (z3A 0) 315)):=by
  refine⟨?_,(Blk.new w _ _).alloc _,((Below.refl _ _).alloc (Nat.le_refl _) _).alloc (by simp) _⟩;have:=Blk.new (w.alloc (.cells (z3A 0) 315)) 315 (z3A 0);simpa using this
 generalize ((w.alloc (.cells (z3A 0) 315)).alloc (.cells (z3A 0) 315))=w2 at*;go_loopw [5] (fun iv wr=>∃i:Nat,iv= .int .i64 (i:Int)∧i≤16∧Blk wr (w.heap.size+1) 315 (z3A i)∧Blk wr w.heap.size 315 (z3A 0)∧Below w.heap.size w wr) (fun iv _=>16-(intOf iv).toNat)
 case atStart=>exact⟨0,rfl,by omega,R0⟩
 case round=>
  obtain⟨i,rfl,hi,hb1,hb0,hbl⟩:=hrel;clear R0;by_cases hlt:i<16
  ·go_wp2_with fail
   refine(zHM (w.heap.size+1) i (z3A i) wr hlt (z3O _) hb1).mono ?_;rintro e w3 ⟨rfl,rfl⟩;go_wp2
   go_roundw
   case rel=>exact⟨i+1,by go_num,by omega,by rw [←zGt i hlt];exact hb1.put i _,hb0.far (by simp) _,hbl.setCell (by simp) _⟩
   case measure=>simp [intOf];omega
  ·obtain rfl:i=16:=by omega
   have hu:=Tryz.underlying315;go_wp2_with (first|(refine wpList_load_row rfl _ (.tmp 1) rfl (w.heap.size+1) rfl _ (z3A 16) _ _ hb1 hu rfl (z8z 16) ?_)|(refine wpList_store_row rfl _ (.tmp 0) (.tmp 12) rfl w.heap.size (z3A 16) rfl rfl _ (z3A 0) hb0 (z8z 16) (by simp [z3O]) (zBc 16) ?_))
   exact bodyPost_ret (v:=tabV) (results_cell_row rfl _ _ w.heap.size _ (z3A 16) _ _ rfl (hb0.setRow _) hu rfl (z8z 16)) rfl ⟨rfl,z1K hbl (Nat.le_refl _) _⟩
theorem zIH(r:Rg):bits .xor .u32 IntKind.u32.max (r.toNat:Int)=((~~~r).toNat:Int):=by
 rw [show IntKind.u32.max=(((BitVec.allOnes 32:Rg).toNat:Nat):Int)from rfl,zC4]
 congr 2
theorem and15(x:Nat)(hx:x<256):bits .and .u8 (x:Int) 15=((x%16:Nat):Int):=by
 have h:=u8_and_nat x 15 hx (by omega);rw [show x&&& 15=x%16 from Nat.and_two_pow_sub_one_eq_mod x 4]at h;exact h
theorem zI7(r:Rg)(h:Nat)(hh:h<16):(r >>> 28).toNat ^^^ h<16:=by
 have hk:(r >>> 28).toNat<16:=by
  have:=r.isLt;rw [BitVec.toNat_ushiftRight,Nat.shiftRight_eq_div_pow];exact Nat.div_lt_of_lt_mul this
 exact Nat.xor_lt_two_pow (n:=4) hk hh
theorem zGC(r:Rg)(h:Nat)(hh:h<16):bits .xor .u32 ((r.toNat:Int) / (268435456:Int)) (h:Int)=(((r >>> 28).toNat ^^^ h:Nat):Int):=by
 have e:((r.toNat:Int) / (268435456:Int))=(((r >>> 28).toNat:Nat):Int):=by
  rw [BitVec.toNat_ushiftRight,Nat.shiftRight_eq_div_pow];omega
 have:=z8i (r >>> 28);rw [e,u32_xor_nat _ _ this (by omega)]
theorem zF9(r:Rg):((r.toNat:Int)*(16:Int)%(4294967296:Int))=((r<<<4).toNat:Int):=by
 rw [BitVec.toNat_shiftLeft];simp [Nat.shiftLeft_eq]
theorem zHh(S:Nat→Prop)(v0:Value)(v:Rg)(l:List UInt8)(w:World)(hl:l.length≤1099511627776)(hr:Bs S w v0 l):
 Calls Tryz.prog 202 #[rv v,v0] w fun e w'=>e= .returned (rv (zEc v l))∧Below w.heap.size w w':=by
 have HR:=zz ((Sl.lt hr (by omega)).more (fun _ h=>h.2));obtain⟨A,c,rfl,hlc,hcm,hA0,hA⟩:=hr.at;clear hA hr hA0;go_enter Tryz.func202,Tryz.ntmps202
 go_wp2_with fail
 refine(zG7 w).mono ?_;rintro e w1 ⟨rfl,hbl1⟩;have hr1:=Sl.below HR.out hbl1 (fun _ h=>h);have hs1:=hbl1.size;unfold tabV;go_wp2_with (refine wpList_store_row rfl _ (.tmp 5) (.tmp 9) rfl w1.heap.size (z3A 16) rfl rfl _ _ (Blk.new w1 _ _) (z8z 16) (by simp [z3O]) (zBc 16) ?_)
 have B1:Blk ((w1.alloc (.cells #[.int .u32 0,.int .u32 0,.int .u32 0,.int .u32 0,.int .u32 0,.int .u32 0,.int .u32 0,.int .u32 0,.int .u32 0,.int .u32 0,.int .u32 0,.int .u32 0,.int .u32 0,.int .u32 0,.int .u32 0,.int .u32 0] 315)).setRow w1.heap.size (z3A 16)) w1.heap.size 315 (z3A 16):=(Blk.new _ _ _).setRow _;have hbl2:Below w.heap.size w ((w1.alloc (.cells #[.int .u32 0,.int .u32 0,.int .u32 0,.int .u32 0,.int .u32 0,.int .u32 0,.int .u32 0,.int .u32 0,.int .u32 0,.int .u32 0,.int .u32 0,.int .u32 0,.int .u32 0,.int .u32 0,.int .u32 0,.int .u32 0] 315)).setRow w1.heap.size (z3A 16)):=z1K (hbl1.alloc hs1 _) hs1 _;have hr2:Bs (fun b=>b<w.heap.size) _ _ l:=Sl.below HR.out hbl2 (fun _ h=>h);clear hr1 HR hbl1;generalize ((w1.alloc _).setRow _ _)=w2 at*;obtain⟨_,_,hv,_,_,_,hA⟩:=hr2.at;injection hv with e1 _ e2
 subst e1 e2;have HA:=zz hA;clear hA hr2;go_loop [6,14] (fun rvv iv=>∃ (i:Nat) (r:Rg),iv= .int .i64 (i:Int)∧i≤l.length∧rvv=rv r∧Hid (r=z8E (~~~v) (l.take i))) (fun _ iv=>l.length-(intOf iv).toNat)
 case atStart=>exact⟨0,~~~v,rfl,by omega,by rw [zIH],rfl⟩
 case round=>
  obtain⟨i,r,rfl,hi,rfl,hrm⟩:=hrel;by_cases hil:i<l.length
  ·obtain⟨b,o,rfl,_,hcell⟩:=HA.out (by omega);have hc:=hcell i hil;clear hcell HA;have HS:Hid (zEi r l[i]=z8E (~~~v) (l.take (i+1))):=by
    rw [Hid,List.take_succ_eq_append_getElem hil,zCm,hrm.out]
   have HQ:=zz (zHP r l[i]);obtain⟨x,hx⟩:∃x,x=l[i].toNat:=⟨_,rfl⟩;have hx256:x<256:=hx▸l[i].toNat_lt;rw [←hx]at hc HQ;have n1:=zGC r (x / 16) (by omega);have n1l:=zI7 r (x / 16) (by omega);generalize (r >>> 28).toNat ^^^ (x / 16)=k1 at*;have c1:=(B1.cell k1).trans (zEa k1 n1l);have x1:=zC4 (r<<<4) (tab k1);rw [←zF9]at x1;generalize (r<<<4) ^^^ tab k1=r1 at*;have n2:=zGC r1 (x%16) (by omega);have n2l:=zI7 r1 (x%16) (by omega);generalize (r1 >>> 28).toNat ^^^ (x%16)=k2 at*;have c2:=(B1.cell k2).trans (zEa k2 n2l);have x2:=zC4 (r1<<<4) (tab k2);rw [←zF9]at x2;generalize (r1<<<4) ^^^ tab k2=r2 at*;have HR2:Hid (r2=z8E (~~~v) (l.take (i+1))):=by rw [Hid,←HS.out,HQ.out]
   have a15:=and15 x hx256;rw [show((x / 16:Nat):Int)=(x:Int) / (16:Int) by omega]at n1;rw [show((x%16:Nat):Int)=(x:Int)%(16:Int) by omega]at n2 a15;have l1:=z8i r;have l2:=z8i r1;have l3:=z8i r2;clear hx HS HQ;go_wp2_with fail
   go_round
   case rel=>exact⟨i+1,r2,by go_num,by omega,rfl,HR2⟩
   case measure=>simp [intOf];omega
  ·obtain rfl:i=l.length:=by omega
   have HR2:=hrm.out;rw [List.take_length]at HR2;have HR3:=zz HR2;clear HR2;go_wp2_with fail
   go_ret
   refine⟨?_,hbl2⟩;rw [zIH,HR3.out];rfl
theorem zIR(S:Nat→Prop)(v0:Value)(l:List UInt8)(w:World)(hl:l.length≤1099511627776)(hr:Bs S w v0 l):
 Calls Tryz.prog 192 #[v0] w fun e w'=>e= .returned (rv (z49 l))∧Below w.heap.size w w':=by
 have HR:=zz hr;obtain⟨A,c,rfl,hlc,hcm,hA0,hA⟩:=hr.at;clear hA hr hA0;go_enter Tryz.func192,Tryz.ntmps192
 go_wp2_with fail
 refine(zHh _ _ 0#32 l w hl HR.out).mono ?_;rintro e w1 ⟨rfl,hbl1⟩;go_wp2_with fail
 go_ret
 exact⟨rfl,hbl1⟩
theorem sum4(r:Rg):(r.toNat:Nat)<256 ^ 4:=r.isLt
theorem zBe(S:Nat→Prop)(v0:Value)(l:List UInt8)(w:World)(hb:BitsOk w)(hl:l.length≤1099511627776)(hr:Bs S w v0 l):
 Calls Tryz.prog 165 #[v0] w fun e w'=>∃A k c,e= .returned (.slice A k c)∧Ob 5 w' w.heap.size (.slice A k c) (l++beB (z49 l).toNat 4)∧Below w.heap.size w w':=by
 have HR:=zz ((Sl.lt hr (by omega)).more (fun _ h=>h.2));have HB:=zz hb;obtain⟨A,c,rfl,hlc,hcm,hA0,hA⟩:=hr.at;have HR0:=zz hr;clear hA hr hA0 hb;have hs:=z8i (z49 l);go_enter Tryz.func165,Tryz.ntmps165
 go_wp2_with fail
 refine(zIR _ _ l w hl HR0.out).mono ?_;rintro e w1 ⟨rfl,hbl1⟩;have hr1:=Sl.below HR.out hbl1 (fun _ h=>h);have HR1:=zz hr1;clear hr1;go_wp2_with fail
 refine(zFG _ _ l (z49 l).toNat 4 w1 (by omega) (by omega) (by unfold U64;omega) (fun _=>by omega) (HB.out.later hbl1) hl HR1.out).mono ?_;rintro e w2 ⟨A2,k2,c2,rfl,hown,hbl2⟩;go_wp2_with fail
 go_ret
 exact⟨A2,k2,c2,rfl,hown.lower hbl1.size,hbl1.trans (hbl2.mono hbl1.size)⟩
def z1g(l:List UInt8):Except Nat (List UInt8):=if l.length<4 then .error 20 else if l.take (l.length-4)++beB (z49 (l.take (l.length-4))).toNat 4=l then .ok (l.take (l.length-4))else .error 21
end
section
open Go
abbrev Cel:=List UInt8×List UInt8
def z2b(c:Cel):List UInt8:=z0Q c.1++z0Q c.2
def z0D(cs:List Cel):Nat:=(cs.flatMap z2b).length
theorem z17(a b:List Cel):z0D (a++b)=z0D a+z0D b:=by simp [z0D]
theorem z4Z(c:Cel):z0D [c]=(z2b c).length:=by simp [z0D]
theorem z2L{cs:List Cel}{i:Nat}(h:i<cs.length):z0D (cs.take (i+1))=z0D (cs.take i)+(z2b cs[i]).length:=by
 rw [List.take_succ_eq_append_getElem h,z17,z4Z]
theorem zCD{cs:List Cel}{i:Nat}:z0D (cs.take i)≤z0D cs:=by
 have h:z0D cs=z0D (cs.take i)+z0D (cs.drop i):=by rw [←z17,List.take_append_drop]
 omega
def Few(cs:List Cel):Prop:=cs.length≤100∧∀c∈cs,c.1.length≤600∧c.2.length≤600
theorem z0v(s:List UInt8)(h:s.length≤65536):(z0Q s).length=(z0A s.length).length+s.length:=by unfold z0Q;rw [List.length_append]
theorem zF6{c:Cel}(h:c.1.length≤65536∧c.2.length≤65536):(z2b c).length≤131092:=by
 unfold z2b;have h1:=z2t h.1;have h2:=z2t h.2;rw [List.length_append];omega
theorem z4Q(cs:List Cel)(h:∀c∈cs,c.1.length≤65536∧c.2.length≤65536):z0D cs≤131092*cs.length:=by
 induction cs with
 |nil=>simp [z0D]
 |cons c cs ih=>
  have h1:=zF6 (h c (by simp));have h2:=ih (fun x hx=>h x (by simp [hx]));have e:z0D (c::cs)=(z2b c).length+z0D cs:=by simp [z0D]
  rw [e,List.length_cons];omega
def pgF(leaf:Bool)(next:Int)(cs:List Cel):List UInt8:=(if leaf then [1]else [0])++(z0A next.toNat++(z0A cs.length++cs.flatMap z2b))
def z4W(next:Int)(cs:List Cel):Nat:=1+(z0A next.toNat).length+(z0A cs.length).length+z0D cs+4
def z73(l:List UInt8):List UInt8:=l++beB (z49 l).toNat 4
theorem z6Q(l:List UInt8):(z73 l).length=l.length+4:=by unfold z73;rw [List.length_append,z0u]
theorem zF3(leaf:Bool)(next:Int)(cs:List Cel):(pgF leaf next cs).length+4=z4W next cs:=by
 unfold pgF z4W z0D;cases leaf
 ·simp only [Bool.false_eq_true,if_false,List.length_append,List.length_cons,List.length_nil];omega
 ·simp only [if_true,List.length_append,List.length_cons,List.length_nil];omega
def zAI(prev:Option (List UInt8))(k:List UInt8):Bool:=match prev with
 |some p=> !Op.bytesLess p k
 |none=>false
def chk(prev:Option (List UInt8))(cs:List Cel):Nat:=match cs with
 | []=>0
 |c::cs=>if 480<c.1.length+c.2.length then 100 else if zAI prev c.1=true then 101 else chk (some c.1) cs
def z2U(cs:List Cel)(i:Nat):Option (List UInt8):=if i=0 then none else(cs[i-1]?).map (·.1)
theorem zHR{cs:List Cel}{i:Nat}(h:i<cs.length):chk (z2U cs i) (cs.drop i)=
 if 480<cs[i].1.length+cs[i].2.length then 100 else if zAI (z2U cs i) cs[i].1=true then 101 else chk (z2U cs (i+1)) (cs.drop (i+1)):=by
 rw [List.drop_eq_getElem_cons h,chk];have e:z2U cs (i+1)=some cs[i].1:=by
  unfold z2U;rw [if_neg (by omega),Nat.add_sub_cancel,List.getElem?_eq_getElem h];rfl
 rw [e]
theorem zJY(cs:List Cel)(p:Option (List UInt8)):chk p (cs.drop cs.length)=0:=by rw [List.drop_length,chk]
def z10(next:Int)(cs:List Cel):Nat:=
 if next<0∨256<next then 101 else if chk none cs≠0 then chk none cs else if 2048<z4W next cs then 100 else 0
end
section
open Go Go.RowKit
def z1D(P:Program)(ty:TypeId)(n:Nat):Prop:=(∃fs,P.underlying ty=some (.struct fs))∧(P.info? ty).map (·.size)=some n
section
variable {P:Program} {fn:Func}
theorem z1n{w:World}{g:Nat}{t ty:TypeId}{cs:Array Value}(hg:Blk w g t cs)(hS:z1D P ty cs.size):(loadVar ty ⟨g,0,none⟩).run P w= .ok (.agg cs) w:=by
 obtain⟨⟨fs,hu⟩,hi⟩:=hS;exact run_loadVar_row w g t ty cs (0,0) _ hg hu rfl hi
theorem z0O{p u:Tmp}{ty:TypeId}(h:fn.results= #[.cell p ty,.tmp u])(tmps:Array Value)(w:World)(g:Nat){t:TypeId}{cs:Array Value}
 (hp:tmps.getD p undef= .pointer (some ⟨g,0,none⟩)) (hg:Blk w g t cs) (hS:z1D P ty cs.size):
 (results fn tmps).run P w= .ok (.tuple #[.agg cs,tmps.getD u undef]) w:=by
 have hp':tmps[p]?.getD undef= .pointer (some ⟨g,0,none⟩):=by simpa using hp
 simp [results,h,hp',asAddr,z1n hg hS]
theorem z0x{p u v:Tmp}{ty:TypeId}(h:fn.results= #[.cell p ty,.tmp u,.tmp v])(tmps:Array Value)(w:World)(g:Nat){t:TypeId}{cs:Array Value}
 (hp:tmps.getD p undef= .pointer (some ⟨g,0,none⟩)) (hg:Blk w g t cs) (hS:z1D P ty cs.size):
 (results fn tmps).run P w= .ok (.tuple #[.agg cs,tmps.getD u undef,tmps.getD v undef]) w:=by
 have hp':tmps[p]?.getD undef= .pointer (some ⟨g,0,none⟩):=by simpa using hp
 simp [results,h,hp',asAddr,z1n hg hS]
theorem z26{p:Tmp}{ty:TypeId}(h:fn.results= #[.cell p ty])(tmps:Array Value)(w:World)(g:Nat){t:TypeId}{cs:Array Value}
 (hp:tmps.getD p undef= .pointer (some ⟨g,0,none⟩)) (hg:Blk w g t cs) (hS:z1D P ty cs.size):
 (results fn tmps).run P w= .ok (.agg cs) w:=by
 have hp':tmps[p]?.getD undef= .pointer (some ⟨g,0,none⟩):=by simpa using hp
 simp [results,h,hp',asAddr,z1n hg hS]
theorem z2E{p q u:Tmp}{ty ty':TypeId}(h:fn.results= #[.cell p ty,.cell q ty',.tmp u])(tmps:Array Value)(w:World)(g g':Nat){t t':TypeId}{cs cs':Array Value}
 (hp:tmps.getD p undef= .pointer (some ⟨g,0,none⟩)) (hq:tmps.getD q undef= .pointer (some ⟨g',0,none⟩)) (hg:Blk w g t cs) (hg':Blk w g' t' cs') (hS:z1D P ty cs.size) (hS':z1D P ty' cs'.size):
 (results fn tmps).run P w= .ok (.tuple #[.agg cs,.agg cs',tmps.getD u undef]) w:=by
 have hp':tmps[p]?.getD undef= .pointer (some ⟨g,0,none⟩):=by simpa using hp
 have hq':tmps[q]?.getD undef= .pointer (some ⟨g',0,none⟩):=by simpa using hq
 simp [results,h,hp',hq',asAddr,z1n hg hS,z1n hg' hS']
end
def ccs(cs:List Cel):List Value:=cs.flatMap fun c=> [.string (st c.1),.string (st c.2)]
theorem z2P(cs:List Cel):(ccs cs).length=cs.length*2:=by
 induction cs with
 |nil=>rfl
 |cons r rs ih=>simp only [ccs,List.flatMap_cons,List.length_append,List.length_cons,List.length_nil]at ih ⊢;omega
theorem z1M(a b:List Cel):ccs (a++b)=ccs a++ccs b:=by simp [ccs]
theorem z4K(cs:List Cel):∀u∈ccs cs,u.oneCell'=true:=by
 intro u hu;obtain⟨r,_,hu⟩:=List.mem_flatMap.1 hu;simp at hu;rcases hu with rfl|rfl<;>rfl
theorem zII{cs:List Cel}{j:Nat}(h:j<cs.length):(ccs cs)[j*2]? =some (.string (st cs[j].1))∧(ccs cs)[j*2+1]? =some (.string (st cs[j].2)):=by
 induction cs generalizing j with
 |nil=>simp at h
 |cons r rs ih=>
  rcases j with _|j
  ·simp [ccs]
  ·have:=ih (j:=j) (by simpa using h);simp only [ccs,List.flatMap_cons]at this ⊢;rw [show(j+1)*2=j*2+1+1 by omega];simpa using this
theorem z69:∀ (rs:List Cel) (k:Nat),(ccs rs).take (k*2)=ccs (rs.take k)
 | [],k=>by simp [ccs]
 |r::rs,0=>by simp [ccs]
 |r::rs,k+1=>by
  have:=z69 rs k;rw [Nat.add_mul,Nat.one_mul];simp only [ccs,List.flatMap_cons,List.take_succ_cons]at this ⊢;simpa using this
theorem z5z:∀ (rs:List Cel) (k:Nat),(ccs rs).drop (k*2)=ccs (rs.drop k)
 | [],k=>by simp [ccs]
 |r::rs,0=>by simp [ccs]
 |r::rs,k+1=>by
  have:=z5z rs k;rw [Nat.add_mul,Nat.one_mul];simp only [ccs,List.flatMap_cons,List.drop_succ_cons]at this ⊢;simpa using this
def Cs(S:Nat→Prop)(w:World)(v:Value)(cs:List Cel):Prop:=Sl S w 2 v cs.length (ccs cs)
def Co(w:World)(B:Nat)(v:Value)(cs:List Cel):Prop:=w.ownsRow B 121 2 v cs.length (ccs cs)
theorem Co.cs{w:World}{B:Nat}{v:Value}{cs:List Cel}(h:Co w B v cs):Cs (fun b=>B≤b∧b<w.heap.size) w v cs:=Sl.of_own (by omega) h
theorem Cs.lt{S:Nat→Prop}{w:World}{v:Value}{cs:List Cel}(h:Cs S w v cs):Cs (fun b=>b<w.heap.size) w v cs:=(Sl.lt h (by omega)).more fun _ h=>h.2
theorem Cs.later{w w':World}{v:Value}{cs:List Cel}(h:Cs (fun b=>b<w.heap.size) w v cs)(hb:Below w.heap.size w w'):Cs (fun b=>b<w.heap.size) w' v cs:=Sl.below h hb fun _ h=>h
theorem Cs.up{w w':World}{v:Value}{cs:List Cel}(h:Cs (fun b=>b<w.heap.size) w v cs)(hb:Below w.heap.size w w'):Cs (fun b=>b<w'.heap.size) w' v cs:=(h.later hb).more fun _ h=>Nat.lt_of_lt_of_le h hb.size
theorem Cs.at{S:Nat→Prop}{w:World}{v:Value}{cs:List Cel}(h:Cs S w v cs):∃A c,v= .slice A cs.length c∧cs.length≤c∧c≤maxLen∧(A=none→c=0)∧
 (0<cs.length→∃b o,A=some ⟨b,o,none⟩∧S b∧∀j (hj:j<cs.length),w.cell? ⟨b,o+j*2,none⟩=some (.string (st cs[j].1))∧w.cell? ⟨b,o+j*2+1,none⟩=some (.string (st cs[j].2))):=by
 obtain⟨_,A,c,h2,h3,h4,h5,h6⟩:=h;refine⟨A,c,h2,h3,h4,h5,fun hn=> ?_⟩;obtain⟨b,o,ha,hs,hc⟩:=h6 hn;refine⟨b,o,ha,hs,fun j hj=>⟨hc _ _ (zII hj).1,?_⟩⟩;rw [Nat.add_assoc];exact hc _ _ (zII hj).2
theorem Cs.pre{S:Nat→Prop}{w:World}{cs:List Cel}{A:Option Addr}{c:Nat}(h:Cs S w (.slice A cs.length c) cs){k:Nat}(hk:k≤cs.length):Cs S w (.slice A k c) (cs.take k):=by
 have hl:(cs.take k).length=k:=by rw [List.length_take];omega
 obtain⟨h1,A',c',hv,h3,h4,h5,h6⟩:=h;injection hv with hA _ hc
 subst hA hc;unfold Cs;rw [hl,←z69];refine⟨by rw [List.length_take,h1,Nat.min_eq_left (Nat.mul_le_mul_right _ hk)],A,c,rfl,by omega,h4,h5,fun hn=> ?_⟩;obtain⟨b,o,hA,hS,hcell⟩:=h6 (by omega);refine⟨b,o,hA,hS,fun j u hu=>hcell j u ?_⟩;have hj:=(List.getElem?_eq_some_iff.1 hu).1;rw [List.length_take]at hj
 rwa [List.getElem?_take_of_lt (by omega)]at hu
theorem Cs.cut{S:Nat→Prop}{w:World}{cs:List Cel}{b o c:Nat}(h:Cs S w (.slice (some ⟨b,o,none⟩) cs.length c) cs){k:Nat}(hk:k≤cs.length):
 Cs S w (.slice (if c=k then some ⟨b,o,none⟩else some ⟨b,o+k*2,none⟩) (cs.length-k) (c-k)) (cs.drop k):=by
 obtain⟨h1,A',c',hv,h3,h4,h5,h6⟩:=h;injection hv with hA _ hc
 subst hA hc;unfold Cs;rw [List.length_drop,←z5z];refine⟨by rw [List.length_drop,h1,Nat.sub_mul],_,c-k,rfl,by omega,by omega,(fun hn=>by split at hn<;>cases hn),fun hn=> ?_⟩;obtain⟨b',o',hA,hS,hcell⟩:=h6 (by omega);injection hA with hA
 injection hA with hb ho
 subst hb ho;rw [if_neg (by omega)];refine⟨b,o+k*2,rfl,hS,fun j u hu=> ?_⟩;rw [List.getElem?_drop]at hu;rw [Nat.add_assoc];exact hcell _ u hu
theorem z1r:z1D Tryz.prog 186 3:=⟨⟨_,Tryz.underlying186⟩,by kernel_rfl⟩
theorem elemCel:Elem Tryz.prog 62 121 (.agg #[.string ⟨#[]⟩,.string ⟨#[]⟩]) 2 32:=Elem.mk' Tryz.underlying62 (by kernel_rfl) rfl (by omega)
end
end Go.Proofs.YtdkobefpnjbgnaaGreatDoor
