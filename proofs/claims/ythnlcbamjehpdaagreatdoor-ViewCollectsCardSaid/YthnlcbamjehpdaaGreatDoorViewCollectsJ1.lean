/- Part 1. -/
import Derived.WalkKit
import Derived.WalkSpells
import Derived.WalkLawsBesides
import Derived.Maps.AppendAt
import Derived.Deep.AppendLies
import Derived.Deep.Draws
import Derived.Lib.Hide
import Derived.Laws.IdiomStrings
import Derived.Test.YthnlcbamjehpdaaGreatDoorProg
import Derived.Deep.QuietTactic
import Derived.BigQuiet
import Derived.Lib.SlBytesConst
import Derived.Laws.OwnMore
import Derived.RegionTactic
import Derived.Lib.AppendStr
import Derived.Laws.BitsAllLaws
import Derived.Laws.Rows
namespace Go.Proofs.YthnlcbamjehpdaaGreatDoor
set_option linter.unusedVariables false
set_option maxHeartbeats 16000000
set_option maxRecDepth 100000
set_option linter.defProp false
def y5:=@Nat.le_refl
def y6:=@List.length_append
def y7:=@Go.RowKit.Below.refl
def y8:=@List.length_cons
def y9:=@List.mem_cons
def yA:=@if_neg
def yB:=@if_pos
def yC:=@List.length_take
def yD:=@Nat.le_trans
def yE:=@Nat.lt_of_lt_of_le
def yF:=@List.mem_append
def yG:=@Array.getElem?_eq_getElem
def yH:=@List.not_mem_nil
def yI:=@List.length_drop
def yJ:=@List.mem_singleton
def yK:=@List.getElem?_eq_getElem
def yL:=@List.drop_eq_getElem_cons
def yM:=@List.append_assoc
def yN:=@Go.cell_later
def yO:=@List.take_succ_eq_append_getElem
def yP:=@List.mem_map
def yQ:=@List.getElem_mem
def yR:=@Go.World.cell?_of_block
def yS:=@List.mem_append_left
def yT:=@List.take_append_drop
def yU:=@Nat.zero_le
def yV:=@beq_eq_false_iff_ne
def yW:=@List.length_nil
def yX:=@List.eq_nil_of_length_eq_zero
def yY:=@List.mem_of_mem_take
def yZ:=@decide_eq_false
def ya:=@List.take_of_length_le
def yb:=@List.flatMap_cons
def yd:=@decide_eq_true_eq
def ye:=@Array.length_toList
def yf:=@List.append_nil
def yg:=@List.getElem?_eq_some_iff
def yh:=@List.pairwise_cons
def yj:=@decide_eq_false_iff_not
def ym:=@List.mem_cons_of_mem
def yo:=@List.mem_of_mem_drop
def yp:=@or_false
def yq:=@decide_eq_true
def yr:=@List.mem_of_find?_eq_some
def yt:=@List.mem_range
def yu:=@Bool.false_eq_true
def yv:=@if_false
def yw:=@List.length_map
def yx:=@List.getElem?_append_right
def yy:=@List.map_cons
def yz:=@List.nil_append
def Y0:=@List.takeWhile_cons
def Y3:=@Nat.eq_zero_or_pos
def Y4:=@Nat.zero_add
def Y5:=@Nat.lt_or_ge
def Y6:=@List.map_append
def Y7:=@List.length_singleton
def Y8:=@List.cons_append
def Y9:=@Bool.and_eq_true
def YA:=@List.nodup_cons
def YB:=@Go.IntWalk.i64_in
def YC:=@Go.World.ownsRow.alloc
def YD:=@List.mem_filter
def YE:=@List.mem_flatMap
def YF:=@Option.some.inj
def YG:=@List.take_length
def YH:=@Option.some.injEq
def YI:=@List.length_filter_le
def YJ:=@List.mem_cons_self
def YK:=@Array.getElem?_eq_none
def YL:=@List.pairwise_append
def YM:=@Array.getElem?_eq_some_iff
def YN:=@if_true
def YO:=@List.mem_append_right
def YP:=@Nat.mul_le_mul_right
def YQ:=@Nat.add_zero
def YR:=@Option.map_eq_some_iff
def YS:=@Nat.add_sub_cancel
def YT:=@Nat.mul_le_mul_left
def YU:=@Nat.add_sub_cancel_left
def YV:=@List.count_append
def YW:=@List.drop_eq_nil_of_le
def YX:=@List.filter_eq_nil_iff
def YY:=@List.count_cons
def YZ:=@List.flatMap_nil
def Ya:=@Go.World.ownsRow_nil
def Yb:=@Int.toNat_natCast
def Yc:=@Go.World.block_lt_of_cell?
def Yd:=@Go.RowKit.Below.heap_setCell
def Ye:=@Nat.min_eq_left
def Yf:=@List.filter_cons
def Yg:=@List.drop_of_length_le
def Yh:=@List.getElem?_append_left
def Yi:=@Nat.lt_irrefl
def Yj:=@List.getElem?_drop
def Yk:=@List.find?_eq_none
def Yl:=@Option.getD_some
def Ym:=@Go.Result.andThen_ok
def Yn:=@bne_iff_ne
def Yo:=@List.size_toArray
def Yp:=@Nat.lt_trans
def Yq:=@List.flatMap_append
def Yr:=@List.drop_succ_cons
def Ys:=@List.filter_eq_self
def Yt:=@UInt8.toNat_inj
def Yu:=@List.find?_some
def Yv:=@Go.Lib.run_eql_slice_nil
def Yw:=@Go.World.grownBy.refl
def Yx:=@List.map_nil
def Yy:=@List.getElem?_take_of_lt
def Yz:=@List.take_append_of_le_length
def Z0:=@Option.map_some
def Z2:=@Bool.or_eq_true
def Z3:=@Nat.pow_succ
def Z4:=@Nat.add_assoc
def Z5:=@List.getElem_map
def Z6:=@List.any_eq_true
def Z7:=@Go.IntKind.wrap_i64
def Z8:=@BitVec.msb_eq_getLsbD_last
def Z9:=@beq_iff_eq
def ZA:=@Go.Maps.int_keyed
def ZB:=@Option.isSome_none
def ZC:=@Go.World.cell?_alloc_new
def ZD:=@Array.getElem?_modify
def ZE:=@List.getElem?_eq_none
def ZF:=@List.pairwise_iff_getElem
def ZG:=@List.take_left'
def ZH:=@Nat.div_lt_of_lt_mul
def ZI:=@List.nodup_append
def ZJ:=@List.length_range
def ZK:=@List.reverse_cons
def ZL:=@Sigma.mk.inj
def ZM:=@List.reverse_reverse
def ZN:=@Option.isSome_iff_exists
def ZO:=@List.length_pos_iff
def ZP:=@List.eq_nil_iff_forall_not_mem
def ZQ:=@List.filter_cons_of_pos
def ZR:=@List.getElem?_cons_zero
def ZS:=@List.take_zero
def ZT:=@List.pairwise_singleton
def ZU:=@List.drop_append_of_le_length
def ZV:=@Go.Sem.run_bind
def ZW:=@Go.Sem.run_pure
def ZX:=@Go.World.ownsRow_made
def ZY:=@Nat.zero_mul
def ZZ:=@List.getElem_range
def Za:=@List.getElem_cons_succ
def Zb:=@List.range_succ
def Zc:=@List.dropLast_concat_getLast
def Zd:=@Bool.eq_iff_iff
def Ze:=@Prod.mk.injEq
def Zf:=@List.getElem?_toArray
def Zg:=@Array.getElem?_toList
def Zh:=@List.Perm.append_left
def Zi:=@Bool.not_eq_true'
def Zj:=@List.getElem?_map
def Zk:=@List.pairwise_map
def Zl:=@List.idxOf_lt_length_of_mem
def Zm:=@Nat.pow_le_pow_right
def Zo:=@List.mem_iff_getElem
def Zp:=@Array.toList_setIfInBounds
def Zq:=@List.exists_cons_of_ne_nil
def Zr:=@List.drop_length
def Zs:=@Nat.sub_self
def Zt:=@Go.Addr.add_lit
def Zu:=@List.mem_reverse
def Zv:=@Nat.le_add_right
def Zw:=@Nat.shiftRight_eq_div_pow
def Zx:=@List.take_succ_cons
def Zy:=@List.filter_sublist
def Zz:=@BitVec.toNat_ushiftRight
def Q0:=@Option.isSome_some
def Q4:=@List.filter_cons_of_neg
def Q5:=@List.getElem_drop
def Q7:=@BitVec.toNat_shiftLeft
def Q8:=@List.find?_cons_of_neg
def Q9:=@List.take_take
def QB:=@Go.DataW.trod_int
def QC:=@Classical.epsilon_spec
def QD:=@List.count_nil
def QE:=@List.length_eq_one_iff
def QF:=@Array.getElem?_setIfInBounds_ne
def QG:=@List.map_toArray
def QH:=@Go.RowKit.Below.heap_alloc
def QI:=@List.all_eq_true
def QJ:=@Bool.false_or
def QK:=@Nat.add_mul
def QL:=@BitVec.shiftLeft_add
def QM:=@Nat.le_succ
def QN:=@List.find?_eq_some_iff_append
def QO:=@List.getLast?_eq_some_getLast
def QP:=@List.mem_map_of_mem
def QQ:=@List.reverse_append
def QR:=@List.filterMap_cons
def QS:=@Nat.mul_comm
def QT:=@List.drop_left
def QU:=@List.drop_drop
def QX:=@BitVec.toNat_ofNat
def QY:=@Nat.lt_of_le_of_lt
def QZ:=@List.drop_zero
def Qa:=@List.Pairwise.drop
def Qb:=@List.getElem_take
def Qc:=@List.foldl_append
def Qd:=@Nat.lt_of_succ_lt
def Qe:=@List.filter_congr
def Qf:=@Nat.shiftLeft_eq
def Qg:=@List.nodup_range
def Qh:=@List.perm_middle
def Qi:=@List.append_inj'
def Qj:=@Nat.add_comm
def Qk:=@Nat.mul_succ
def Ql:=@Int.natCast_pow
def Qm:=@List.foldl_cons
def Qn:=@List.length_set
def Qo:=@List.find?_cons
def Qp:=@Nat.mul_add
def Qq:=@false_and
section
open Go Go.RowKit Tryz
def Sl(S:Nat->Prop)(w:World)(size:Nat)(v:Value)(n:Nat)(xs:List Value):Prop:=
 xs.length=n*size/\∃A c,v= .slice A n c/\n<=c/\c<=maxLen/\(A=none->c=0)/\
  (0<n->∃b o,A=some ⟨b,o,none⟩/\S b/\∀j u,xs[j]? =some u->w.cell? ⟨b,o+j,none⟩=some u)
theorem z0U(b o j:Nat):(⟨b,o,none⟩:Addr).add j=⟨b,o+j,none⟩:=by
 unfold Addr.add
 split<;>simp_all
section
variable {S S':Nat->Prop} {w w':World} {size n:Nat} {v:Value} {xs:List Value}
theorem Sl.nil:Sl S w size (.slice none 0 0) 0 []:=⟨by simp,none,0,rfl,by omega,by simp [maxLen],fun _=>rfl,fun h=>by omega⟩
theorem Sl.keep(h:Sl S w size v n xs)(hk:∀b o,S b->w'.cell? ⟨b,o,none⟩=w.cell? ⟨b,o,none⟩):Sl S w' size v n xs:=by
 obtain⟨h1,A,c,h2,h3,h4,h5,h6⟩:=h;refine⟨h1,A,c,h2,h3,h4,h5,fun hn=> ?_⟩;obtain⟨b,o,ha,hs,hc⟩:=h6 hn;exact⟨b,o,ha,hs,fun j u hu=>(hk _ _ hs).trans (hc j u hu)⟩
theorem Sl.more(h:Sl S w size v n xs)(hS:∀b,S b->S' b):Sl S' w size v n xs:=by
 obtain⟨h1,A,c,h2,h3,h4,h5,h6⟩:=h;refine⟨h1,A,c,h2,h3,h4,h5,fun hn=> ?_⟩;obtain⟨b,o,ha,hs,hc⟩:=h6 hn;exact⟨b,o,ha,hS _ hs,hc⟩
theorem Sl.lt(h:Sl S w size v n xs)(hp:0<size):Sl (fun b=>S b/\b<w.heap.size) w size v n xs:=by
 obtain⟨h1,A,c,h2,h3,h4,h5,h6⟩:=h;refine⟨h1,A,c,h2,h3,h4,h5,fun hn=> ?_⟩;obtain⟨b,o,ha,hs,hc⟩:=h6 hn;refine⟨b,o,ha,⟨hs,?_⟩,hc⟩;have hl:0<xs.length:=by rw [h1];exact Nat.mul_pos hn hp
 exact Yc w _ (hc 0 _ (yK hl))
theorem Sl.below{B:Nat}(h:Sl S w size v n xs)(hb:Below B w w')(hS:∀b,S b->b<B):Sl S w' size v n xs:=
 h.keep fun b o hs=>hb.cell (p:=⟨b,o,none⟩) (hS b hs)
theorem Sl.drew(h:Sl S w size v n xs):Sl S w.drew size v n xs:=h
theorem Sl.drewN(h:Sl S w size v n xs)(k:Nat):Sl S (w.drewN k) size v n xs:=h
theorem Sl.alloc(h:Sl S w size v n xs)(hS:∀b,S b->b<w.heap.size)(o:Obj):Sl S (w.alloc o) size v n xs:=
 h.keep fun b o' hs=>World.cell?_alloc_lt w o ⟨b,o',none⟩ (hS b hs)
theorem Sl.alloc1(h:Sl S w 1 v n xs)(o:Obj):Sl S (w.alloc o) 1 v n xs:=
 ((h.lt (by omega)).alloc (fun _ hb=>hb.2) o).more fun _ hb=>hb.1
theorem Sl.setCell(h:Sl S w size v n xs){p:Addr}(hp:¬S p.block)(u:Value):Sl S (w.setCell p u) size v n xs:=
 h.keep fun b o hs=>World.cell?_setCell_other w p ⟨b,o,none⟩ u (fun e=>hp (by subst e;exact hs))
theorem Sl.grown{row:Option Nat}(h:Sl S w size v n xs)(hg:w.grownBy w' row)(hlt:∀b,S b->b<w.heap.size)(hr:∀b,S b->some b≠row):Sl S w' size v n xs:=
 h.keep fun b o hs=>yR (hg.block b (hlt b hs) (hr b hs))
theorem Sl.of_own{base:Nat}{e:TypeId}(hsz:0<size)(h:w.ownsRow base e size v n xs):Sl (fun b=>base<=b/\b<w.heap.size) w size v n xs:=by
 have hlt:=h.lt;have hcells:∀ {g:Nat},v.ownBlock=some g->_:=fun {g} hg=>h.cells (g:=g) hg
 refine⟨h.1,?_⟩;rcases h.2 with⟨rfl,rfl⟩|⟨g,cap,cur,rfl,hb,hg,hnc,hcm,_⟩
 .exact⟨none,0,rfl,by omega,by simp [maxLen],fun _=>rfl,fun hn=>by omega⟩
 .refine⟨_,cap,rfl,hnc,hcm,fun hh=>(by cases hh),fun _=>⟨g,0,rfl,hlt g rfl,fun j u hu=> ?_⟩⟩;have:=hcells (g:=g) rfl j u hu
  rwa [z0U]at this
end
structure Elem(P:Program)(t e:TypeId)(z:Value)(size bytes:Nat):Prop where
 under:P.underlying t=some (.slice e)
 info:∃i,P.info? e=some i/\i.zero=some z/\i.size=size/\i.bytes=bytes
 cells:z.cells.size=size
 pos:0<size
theorem Elem.mk'{P:Program}{t e:TypeId}{z:Value}{size bytes:Nat}(hu:P.underlying t=some (.slice e))
 (hi:(P.info? e).map (fun i=>(i.zero,i.size,i.bytes))=some (some z,size,bytes)) (hc:z.cells.size=size) (hp:0<size):Elem P t e z size bytes:=
 ⟨hu,info_parts hi,hc,hp⟩
theorem z0v{w:World}{base:Nat}{e:TypeId}{size n:Nat}{v:Value}{xs:List Value}(h:w.ownsRow base e size v n xs):∃A k c,v= .slice A k c:=by
 rcases h.2 with⟨rfl,_⟩|⟨g,cap,_,rfl,_⟩
 .exact⟨_,_,_,rfl⟩
 .exact⟨_,_,_,rfl⟩
theorem z0h{w:World}{base:Nat}{e:TypeId}{size n:Nat}{A:Option Addr}{k c:Nat}{xs:List Value}(h:w.ownsRow base e size (.slice A k c) n xs):k=n:=by
 rcases h.2 with⟨hv,hn⟩|⟨g,cap,_,hv,_⟩
 .injection hv with _ h2 _;omega
 .injection hv
section
variable {P:Program} (w:World)
theorem z5h{base:Nat}{t e:TypeId}{z:Value}{size bytes:Nat}(E:Elem P t e z size bytes)(ty:TypeId)
 {v:Value} {n:Nat} {xs:List Value} (hown:w.ownsRow base e size v n xs) (c:Nat):(Builtin.append_ #[t,t] ty #[v,.slice none 0 c]).run P w= .ok v w:=by
 obtain⟨i,hi,_⟩:=E.info;rcases hown.2 with⟨rfl,rfl⟩|⟨g,cap,cur,rfl,_,_,hnc,_⟩
 .simp [Builtin.append_,run_underlying E.under,sizeOf,typeInfo,hi,Builtin.lenOf,Builtin.firstCells]
 .simp [Builtin.append_,run_underlying E.under,sizeOf,typeInfo,hi,Builtin.lenOf,Builtin.firstCells,hnc,storeCells]
theorem z2W{base:Nat}{t e:TypeId}{z:Value}{size bytes:Nat}(E:Elem P t e z size bytes)(ty:TypeId)
 {v:Value} {n:Nat} {xs:List Value} (hown:w.ownsRow base e size v n xs)
 {S:Nat->Prop} {u:Value} {m:Nat} {news:List Value} (hr:Sl S w size u m news) (h1:∀x∈news,x.oneCell'=true)
 (hlen:n+m<=maxLen) (hbytes:(n+m)*bytes<=140737488355328) (hbase:base<=w.heap.size):
 ∃v' w',(Builtin.append_ #[t,t] ty #[v,u]).run P w= .ok v' w'/\w'.ownsRow base e size v' (n+m) (xs++news)/\w.grownBy w' v.ownBlock/\
  (v'.ownBlock=v.ownBlock∨v'.ownBlock=some w.heap.size):=by
 obtain⟨hl,A,c,rfl,hmc,hcm,hA0,hA⟩:=hr;have hE:=E;obtain⟨i,hi,hz,hsz,hby⟩:=E.info;rcases Y3 m with hm|hm
 .subst hm;obtain rfl:news= []:=yX (by simpa using hl);rcases A with _|ad
  .exact⟨v,w,z5h w hE ty hown c,by simpa using hown,Yw w _,.inl rfl⟩
  .obtain⟨v',w',hrun,h2,h3,_,h5⟩:=run_append_own_at (P:=P) w base t ty e i z size bytes E.under hi hz hsz hby E.cells E.pos v n xs hown ad 0 c [] (by simp) (fun j u hu=>by simp at hu) (fun u hu=>by simp at hu) hlen hbytes hbase;exact⟨v',w',hrun,h2,h3,h5⟩
 .obtain⟨b,o,rfl,_,hc⟩:=hA hm;obtain⟨v',w',hrun,h2,h3,_,h5⟩:=run_append_own_at (P:=P) w base t ty e i z size bytes E.under hi hz hsz hby E.cells E.pos v n xs hown ⟨b,o,none⟩ m c news hl (fun j u hu=>by rw [z0U];exact hc j u hu) h1 hlen hbytes hbase;exact⟨v',w',hrun,h2,h3,h5⟩
theorem z0A{ops:Array Oper}{rest:List Oper}{o:Oper}{a:Act}{Q:Exit->Act->World->Prop}(hgd:o.guard=none)(s x:Operand){t e:TypeId}{z:Value}{size bytes:Nat}
 (E:Elem P t e z size bytes) (ho:o.op= .call {callee:= .builtin .append,args:= #[s,x],argTypes:= #[t,t]})
 {base:Nat} {v:Value} {n:Nat} {xs:List Value} (hown:w.ownsRow base e size v n xs)
 {S:Nat->Prop} {u:Value} {m:Nat} {news:List Value} (hr:Sl S w size u m news) (hs:a.eval s=v) (hx:a.eval x=u) (h1:∀y∈news,y.oneCell'=true)
 (hlen:n+m<=maxLen) (hbytes:(n+m)*bytes<=140737488355328) (hbase:base<=w.heap.size)
 (h:∀A k c w',w'.ownsRow base e size (.slice A k c) (n+m) (xs++news)->w.grownBy w' v.ownBlock->((Value.slice A k c).ownBlock=v.ownBlock∨(Value.slice A k c).ownBlock=some w.heap.size)->wpList P ops Q rest (a.put o.dst (.slice A k c)) w'):
 wpList P ops Q (o::rest) a w:=by
 refine wpList_plain hgd fun K hK=> ?_
 obtain⟨v',w',hrun,h2,h3,h4⟩:=z2W (P:=P) w E o.type hown hr h1 hlen hbytes hbase;obtain⟨A,k,c,rfl⟩:=z0v h2;unfold Oper.wp execOp;simp only [ho,resolve,invoke,builtin,ZV,ZW,Ym,QG,yy,Yx,hs,hx,hrun];exact hK _ _ (h A k c w' h2 h3 h4)
end
def bv(l:List UInt8):List Value:=l.map fun b=> .int .u8 (b.toNat:Int)
theorem z6f(l m:List UInt8):bv (l++m)=bv l++bv m:=by simp [bv]
theorem zId(l:List UInt8):∀u∈bv l,u.oneCell'=true:=by
 intro u hu;obtain⟨_,_,rfl⟩:=yP.1 hu;rfl
theorem zJH{l:List UInt8}{j:Nat}(h:j<l.length):(bv l)[j]? =some (.int .u8 (l[j].toNat:Int)):=by simp [bv,yK h]
def Bs(S:Nat->Prop)(w:World)(v:Value)(l:List UInt8):Prop:=Sl S w 1 v l.length (bv l)
def Ob(e:TypeId)(w:World)(B:Nat)(v:Value)(l:List UInt8):Prop:=w.ownsRow B e 1 v l.length (bv l)
theorem Ob.nil(e:TypeId)(w:World)(B:Nat):Ob e w B (.slice none 0 0) []:=Ya w B e 1
theorem Ob.made(e:TypeId)(w:World)(B:Nat)(hB:B<=w.heap.size){g:Nat}(hg:g=w.heap.size):Ob e (w.alloc (.cells #[] e)) B (.slice (some ⟨g,0,none⟩) 0 0) []:=by
 subst hg;exact ZX w #[] 0 hB (by simp [maxLen]) (by simp)
theorem Ob.len{e:TypeId}{w:World}{B:Nat}{A:Option Addr}{k c:Nat}{l:List UInt8}(h:Ob e w B (.slice A k c) l):k=l.length:=z0h h
theorem Ob.bs{e:TypeId}{w:World}{B:Nat}{v:Value}{l:List UInt8}(h:Ob e w B v l):Bs (fun b=>B<=b/\b<w.heap.size) w v l:=Sl.of_own (by omega) h
theorem Ob.alloc{e:TypeId}{w:World}{B:Nat}{v:Value}{l:List UInt8}(h:Ob e w B v l)(o:Obj):Ob e (w.alloc o) B v l:=YC h o
theorem Ob.lower{e:TypeId}{w:World}{B B':Nat}{v:Value}{l:List UInt8}(h:Ob e w B v l)(hB:B'<=B):Ob e w B' v l:=by
 obtain⟨h1,h2⟩:=h;refine⟨h1,?_⟩;rcases h2 with h2|⟨g,cap,cur,hv,hg,r⟩
 .exact .inl h2
 .exact .inr ⟨g,cap,cur,hv,yD hB hg,r⟩
theorem Ob.later{e:TypeId}{w w':World}{B:Nat}{v:Value}{l:List UInt8}(h:Ob e w B v l)(hb:Below w.heap.size w w'):Ob e w' B v l:=by
 obtain⟨h1,h2⟩:=h;refine⟨h1,?_⟩;rcases h2 with h2|⟨g,cap,cur,hv,hg,hh,r⟩
 .exact .inl h2
 .exact .inr ⟨g,cap,cur,hv,hg,(hb.block g (lt_of_block hh)).trans hh,r⟩
theorem Bs.one(w:World)(e:TypeId)(x:Int)(h0:0<=x)(h1:x<=255){g:Nat}(hg:g=w.heap.size):Bs (fun b=>b=w.heap.size) (w.alloc (.cells #[.int .u8 x] e)) (.slice (some ⟨g,0,none⟩) 1 1) [UInt8.ofNat x.toNat]:=by
 subst hg;refine⟨by simp [bv],_,1,rfl,by simp,by simp [maxLen],(fun h=>by cases h),fun _=>⟨_,0,rfl,rfl,fun j u hu=> ?_⟩⟩;rcases j with _|j
 .simp [bv]at hu;subst hu;rw [ZC];simp;omega
 .simp [bv]at hu
theorem Bs.at{S:Nat->Prop}{w:World}{v:Value}{l:List UInt8}(h:Bs S w v l):∃A c,v= .slice A l.length c/\l.length<=c/\c<=maxLen/\(A=none->c=0)/\
 (0<l.length->∃b o,A=some ⟨b,o,none⟩/\S b/\∀j (hj:j<l.length),w.cell? ⟨b,o+j,none⟩=some (.int .u8 (l[j].toNat:Int))):=by
 obtain⟨_,A,c,h2,h3,h4,h5,h6⟩:=h;refine⟨A,c,h2,h3,h4,h5,fun hn=> ?_⟩;obtain⟨b,o,ha,hs,hc⟩:=h6 hn;exact⟨b,o,ha,hs,fun j hj=>hc j _ (zJH hj)⟩
theorem Bs.mk_{S:Nat->Prop}{w:World}{l:List UInt8}{A:Option Addr}{c:Nat}(h3:l.length<=c)(h4:c<=maxLen)(h5:A=none->c=0)
 (h6:0<l.length->∃b o,A=some ⟨b,o,none⟩/\S b/\∀j (hj:j<l.length),w.cell? ⟨b,o+j,none⟩=some (.int .u8 (l[j].toNat:Int))):Bs S w (.slice A l.length c) l:=by
 refine⟨by simp [bv],A,c,rfl,h3,h4,h5,fun hn=> ?_⟩;obtain⟨b,o,ha,hs,hc⟩:=h6 hn;refine⟨b,o,ha,hs,fun j u hu=> ?_⟩;have hj:j<l.length:=by
  have:=(yg.1 hu).1;simpa [bv]using this
 rw [zJH hj]at hu;rw [hc j hj];exact hu
theorem Bs.cut{S:Nat->Prop}{w:World}{l:List UInt8}{b o c:Nat}(h:Bs S w (.slice (some ⟨b,o,none⟩) l.length c) l){k:Nat}(hk:k<=l.length):
 Bs S w (.slice (if c=k then some ⟨b,o,none⟩else some ⟨b,o+k,none⟩) (l.length-k) (c-k)) (l.drop k):=by
 obtain⟨A',c',hv,h3,h4,h5,h6⟩:=h.at;injection hv with hA _ hc
 subst hA hc;rw [<-yI];refine Bs.mk_ (by rw [yI];omega) (by omega) (fun hn=>by split at hn<;>cases hn) fun hn=> ?_
 rw [yI]at hn;obtain⟨b',o',hA,hS,hc⟩:=h6 (by omega);injection hA with hA
 injection hA with hb ho
 subst hb ho;rw [yA (by omega)];refine⟨b,o+k,rfl,hS,fun j hj=> ?_⟩;rw [yI]at hj;rw [Z4,hc (k+j) (by omega),Q5]
theorem z02{P:Program}(w:World){ops:Array Oper}{rest:List Oper}{o:Oper}{a:Act}{Q:Exit->Act->World->Prop}(hgd:o.guard=none)(s x:Operand){t e:TypeId}
 (E:Elem P t e (.int .u8 0) 1 1) (ho:o.op= .call {callee:= .builtin .append,args:= #[s,x],argTypes:= #[t,t]})
 {base:Nat} {v:Value} {l:List UInt8} (hown:Ob e w base v l)
 {S:Nat->Prop} {u:Value} {m:List UInt8} (hr:Bs S w u m) (hs:a.eval s=v) (hx:a.eval x=u)
 (hlen:l.length+m.length<=140737488355328) (hbase:base<=w.heap.size)
 (h:∀A k c w',Ob e w' base (.slice A k c) (l++m)->w.grownBy w' v.ownBlock->((Value.slice A k c).ownBlock=v.ownBlock∨(Value.slice A k c).ownBlock=some w.heap.size)->wpList P ops Q rest (a.put o.dst (.slice A k c)) w'):
 wpList P ops Q (o::rest) a w:=
 z0A w hgd s x E ho hown hr hs hx (zId _) (by simp only [maxLen];omega) (by omega) hbase fun A k c w' h2 h3 h4=>
  h A k c w' (by unfold Ob;rw [z6f,y6];exact h2) h3 h4
theorem z01{B:Nat}{w0 w w':World}{e:TypeId}{size n:Nat}{v:Value}{xs:List Value}(h:Below B w0 w)(hown:w.ownsRow B e size v n xs)(hg:w.grownBy w' v.ownBlock)(hB:B<=w.heap.size):Below B w0 w':=
 h.grown hg hB fun k hk=>(hown.lt k hk).1
def Blk(w:World)(g:Nat)(t:TypeId)(cs:Array Value):Prop:=w.heap[g]? =some (.cells cs t (0,0))
section
variable {w w':World} {g:Nat} {t:TypeId} {cs:Array Value}
theorem Blk.lt(h:Blk w g t cs):g<w.heap.size:=lt_of_block h
theorem Blk.cell(h:Blk w g t cs)(i:Nat):w.cell? ⟨g,i,none⟩=cs[i]? :=by unfold Blk at h;simp [World.cell?,h]
theorem Blk.free(h:Blk w g t cs)(i:Nat):w.frozen? ⟨g,i,none⟩=false:=by unfold Blk at h;simp [World.frozen?,h]
theorem Blk.new(w:World)(t:TypeId)(cs:Array Value):Blk (w.alloc (.cells cs t)) w.heap.size t cs:=heap_alloc_new w _
theorem Blk.drew(h:Blk w g t cs):Blk w.drew g t cs:=h
theorem Blk.drewN(h:Blk w g t cs)(n:Nat):Blk (w.drewN n) g t cs:=h
theorem Blk.alloc(h:Blk w g t cs)(o:Obj):Blk (w.alloc o) g t cs:=(QH w o g h.lt).trans h
theorem Blk.put(h:Blk w g t cs)(i:Nat)(u:Value):Blk (w.setCell ⟨g,i,none⟩ u) g t (cs.setIfInBounds i u):=by
 unfold Blk at h ⊢;simp [World.setCell,ZD,h]
theorem Blk.put1{v:Value}(h:Blk w g t #[v])(u:Value):Blk (w.setCell ⟨g,0,none⟩ u) g t #[u]:=h.put 0 u
theorem Blk.far(h:Blk w g t cs){p:Addr}(hp:g≠p.block)(u:Value):Blk (w.setCell p u) g t cs:=(Yd w p u g hp).trans h
theorem Blk.below{B:Nat}(h:Blk w g t cs)(hb:Below B w w')(hg:g<B):Blk w' g t cs:=(hb.block g hg).trans h
theorem Blk.later(h:Blk w g t cs)(hb:Below w.heap.size w w'):Blk w' g t cs:=h.below hb h.lt
theorem Blk.grown{row:Option Nat}(h:Blk w g t cs)(hb:w.grownBy w' row)(hg:row≠some g):Blk w' g t cs:=(hb.block g h.lt (fun e=>hg e.symm)).trans h
theorem Blk.ne{g':Nat}{t':TypeId}{cs':Array Value}(h:Blk w g t cs)(h':Blk w g' t' cs')(hne:t≠t'):g≠g':=by
 rintro rfl;unfold Blk at h h';rw [h]at h';injection h' with h'
 injection h' with _ ht
 exact hne ht
theorem z31{base:Nat}{e:TypeId}{size n:Nat}{v:Value}{xs:List Value}(h:w.ownsRow base e size v n xs)(hg:Blk w g t cs)(hne:e≠t):v.ownBlock≠some g:=by
 rcases h.2 with⟨rfl,_⟩|⟨g',cap,cur,rfl,_,hh,_⟩
 .simp [Value.ownBlock]
 .intro he;have e':g'=g:=by simpa [Value.ownBlock]using he
  subst e';exact Blk.ne (t:=e) hh hg hne rfl
theorem Blk.kept{base:Nat}{e:TypeId}{size n:Nat}{v:Value}{xs:List Value}(hg:Blk w g t cs)(h:w.ownsRow base e size v n xs)(hb:w.grownBy w' v.ownBlock)(hne:e≠t):Blk w' g t cs:=
 hg.grown hb (z31 h hg hne)
theorem z3g{base:Nat}{e:TypeId}{size n:Nat}{v:Value}{xs:List Value}(h:w.ownsRow base e size v n xs)(hg:Blk w g t cs)(hne:e≠t)(i:Nat)(u:Value):(w.setCell ⟨g,i,none⟩ u).ownsRow base e size v n xs:=
 ownsRow_setCell_other h (z31 h hg hne) u
end
def zJ9(w w':World):Prop:=∃n,w'=w.drewN n
theorem z0N(P:Program)(fn:Fn)(first cap:Array Value)(w:World):(Instr.makeFunc fn first cap).run P w= .ok (.func fn first cap) w:=rfl
def U64:Nat:=18446744073709551616
def z0C(x:Nat):List UInt8:=if x<128 then [UInt8.ofNat x]else UInt8.ofNat (x%128+128)::z0C (x / 128)
termination_by x
theorem z2q{y:Nat}(h:y<128):z0C y= [UInt8.ofNat y]:=by rw [z0C,yB h]
theorem z4u{y:Nat}(h:¬y<128):z0C y=UInt8.ofNat (y%128+128)::z0C (y / 128):=by rw [z0C,yA h]
theorem z1u(x:Nat):1<=(z0C x).length:=by
 unfold z0C;split<;>simp
theorem z5p:∀ (n x:Nat),x<128 ^ (n+1)->(z0C x).length<=n+1
 |0,x,h=>by rw [z2q (by simpa using h)];simp
 |n+1,x,h=>by
  by_cases hx:x<128
  .rw [z2q hx];simp
  .rw [z4u hx,y8];have:=z5p n (x / 128) (by rw [Z3]at h;exact ZH (by omega));omega
theorem z09{x:Nat}(h:x<U64):(z0C x).length<=10:=z5p 9 x (yE h (by unfold U64;decide))
theorem or128:∀a,a<256->a|||128=a%128+128:=by decide+kernel
theorem zDI(y:Nat):bits .or .u8 ((y:Int)%256) 128=(y:Int)%128+128:=by
 have h:=u8_or_nat (y%256) 128 (by omega) (by omega);rw [or128 _ (by omega)]at h;have e:(((y%256:Nat)):Int)=(y:Int)%256:=by omega
 rw [e]at h;exact h.trans (by omega)
def z4v(y:Nat):Nat:=if y=0 then 0 else(z0C y).length
theorem zAo{y:Nat}(h:0<y):z4v y=z4v (y / 128)+1:=by
 unfold z4v;rw [yA (by omega)];by_cases hy:y<128
 .rw [z2q hy,yB (by omega)];rfl
 .rw [z4u hy,yA (by omega)];rfl
theorem z9i(x:Nat):1+z4v (x / 128)=(z0C x).length:=by
 unfold z4v;by_cases hx:x<128
 .rw [z2q hx,yB (by omega)];rfl
 .rw [z4u hx,yA (by omega),y8];omega
def z7o:Nat->Nat->List UInt8->Except Nat (Nat×Nat)
 |_,_,[]=> .error 10
 |i,v,b::r=>
  if(i=9/\1<b.toNat)∨(0<i/\b.toNat=0)then .error 12
  else if b.toNat<128 then .ok (v+b.toNat*128 ^ i,i+1)
  else z7o (i+1) (v+(b.toNat%128)*128 ^ i) r
def z0o(l:List UInt8):Except Nat (Nat×Nat):=z7o 0 0 l
theorem z8J:∀ (l:List UInt8) (i v:Nat),i<=9->v<128 ^ i->∀x n,z7o i v l= .ok (x,n)->x<U64/\i<n/\n<=i+l.length
 | [],_,_,_,_,_,_,h=>by simp [z7o]at h
 |b::r,i,v,hi,hv,x,n,h=>by
  rw [z7o]at h
  split at h
  .cases h
  .rename_i hc
   split at h
   .rename_i hb;simp only [Except.ok.injEq,Ze]at h;obtain⟨rfl,rfl⟩:=h;refine⟨?_,by omega,by simp⟩;by_cases h9:i=9
    .subst h9;have:b.toNat<=1:=by omega
     have h1:b.toNat*128 ^ 9<=1*128 ^ 9:=YP _ this;unfold U64;omega
    .have h1:b.toNat*128 ^ i<=127*128 ^ i:=YP _ (by omega);have h2:128 ^ i<=128 ^ 8:=Zm (by omega) (by omega);unfold U64;omega
   .rename_i hb;by_cases h9:i=9
    .subst h9;omega
    .have h1:(b.toNat%128)*128 ^ i<=127*128 ^ i:=YP _ (by omega);have:=z8J r (i+1) (v+(b.toNat%128)*128 ^ i) (by omega) (by rw [Z3];omega) x n h;simp;omega
theorem z2R{l:List UInt8}{x n:Nat}(h:z0o l= .ok (x,n)):x<U64/\0<n/\n<=l.length:=by
 have:=z8J l 0 0 (by omega) (by simp) x n h;omega
theorem zJ1(a x i:Nat)(ha:a<128 ^ i)(hx:x*128 ^ i<U64)(ha':a<U64):bits .or .u64 (a:Int) (IntKind.u64.wrap ((x:Int)*2 ^ (7*i)))=((a+x*128 ^ i:Nat):Int):=by
 have e:(2:Nat) ^ (7*i)=128 ^ i:=by rw [Nat.pow_mul]
 have e1:((x:Int)*2 ^ (7*i))=((x*128 ^ i:Nat):Int):=by
  rw [Int.natCast_mul,<-e,Ql];rfl
 have e2:IntKind.u64.wrap ((x:Int)*2 ^ (7*i))=((x*128 ^ i:Nat):Int):=by
  rw [e1];unfold U64 at hx;simp only [IntKind.wrap,IntKind.bits,IntKind.signed];generalize x*128 ^ i=q at*;simp;omega
 rw [e2];unfold U64 at hx ha';rw [u64_or_nat _ _ ha' hx,Nat.or_comm,nat_join (7*i) (x*128 ^ i) a (by rw [e];exact Nat.mul_mod_left _ _) (by rw [e];exact ha),Qj]
theorem and127(x:Nat)(hx:x<256):bits .and .u8 (x:Int) 127=((x%128:Nat):Int):=by
 have h:=u8_and_nat x 127 hx (by omega);rw [nat_mask7]at h;exact h
theorem zAE:∀ (k x:Nat) (s:List UInt8) (i v:Nat),x<128 ^ (k+1)->i+k<=9->(i+k=9->x<128 ^ k*2)->(0<i->0<x)->
 z7o i v (z0C x++s)= .ok (v+x*128 ^ i,i+(z0C x).length)
 |0,x,s,i,v,hx,hi,h9,h0=>by
  have hx':x<128:=by simpa using hx
  rw [z2q hx'];have hb:(UInt8.ofNat x).toNat=x:=by simp;omega
  simp only [Y8,yz,z7o,hb,Y7]
  rw [yA (by intro hh;rcases hh with⟨h1,h2⟩|⟨h1,h2⟩
             .have:=h9 (by omega);simp at this;omega
             .have:=h0 h1;omega),yB hx']
 |k+1,x,s,i,v,hx,hi,h9,h0=>by
  by_cases hx':x<128
  .rw [z2q hx'];have hb:(UInt8.ofNat x).toNat=x:=by simp;omega
   simp only [Y8,yz,z7o,hb,Y7];rw [yA (by omega),yB hx']
  .rw [z4u hx'];have hb:(UInt8.ofNat (x%128+128)).toNat=x%128+128:=by simp;omega
   simp only [Y8,z7o,hb,y8];rw [yA (by omega),yA (by omega)];have e:(x%128+128)%128=x%128:=by omega
   rw [e];have hd:x / 128<128 ^ (k+1):=by rw [Z3]at hx;exact ZH (by omega)
   rw [zAE k (x / 128) s (i+1) _ hd (by omega) (fun h=>by
    have:=h9 (by omega);rw [Z3]at this;exact ZH (by omega)) (fun _=>by omega)]
   have e2:x%128*128 ^ i+x / 128*128 ^ (i+1)=x*128 ^ i:=by
    rw [Z3,QS (128 ^ i) 128,<-Nat.mul_assoc,<-QK]
    congr 1
    omega
   congr 2
   .omega
   .omega
theorem z42{x:Nat}(hx:x<U64)(s:List UInt8):z0o (z0C x++s)= .ok (x,(z0C x).length):=by
 have h:=zAE 9 x s 0 0 (yE hx (by unfold U64;decide)) (by omega) (fun _=>yE hx (by unfold U64;decide)) (fun h=>by omega);unfold z0o;rw [h];simp
def beB(v n:Nat):List UInt8:=(List.range n).map fun k=>UInt8.ofNat (v / 256 ^ (n-1-k))
theorem z18(v n:Nat):(beB v n).length=n:=by simp [beB]
theorem zCC(v n:Nat):beB v (n+1)=beB (v / 256) n++ [UInt8.ofNat v]:=by
 unfold beB;rw [Zb,Y6]
 congr 1
 .apply List.map_congr_left;intro k hk;have hk:=yt.1 hk;rw [show n+1-1-k=(n-1-k)+1 from by omega,Z3,QS,Nat.div_div_eq_div_mul]
 .simp
def deB(l:List UInt8):Nat:=l.foldl (fun v b=>v*256+b.toNat) 0
theorem zEp(l:List UInt8):∀v,l.foldl (fun v b=>v*256+b.toNat) v=v*256 ^ l.length+deB l:=by
 unfold deB
 induction l with
 |nil=>intro v;simp
 |cons b r ih=>
  intro v;rw [Qm,ih,Qm,ih (0*256+b.toNat),y8,Z3,QK,Nat.mul_assoc,QS 256 (256 ^ r.length),ZY,Y4,Z4]
theorem z92(l:List UInt8)(b:UInt8):deB (l++ [b])=deB l*256+b.toNat:=by simp [deB]
theorem z91(l:List UInt8)(b:UInt8):deB (b::l)=b.toNat*256 ^ l.length+deB l:=by
 have:=zEp l (0*256+b.toNat);unfold deB at*;rw [Qm,this];simp
theorem zEq(l:List UInt8):deB l<256 ^ l.length:=by
 induction l with
 |nil=>simp [deB]
 |cons b r ih=>
  rw [z91,y8,Z3];have hb:b.toNat<256:=b.toNat_lt;have:b.toNat*256 ^ r.length<=255*256 ^ r.length:=YP _ (by omega);omega
theorem z6o:∀ (n v:Nat),v<256 ^ n->deB (beB v n)=v
 |0,v,h=>by simp [beB,deB];simp at h;omega
 |n+1,v,h=>by
  rw [zCC,z92,z6o n (v / 256) (by rw [Z3]at h;exact ZH (by omega))];simp;omega
theorem zJE(l:List UInt8):beB (deB l) l.length=l:=by
 obtain⟨n,hn⟩:∃n,n=l.length:=⟨_,rfl⟩
 induction n generalizing l with
 |zero=>
  obtain rfl:=yX hn.symm;rfl
 |succ n ih=>
  obtain⟨r,b,rfl⟩:∃r b,l=r++ [b]:=⟨l.dropLast,l.getLast (by intro h;subst h;simp at hn),(Zc _).symm⟩;have hr:n=r.length:=by simpa using hn
  rw [y6,Y7,zCC,z92];have hb:b.toNat<256:=b.toNat_lt;rw [show(deB r*256+b.toNat) / 256=deB r from by omega,ih r hr]
  congr 2
  apply Yt.1;simp
theorem zK4(a x i:Nat)(ha:a<256 ^ i)(hi:i<8)(hx:x<256):bits .or .u64 (IntKind.u64.wrap ((a:Int)*256)) (x:Int)=((a*256+x:Nat):Int):=by
 have h1:a*256<U64:=by
  have h2:256 ^ i<=256 ^ 7:=Zm (by omega) (by omega);unfold U64;omega
 have e:IntKind.u64.wrap ((a:Int)*256)=((a*256:Nat):Int):=by
  unfold U64 at h1;simp only [IntKind.wrap,IntKind.bits,IntKind.signed];simp;omega
 rw [e];unfold U64 at h1;rw [u64_or_nat _ _ h1 (by omega),nat_join 8 (a*256) x (Nat.mul_mod_left _ _) (by simpa using hx)]
theorem z93{l:List UInt8}{i:Nat}(h:i<l.length):deB (l.take (i+1))=deB (l.take i)*256+l[i].toNat:=by
 rw [yO h,z92]
theorem z4o(l:List UInt8)(i:Nat):deB (l.take i)<256 ^ i:=
 yE (zEq _) (Zm (by omega) (by simp;omega))
def z1P:List UInt8->List UInt8->Int
 | [],[]=>0
 | [],_::_=> -1
 |_::_,[]=>1
 |a::l,b::m=>if a.toNat<b.toNat then-1 else if b.toNat<a.toNat then 1 else z1P l m
theorem zCH:∀l m,z1P l m= -1∨z1P l m=0∨z1P l m=1
 | [],[]=>by simp [z1P]
 | [],_::_=>by simp [z1P]
 |_::_,[]=>by simp [z1P]
 |a::l,b::m=>by
  unfold z1P
  split
  .simp
  .split
   .simp
   .exact zCH l m
theorem z6n:∀l,z1P l l=0
 | []=>rfl
 |a::l=>by simp [z1P,z6n l]
theorem zA0:∀l m,z1P m l= -z1P l m
 | [],[]=>by simp [z1P]
 | [],_::_=>by simp [z1P]
 |_::_,[]=>by simp [z1P]
 |a::l,b::m=>by
  unfold z1P;by_cases h:a.toNat<b.toNat
  .simp [h,Nat.lt_asymm h]
  .by_cases h2:b.toNat<a.toNat
   .simp [h,h2]
   .simp [h,h2,zA0 l m]
theorem zEf:∀l m,z1P l m=0->l=m
 | [],[],_=>rfl
 | [],_::_,h=>by simp [z1P]at h
 |_::_,[],h=>by simp [z1P]at h
 |a::l,b::m,h=>by
  unfold z1P at h
  split at h
  .simp at h
  .split at h
   .simp at h
   .rw [zEf l m h,Yt.1 (by omega:a.toNat=b.toNat)]
theorem zCG:∀c l m,z1P (c++l) (c++m)=z1P l m
 | [],_,_=>rfl
 |a::c,l,m=>by simp [z1P,zCG c l m]
theorem z1B:∀l m,Op.bytesLess l m=decide (z1P l m<0)
 | [],[]=>by simp [z1P,Op.bytesLess]
 | [],_::_=>by simp [z1P,Op.bytesLess]
 |_::_,[]=>by simp [z1P,Op.bytesLess]
 |a::l,b::m=>by
  unfold Op.bytesLess z1P;by_cases h:a.toNat<b.toNat
  .have:a<b:=h;simp [this,h]
  .have h':¬a<b:=h;by_cases h2:b.toNat<a.toNat
   .have h3:¬a=b:=by rintro rfl;omega
    simp [h,h',h2,h3]
   .obtain rfl:a=b:=Yt.1 (by omega);simp [h,z1B l m]
theorem zCF:∀l m:List UInt8,l.length=m.length->z1P l m=(if deB l<deB m then-1 else if deB m<deB l then 1 else 0)
 | [],[],_=>by simp [z1P,deB]
 | [],_::_,h=>by simp at h
 |_::_,[],h=>by simp at h
 |a::l,b::m,h=>by
  have h':l.length=m.length:=by simpa using h
  have hl:=zEq l;have hm:=zEq m;rw [z91,z91,h'];rw [h']at hl;unfold z1P;by_cases h1:a.toNat<b.toNat
  .have:(a.toNat+1)*256 ^ m.length<=b.toNat*256 ^ m.length:=YP _ h1;rw [QK]at this;rw [yB h1,yB (by omega)]
  .rw [yA h1];by_cases h2:b.toNat<a.toNat
   .have:(b.toNat+1)*256 ^ m.length<=a.toNat*256 ^ m.length:=YP _ h2;rw [QK]at this;rw [yB h2,yA (by omega),yB (by omega)]
   .rw [yA h2,zCF l m h',show a.toNat=b.toNat from by omega];by_cases h3:deB l<deB m
    .simp [h3]
    .by_cases h4:deB m<deB l
     .simp [h3,h4]
     .simp [h3,h4]
def z2K(l:List UInt8):List UInt8:=l.flatMap fun b=>if b=0 then [0,255]else [b]
theorem z2g(b:UInt8)(l:List UInt8):z2K (b::l)=(if b=0 then [0,255]else [b])++z2K l:=rfl
theorem z70(l m:List UInt8):z2K (l++m)=z2K l++z2K m:=by simp [z2K]
theorem zDU(l:List UInt8):z2K (l++ [0])=z2K l++ [0,255]:=by rw [z70];rfl
theorem zFF(l:List UInt8){b:UInt8}(h:b≠0):z2K (l++ [b])=z2K l++ [b]:=by rw [z70,z2g,yA h];rfl
theorem z9E(l:List UInt8):l.length<=(z2K l).length/\(z2K l).length<=2*l.length:=by
 induction l with
 |nil=>simp [z2K]
 |cons b l ih=>
  rw [z2g];by_cases h:b=0
  .rw [yB h];simp;omega
  .rw [yA h];simp;omega
def z2G:List UInt8->Option (List UInt8)
 | []=>some []
 | [b]=>if b=0 then none else some [b]
 |b::c::r=>if b=0 then(if c=255 then(z2G r).map (0:: ·)else none)else(z2G (c::r)).map (b:: ·)
theorem z7f:z2G []=some []:=by rw [z2G]
theorem z5n(c:UInt8)(r:List UInt8):z2G (0::c::r)=if c=255 then(z2G r).map (0:: ·)else none:=by rw [z2G,yB rfl]
theorem zBr:z2G [0]=none:=by rw [z2G,yB rfl]
theorem z8l{b:UInt8}(h:b≠0)(r:List UInt8):z2G (b::r)=(z2G r).map (b:: ·):=by
 cases r with
 |nil=>rw [z7f];simp [z2G,h]
 |cons c r=>rw [z2G,yA h]
theorem z5m:∀l,z2G (z2K l)=some l
 | []=>z7f
 |b::l=>by
  rw [z2g];by_cases h:b=0
  .subst h;rw [yB rfl];show z2G (0::255::z2K l)=_;rw [z5n,yB rfl,z5m l];rfl
  .rw [yA h];show z2G (b::z2K l)=_;rw [z8l h,z5m l];rfl
def z1b(k:List UInt8)(t:Nat):List UInt8:=z2K k++ [0,1]++beB (18446744073709551615-t) 8
def z3L(s:List UInt8):Option (List UInt8×Nat):=
 if s.length<10 then none else if(s.drop (s.length-10)).take 2= [0,1]then
  match z2G (s.take (s.length-10))with
  |some k=>if k.length<=64 then some (k,deB (s.drop (s.length-8)))else none
  |none=>none
 else none
theorem zDX(k:List UInt8)(t:Nat)(hk:k.length<=64)(ht:t<U64):z3L (z1b k t)=some (k,18446744073709551615-t):=by
 have hl:(z1b k t).length=(z2K k).length+10:=by simp [z1b,z18]
 have e1:(z1b k t).drop (z2K k).length= [0,1]++beB (18446744073709551615-t) 8:=by
  unfold z1b;rw [yM,QT]
 have e2:(z1b k t).take (z2K k).length=z2K k:=by
  unfold z1b;rw [yM,List.take_left]
 have e3:(z1b k t).drop ((z2K k).length+2)=beB (18446744073709551615-t) 8:=by
  rw [<-QU,e1];rfl
 unfold z3L;rw [yA (by omega),hl,YS,e1,e2,show(z2K k).length+10-8=(z2K k).length+2 by omega,e3,yB (show List.take 2 ([0,1]++beB (18446744073709551615-t) 8)= [0,1]from rfl),z5m];simp only;rw [yB hk,z6o 8 _ (by unfold U64 at ht;omega)]
theorem z12(x y:UInt8)(l m:List UInt8):z1P (x::l) (y::m)=if x.toNat<y.toNat then-1 else if y.toNat<x.toNat then 1 else z1P l m:=by rw [z1P]
theorem z1m(x:UInt8)(l m:List UInt8):z1P (x::l) (x::m)=z1P l m:=by rw [z12,yA (by omega),yA (by omega)]
theorem z5M{x:UInt8}(h:x≠0):0<x.toNat:=by
 rcases Y3 x.toNat with h0|h0
 .exact absurd (Yt.1 h0) h
 .exact h0
theorem zFG:∀ (a b u v:List UInt8),z1P (z2K a++0::1::u) (z2K b++0::1::v)=if a=b then z1P u v else z1P a b
 | [],[],u,v=>by
   rw [yB rfl];show z1P (0::1::u) (0::1::v)=_;rw [z1m,z1m]
 | [],y::b,u,v=>by
   rw [yA (by simp),z2g,show z1P [] (y::b)= -1 from by rw [z1P]];by_cases hy:y=0
   .subst hy;rw [yB rfl];show z1P (0::1::u) (0::255::(z2K b++0::1::v))=_;rw [z1m,z12,yB (by decide)]
   .rw [yA hy];show z1P (0::1::u) (y::(z2K b++0::1::v))=_;have:=z5M hy;rw [z12,yB (by simpa using this)]
 |x::a,[],u,v=>by
  rw [yA (by simp),z2g,show z1P (x::a) []=1 from by rw [z1P]];by_cases hx:x=0
  .subst hx;rw [yB rfl];show z1P (0::255::(z2K a++0::1::u)) (0::1::v)=_;rw [z1m,z12,yA (by decide),yB (by decide)]
  .rw [yA hx];show z1P (x::(z2K a++0::1::u)) (0::1::v)=_;have:=z5M hx;rw [z12,yA (by simp),yB (by simpa using this)]
 |x::a,y::b,u,v=>by
  have ih:=zFG a b u v;rw [z2g,z2g];by_cases hxy:x=y
  .subst hxy;have e:(x::a=x::b)↔a=b:=by simp
   rw [z1m x a b];by_cases hx:x=0
   .subst hx;rw [yB rfl];show z1P (0::255::(z2K a++0::1::u)) (0::255::(z2K b++0::1::v))=_;rw [z1m,z1m,ih];simp only [e]
   .rw [yA hx];show z1P (x::(z2K a++0::1::u)) (x::(z2K b++0::1::v))=_;rw [z1m,ih];simp only [e]
  .rw [yA (show ¬ (x::a=y::b)from by simp [hxy]),z12 x y a b];have hne:x.toNat≠y.toNat:=fun h=>hxy (Yt.1 h)
   by_cases hx:x=0
   .subst hx;have hy:y≠0:=fun h=>hxy h.symm
    have:=z5M hy;rw [yB rfl,yA hy,yB (by simpa using this)];show z1P (0::255::(z2K a++0::1::u)) (y::(z2K b++0::1::v))=_;rw [z12,yB (by simpa using this)]
   .have hx0:=z5M hx;rw [yA hx];by_cases hy:y=0
    .subst hy;rw [yB rfl,yA (by simp),yB (by simpa using hx0)];show z1P (x::(z2K a++0::1::u)) (0::255::(z2K b++0::1::v))=_;rw [z12,yA (by simp),yB (by simpa using hx0)]
    .rw [yA hy];show z1P (x::(z2K a++0::1::u)) (y::(z2K b++0::1::v))=_;rw [z12];by_cases h1:x.toNat<y.toNat
     .rw [yB h1,yB h1]
     .rw [yA h1,yA h1,yB (by omega),yB (by omega)]
theorem zHC(p q:Nat)(hp:p<U64)(hq:q<U64):z1P (beB p 8) (beB q 8)=if p<q then-1 else if q<p then 1 else 0:=by
 have h8:(256:Nat) ^ 8=U64:=by unfold U64;decide
 rw [zCF _ _ (by rw [z18,z18]),z6o 8 p (by rw [h8];exact hp),z6o 8 q (by rw [h8];exact hq)]
theorem zAF(l:List UInt8)(t:Nat):z1b l t=z2K l++0::1::beB (18446744073709551615-t) 8:=by simp [z1b]
theorem zDY(a b:List UInt8)(x y:Nat)(hx:x<U64)(hy:y<U64):z1P (z1b a x) (z1b b y)=if a=b then(if y<x then-1 else if x<y then 1 else 0)else z1P a b:=by
 rw [zAF,zAF,zFG,zHC _ _ (by unfold U64;omega) (by unfold U64;omega)];unfold U64 at hx hy;by_cases h:a=b
 .rw [yB h,yB h];by_cases h1:y<x
  .rw [yB h1,yB (by omega)]
  .rw [yA h1,yA (by omega)];by_cases h2:x<y
   .rw [yB h2,yB (by omega)]
   .rw [yA h2,yA (by omega)]
 .rw [yA h,yA h]
theorem zCW(l:List UInt8):Op.bytesLess l l=false:=by rw [z1B,z6n];rfl
theorem z74(x y:UInt8)(l m:List UInt8):Op.bytesLess (x::l) (y::m)=if x.toNat<y.toNat then true else if y.toNat<x.toNat then false else Op.bytesLess l m:=by
 rw [z1B,z1B,z12]
 split
 .rfl
 .split<;>rfl
theorem zCX(l:List UInt8):Op.bytesLess l []=false:=by
 rw [z1B];cases l<;>rw [z1P]<;>rfl
theorem z9G(y:UInt8)(m:List UInt8):Op.bytesLess [] (y::m)=true:=by rw [z1B,z1P];rfl
theorem zHc(c l m:List UInt8):Op.bytesLess (c++l) (c++m)=Op.bytesLess l m:=by rw [z1B,z1B,zCG]
theorem zFM(l:List UInt8):Op.bytesLess l (l++ [0])=true:=by
 have:=zHc l [] [0];rw [yf]at this;rw [this,z9G]
theorem zAK:∀ (l m:List UInt8),Op.bytesLess l m=true->Op.bytesLess m (l++ [0])=false
 |l,[],h=>by rw [zCX]at h;cases h
 | [],y::m,_=>by
   show Op.bytesLess (y::m) [0]=false;rw [z74,yA (by simp),zCX]
   split<;>rfl
 |x::l,y::m,h=>by
  rw [z74]at h;show Op.bytesLess (y::m) (x::(l++ [0]))=false;rw [z74];by_cases h1:x.toNat<y.toNat
  .rw [yA (by omega),yB h1]
  .rw [yA h1]at h;by_cases h2:y.toNat<x.toNat
   .rw [yB h2]at h;cases h
   .rw [yA h2]at h;rw [yA h2,yA h1];exact zAK l m h
theorem z0p:Elem prog 78 5 (.int .u8 0) 1 1:=Elem.mk' underlying78 (by kernel_rfl) rfl (by omega)
theorem zz{p:Prop}(h:p):RowKit.Hid p:=Lib.hid h
theorem z8a(S:Nat->Prop)(v0:Value)(l:List UInt8)(x:Nat)(w:World)(hx:x<U64)(hl:(l++z0C x).length<=1099511627776)(hb:Bs S w v0 l):
 Calls prog 101 #[v0,.int .u64 x] w fun e w'=>∃A k c,e= .returned (.slice A k c)/\Ob 5 w' w.heap.size (.slice A k c) (l++z0C x)/\Below w.heap.size w w':=by
 have HB:=zz hb;have hvl:=z1u x;have hlx:l.length<=1099511627776:=by simp at hl;omega
 obtain⟨A,c,rfl,hlc,hcm,hA0,hA⟩:=hb.at;clear hA hA0 hb;go_enter func101,ntmps101
 go_wp2_with (at_builtin;go_loud (refine z02 _ rfl (.tmp 6) (.tmp 7) z0p rfl (Ob.made _ _ _ (y5 _) (by simp)) (Sl.alloc1 HB.out _) rfl rfl (by simp;omega) (by simp) ?_);intro A1 k1 c1 w1 hown1 hg1 hat1)
 have hbl1:Below w.heap.size w w1:=z01 ((y7 _ _).alloc (y5 _) _) (Ob.made _ _ _ (y5 _) (by simp)) hg1 (by simp);clear hg1 hat1 HB;go_loopw [1,5] (fun xv out wr=>∃y d A k c,xv= .int .u64 ((y:Nat):Int)/\out= .slice A k c/\y<U64/\d++z0C y=l++z0C x/\Ob 5 wr w.heap.size out d/\Below w.heap.size w wr) (fun xv _ _=>(intOf xv).toNat)
 case atStart=>exact⟨x,l,_,_,_,rfl,rfl,hx,rfl,hown1,hbl1⟩
 case round=>
  obtain⟨y,d,A,k,c,rfl,rfl,hy,hd,hown,hbl⟩:=hrel;have hsz:=hbl.size;have hvy:=z1u y;have hdl:d.length<(l++z0C x).length:=by rw [<-hd];simp;omega
  have HD:=zz hd;clear hd;by_cases h:y<128
  .go_wp2_with (at_builtin;go_loud (refine z02 _ rfl (.tmp 19) (.tmp 22) z0p rfl (hown.alloc _) (Bs.one _ _ _ (by omega) (by omega) (by simp)) rfl rfl (by simp;omega) (by simp;omega) ?_);intro A2 k2 c2 w2 hown2 hg2 hat2)
   go_ret
   refine⟨A2,k2,c2,rfl,?_,z01 (hbl.alloc hsz _) (hown.alloc _) hg2 (by simp;omega)⟩;rw [<-HD.out,z2q h];exact hown2
  .have hor:=zDI y;go_wp2_with (at_builtin;go_loud (refine z02 _ rfl (.tmp 13) (.tmp 17) z0p rfl (hown.alloc _) (Bs.one _ _ _ (by omega) (by omega) (by simp)) rfl rfl (by simp;omega) (by simp;omega) ?_);intro A2 k2 c2 w2 hown2 hg2 hat2)
   go_roundw
   case rel=>exact⟨y / 128,d++ [UInt8.ofNat (y%128+128)],_,_,_,by go_num,rfl,by omega,by rw [<-HD.out,z4u h];simp,by rw [show((y:Int)%128+128).toNat=y%128+128 from by omega]at hown2;exact hown2,z01 (hbl.alloc hsz _) (hown.alloc _) hg2 (by simp;omega)⟩
   case measure=>simp [intOf];omega
theorem z9d(x:Nat)(w:World)(hx:x<U64):
 Calls prog 188 #[.int .u64 x] w fun e w'=>e= .returned (.int .i64 (z0C x).length)/\w=w':=by
 have hf:=z9i x;have h10:=z09 hx;have HF:=zz hf;go_enter func188,ntmps188
 clear hf;go_wp2_with fail
 go_loop [0,3] (fun xv n=>∃y k,xv= .int .u64 ((y:Nat):Int)/\n= .int .i64 ((k:Nat):Int)/\y<U64/\k+z4v y=(z0C x).length) (fun xv _=>(intOf xv).toNat)
 case atStart=>exact⟨x / 128,1,by go_num,rfl,by omega,HF.out⟩
 case round=>
  obtain⟨y,k,rfl,rfl,hy,hkl⟩:=hrel;have hk:k<=10:=by omega
  have HK:=zz hkl;clear hkl;by_cases h:0<y
  .go_wp2
   go_round
   case rel=>exact⟨y / 128,k+1,by go_num,by go_num,by omega,by have:=HK.out;rw [zAo h]at this;omega⟩
   case measure=>simp [intOf];omega
  .go_wp2
   go_ret
   obtain rfl:y=0:=by omega
   have:=HK.out;simp only [z4v,yB]at this;rw [<-this];exact⟨rfl,rfl⟩
def BitsOk(w:World):Prop:=∀i,i<9->w.cell? ⟨0,i,none⟩=some (.int .u64 ((8*i:Nat):Int))
theorem BitsOk.pos{w:World}(h:BitsOk w):0<w.heap.size:=Yc w _ (h 0 (by omega))
theorem BitsOk.below{w w':World}{B:Nat}(h:BitsOk w)(hb:Below B w w')(hB:0<B):BitsOk w':=fun i hi=>(hb.cell (p:=⟨0,i,none⟩) hB).trans (h i hi)
theorem BitsOk.later{w w':World}(h:BitsOk w)(hb:Below w.heap.size w w'):BitsOk w':=h.below hb h.pos
theorem z8t(x sh:Nat):UInt8.ofNat ((x:Int) / 2 ^ sh%256).toNat=UInt8.ofNat (x / 2 ^ sh):=by
 have e:((x:Int) / 2 ^ sh%256)=((x / 2 ^ sh%256:Nat):Int):=by rw [Int.natCast_emod,Int.natCast_ediv,Ql];rfl
 rw [e,Yb];apply Yt.1;simp
theorem zHs(B bo bv x sh:Nat)(s:Int)(hs:s=(sh:Int))(A:Option Addr)(k c:Nat)(l:List UInt8)(w:World)(ho:Blk w bo 78 #[.slice A k c])(hv:Blk w bv 27 #[.int .u64 x])(hown:Ob 5 w B (.slice A k c) l)(hB:B<=w.heap.size)(hl:l.length<=2199023255552)(hx:x<U64)(hsh:sh<64)(hBo:B<=bo):
 Calls prog 156 #[.int .u64 s,.pointer (some ⟨bo,0,none⟩),.pointer (some ⟨bv,0,none⟩)] w fun e w'=>e= .returned (.tuple #[])/\∃A' k' c',Blk w' bo 78 #[.slice A' k' c']/\Blk w' bv 27 #[.int .u64 x]/\Ob 5 w' B (.slice A' k' c') (l++ [UInt8.ofNat (x / 2 ^ sh)])/\Below B w w':=by
 subst hs;have c0:=ho.cell 0;have c1:=hv.cell 0;simp at c0 c1;go_enter func156,ntmps156
 go_wp2_with (at_builtin;go_loud (refine z02 _ rfl (.tmp 4) (.tmp 9) z0p rfl (hown.alloc _) (Bs.one _ _ _ (by omega) (by omega) (by simp)) rfl rfl (by simp;omega) (by simp;omega) ?_);intro A2 k2 c2 w2 hown2 hg2 hat2;have ho2:=(ho.alloc _).kept (hown.alloc _) hg2 (by decide);have hv2:=(hv.alloc _).kept (hown.alloc _) hg2 (by decide);have d0:=ho2.cell 0;simp at d0;have d1:=ho2.free 0)
 go_end0
 rw [z8t]at hown2;exact⟨rfl,A2,k2,c2,ho2.put1 _,hv2.far (p:=⟨bo,0,none⟩) (Blk.ne hv2 ho2 (by decide)) _,z3g hown2 ho2 (by decide) 0 _,(z01 ((y7 _ _).alloc hB _) (hown.alloc _) hg2 (by simp;omega)).setCell hBo _⟩
theorem zE5(x sh:Nat):(((x:Int) / 2 ^ sh) != 0)= !decide (x / 2 ^ sh=0):=by
 have e:((x:Int) / 2 ^ sh)=((x / 2 ^ sh:Nat):Int):=by rw [Int.natCast_ediv,Ql];rfl
 rw [e,bne,Zd];simp only [Zi,yV,yj,ne_eq];omega
theorem z8r(x n k:Nat)(hk:k<n):(beB x n).take (k+1)=(beB x n).take k++ [UInt8.ofNat (x / 2 ^ (8*(n-1-k)))]:=by
 rw [yO (by rw [z18];exact hk)]
 congr 2
 simp only [beB,Z5,ZZ];rw [show(256:Nat)=2 ^ 8 from rfl,<-Nat.pow_mul]
theorem zFs(S:Nat->Prop)(v0:Value)(l:List UInt8)(x n:Nat)(w:World)(hn:1<=n)(hn8:n<=8)(hx:x<U64)(hv:n<8->x / 2 ^ (8*n)=0)(hb:BitsOk w)(hl:l.length<=1099511627776)(hr:Bs S w v0 l):
 Calls prog 119 #[v0,.int .u64 x,.int .i64 n] w fun e w'=>∃A k c,e= .returned (.tuple #[.slice A k c,.int .i64 0])/\Ob 5 w' w.heap.size (.slice A k c) (l++beB x n)/\Below w.heap.size w w':=by
 have h1:decide ((n:Int)<1)=false:=by simp;omega
 have h2:decide (8<(n:Int))=false:=by simp;omega
 have hmf:=z0N prog;have hp:=hb.pos;have hc:n<8->w.cell? ⟨0,n,none⟩=some (.int .u64 (8*(n:Int))):=fun h=>(hb n (by omega)).trans (by simp)
 obtain⟨A,c,rfl,hlc,hcm,hA0,hA⟩:=hr.at;have HR:=zz hr;have HB:=zz hb;clear hA hA0 hr hb;by_cases h8:n<8
 case' pos=>
  have h3:decide ((n:Int)<8)=true:=by simp;omega
  have h4:(((x:Int) / 2 ^ (8*n)) != 0)=false:=by rw [zE5];simp [hv h8]
  have hc:=hc h8;clear hv;go_enter func119,ntmps119
  go_wp2_with fail
  go_quiet (fail)
 case' neg=>
  have h3:decide ((n:Int)<8)=false:=by simp;omega
  clear hc hv;go_enter func119,ntmps119
  go_wp2_with fail
  go_quiet (fail)
 all_goals
  go_wp2_with (at_builtin;go_loud (refine z02 _ rfl (.tmp 29) (.tmp 30) z0p rfl (Ob.made _ _ w.heap.size (by simp) (by simp)) (Sl.alloc1 (Sl.drewN (Sl.alloc1 HR.out _) _) _) rfl rfl (by simp;omega) (by simp;omega) ?_);intro A1 k1 c1 w1 hown1 hg1 hat1)
  have hbl1:Below w.heap.size w w1:=z01 ((below_drewN ((y7 _ _).alloc (y5 _) _) _).alloc (by simp) _) (Ob.made _ _ w.heap.size (by simp) (by simp)) hg1 (by simp;omega);have hs1:=hbl1.size;have hv1:Blk w1 w.heap.size 27 #[.int .u64 x]:=(((Blk.new w _ _).drewN _).alloc _).kept (Ob.made _ _ w.heap.size (by simp) (by simp)) hg1 (by decide);have hw1:=hv1.lt;have R0:Blk (w1.alloc (.cells #[.slice A1 k1 c1] 78)) w1.heap.size 78 #[.slice A1 k1 c1]/\Blk (w1.alloc (.cells #[.slice A1 k1 c1] 78)) w.heap.size 27 #[.int .u64 x]/\
   Ob 5 (w1.alloc (.cells #[.slice A1 k1 c1] 78)) w.heap.size (.slice A1 k1 c1) (l++(beB x n).take 0)/\Below w.heap.size w (w1.alloc (.cells #[.slice A1 k1 c1] 78)):=
   ⟨Blk.new _ _ _,hv1.alloc _,by simpa using Ob.alloc hown1 _,hbl1.alloc hs1 _⟩
  clear hown1 hg1 hat1 hv1 hbl1;go_loopw [34] (fun iv wr=>∃ (i:Nat) (A':Option Addr) (k' c':Nat),iv= .int .i64 (i:Int)/\i<=n/\Blk wr w1.heap.size 78 #[.slice A' k' c']/\Blk wr w.heap.size 27 #[.int .u64 x]/\Ob 5 wr w.heap.size (.slice A' k' c') (l++(beB x n).take i)/\Below w.heap.size w wr) (fun iv _=>n-(intOf iv).toNat)
  case atStart=>exact⟨0,A1,k1,c1,rfl,by omega,R0⟩
  case round=>
   obtain⟨i,A',k',c',rfl,hi,hbo,hbv,hown,hbl⟩:=hrel;clear R0;by_cases hin:i<n
   .have hcr:wr.cell? ⟨0,n-1-i,none⟩=some (.int .u64 (((8*(n-1-i):Nat)):Int)):=(HB.out.below hbl hp) _ (by omega);have hsz:=hbl.size;have HK:=zz (z8r x n i hin);go_wp2_with fail
    refine(zHs w.heap.size w1.heap.size w.heap.size x (8*(n-1-i)) _ (by simp) A' k' c' _ wr hbo hbv hown hsz (by simp [z18];omega) hx (by omega) hs1).mono ?_;rintro e w3 ⟨rfl,A3,k3,c3,hbo3,hbv3,hown3,hbl3⟩;go_wp2
    go_roundw
    case rel=>exact⟨i+1,A3,k3,c3,by go_num,by omega,hbo3,hbv3,by rw [HK.out,<-yM];exact hown3,hbl.trans hbl3⟩
    case measure=>simp [intOf];omega
   .have c0:=hbo.cell 0;simp at c0;go_wp2
    go_ret2
    obtain rfl:i=n:=by omega
    rw [ya (by rw [z18];omega)]at hown;exact⟨A',k',c',rfl,hown,hbl⟩
def st(l:List UInt8):ByteArray:=⟨l.toArray⟩
theorem zK5(s:ByteArray):st s.data.toList=s:=by cases s;rfl
@[go_sem] theorem z7b (l:List UInt8):(st l).size=l.length:=by simp [st,ByteArray.size]
@[go_sem] theorem st_toList (l:List UInt8):(st l).toList=l:=ByteArray.toList_mk l
@[go_sem] theorem st_append (l m:List UInt8):st l++st m=st (l++m):=by simp [st,ByteArray.mk_append_mk]
@[go_sem] theorem zKP (l:List UInt8) (a b:Nat):(st l).extract a b=st ((l.drop a).take (b-a)):=by
  apply ByteArray.ext;rw [ByteArray.data_extract];simp [st]
@[go_sem] theorem zKQ (l:List UInt8) (i:Nat) (h:i<(st l).size):(st l)[i]'h=l[i]'(by rwa [z7b]at h):=by
  simp [st,ByteArray.getElem_eq_getElem_data]
theorem z1a{n:Int}(h0:0<=n)(h:n<(U64:Int)):IntKind.u64.wrap n=n:=by
 unfold U64 at h;simp only [IntKind.wrap,IntKind.bits,IntKind.signed];simp;omega
theorem Bs.nilv(S:Nat->Prop)(w:World):Bs S w (.slice none 0 0) []:=Sl.nil
theorem Bs.lit(w:World)(e:TypeId)(l:List UInt8)(hl:l.length<=maxLen)(k:Nat×Nat){g:Nat}(hg:g=w.heap.size):Bs (fun b=>b=w.heap.size) (w.alloc (.cells (bv l).toArray e k)) (.slice (some ⟨g,0,none⟩) l.length l.length) l:=by
 subst hg;refine Bs.mk_ (y5 _) hl (fun h=>by cases h) fun _=>⟨_,0,rfl,rfl,fun j hj=> ?_⟩
 obtain⟨lo,hi⟩:=k;rw [Y4,World.cell?_alloc_mark,Zf];exact zJH hj
section
variable {P:Program} {ops:Array Oper} {Q:Exit->Act->World->Prop} {a:Act} {rest:List Oper} {o:Oper}
theorem z5T{w:World}(hw:Region.wanted o (yielded ops a.tmps)=true)
 (h:∀K:Act->World->Prop,(∀a w,wpList P ops Q rest a w->K a w)->o.wp P a w K Q):wpList P ops Q (o::rest) a w:=
 wpList_step fun K hK=>by rw [yB hw];exact h K hK
theorem z1J{S:Nat->Prop}{w:World}{v:Value}{l:List UInt8}(hb:Bs S w v l){src dst e:TypeId}(hs:P.underlying src=some (.slice e))(he:P.underlying e=some (.int .u8))(hd:P.underlying dst=some .string):
 (convert src dst v).run P w= .ok (.string (st l)) w:=by
 obtain⟨A,c,rfl,h3,h4,h5,h6⟩:=hb.at;rcases Y3 l.length with h0|h0
 .obtain rfl:l= []:=yX h0;rcases A with _|ad
  .exact run_convert_bytes_nil w src e hs he _ _ dst hd
  .exact run_convert_bytes_back w src dst e ad c [] hs he hd (fun j hj=>by simp at hj)
 .obtain⟨b,o',rfl,_,hc⟩:=h6 h0;exact run_convert_bytes_back w src dst e ⟨b,o',none⟩ c l hs he hd (fun j hj=>by rw [z0U];exact hc j hj)
theorem z1H(w:World)(hw:Region.wanted o (yielded ops a.tmps)=true)(x:Operand){src dst e:TypeId}(ho:o.op= .convert src dst x)
 (hs:P.underlying src=some (.slice e)) (he:P.underlying e=some (.int .u8)) (hd:P.underlying dst=some .string)
 {S:Nat->Prop} {v:Value} {l:List UInt8} (hb:Bs S w v l) (hx:a.eval x=v) (h:wpList P ops Q rest (a.put o.dst (.string (st l))) w):wpList P ops Q (o::rest) a w:=by
 refine z5T hw fun K hK=> ?_
 have hrun:=z1J (P:=P) hb hs he hd;unfold Oper.wp execOp;simp [ho,hx,hrun,Result.andThen];exact hK _ _ h
theorem Bs.of_string(w:World)(s:List UInt8)(e:TypeId)(cap:Nat)(hc:s.length<=cap)(hm:cap<=maxLen)(k:Nat×Nat):
 Bs (fun b=>b=w.heap.size) (w.alloc (.cells (bytesRow (st s) cap) e k)) (.slice (some ⟨w.heap.size,0,none⟩) s.length cap) s:=by
 refine Bs.mk_ hc hm (fun h=>by cases h) fun _=>⟨_,0,rfl,rfl,fun j hj=> ?_⟩
 rw [Y4];obtain⟨lo,hi⟩:=k;rw [World.cell?_alloc_mark,bytesRow_at (st s) cap j (by simpa [st]using hj)];simp [st]
theorem z1v(w:World)(hw:Region.wanted o (yielded ops a.tmps)=true)(x:Operand){src dst e:TypeId}(ho:o.op= .convert src dst x)
 (hs:P.underlying src=some .string) (hd:P.underlying dst=some (.slice e)) (he:P.underlying e=some (.int .u8))
 {l:List UInt8} (hl:l.length<=maxLen) (hx:a.eval x= .string (st l))
 (h:∀A c w',Bs (fun b=>b=w.heap.size) w' (.slice A l.length c) l->Below w.heap.size w w'->w'.heap.size=w.heap.size+1->wpList P ops Q rest (a.put o.dst (.slice A l.length c)) w'):wpList P ops Q (o::rest) a w:=by
 refine z5T hw fun K hK=> ?_
 have hrun:=run_bytes_of_string (P:=P) w src dst e (st l) hs hd he;unfold Oper.wp execOp;rw [z7b]at hrun;simp [ho,hx,hrun,Result.andThen];refine hK _ _ (h _ _ _ (Bs.of_string w.drew l e _ (grownCap_ge w _ 0 e) (grownCap_le_maxLen w _ 0 e hl) _) ?_ (by simp));exact((y7 _ _).drew.alloc (y5 _) _)
end
theorem Bs.pre{S:Nat->Prop}{w:World}{l:List UInt8}{A:Option Addr}{c:Nat}(h:Bs S w (.slice A l.length c) l){k:Nat}(hk:k<=l.length):Bs S w (.slice A k c) (l.take k):=by
 obtain⟨A',c',hv,h3,h4,h5,h6⟩:=h.at;injection hv with hA _ hc
 subst hA hc;have hl:(l.take k).length=k:=by rw [yC];omega
 have:=Bs.mk_ (S:=S) (w:=w) (l:=l.take k) (A:=A) (c:=c) (by omega) h4 h5 fun hn=>by
  obtain⟨b,o,hA,hS,hcell⟩:=h6 (by omega);refine⟨b,o,hA,hS,fun j hj=> ?_⟩;rw [hcell j (by omega),Qb]
 rwa [hl]at this
theorem tS:Tryz.prog.underlying 9=some .string:=underlying9
theorem tB:Tryz.prog.underlying 78=some (.slice 5):=underlying78
theorem tU:Tryz.prog.underlying 5=some (.int .u8):=underlying5
theorem z0Q{w w':World}(h:Below w.heap.size w w')(row:Option Nat):w.grownBy w' row:=⟨h.os,h.tape,h.output,h.size,fun k hk _=>h.block k hk⟩
theorem z0n(w:World)(g i:Nat)(u:Value):w.grownBy (w.setCell ⟨g,i,none⟩ u) (some g):=
 ⟨rfl,rfl,rfl,by simp,fun k _ hk=>heap_setCell_other w ⟨g,i,none⟩ k u (fun e=>hk (by simp [e]))⟩
theorem z0T{w w':World}{g B:Nat}(h:w.grownBy w' (some g))(hg:B<=g)(hB:B<=w.heap.size):Below B w w':=(y7 _ _).grown h hB (fun k hk=>by cases hk;exact hg)
def Wr(w:World)(g B:Nat)(l:List UInt8):Prop:=∃A k c,Blk w g 189 #[.slice A k c,.int .i64 0]/\Ob 5 w B (.slice A k c) l
theorem Wr.later{w w':World}{g B:Nat}{l:List UInt8}(h:Wr w g B l)(hb:Below w.heap.size w w'):Wr w' g B l:=by
 obtain⟨A,k,c,h1,h2⟩:=h;exact⟨A,k,c,h1.later hb,h2.later hb⟩
theorem Wr.lower{w:World}{g B B':Nat}{l:List UInt8}(h:Wr w g B l)(hB:B'<=B):Wr w g B' l:=by
 obtain⟨A,k,c,h1,h2⟩:=h;exact⟨A,k,c,h1,h2.lower hB⟩
theorem Wr.alloc{w:World}{g B:Nat}{l:List UInt8}(h:Wr w g B l)(o:Obj):Wr (w.alloc o) g B l:=h.later ((y7 _ _).alloc (y5 _) _)
theorem z5U(w:World):
 Calls prog 62 #[] w fun e w'=>e= .returned (.pointer (some ⟨w.heap.size,0,none⟩))/\Wr w' w.heap.size w.heap.size []/\Below w.heap.size w w'/\w'.heap.size=w.heap.size+1:=by
 go_enter func62,ntmps62
 go_wp2_with fail
 go_ret
 exact⟨rfl,⟨none,0,0,Blk.new _ _ _,Ob.nil _ _ _⟩,(y7 _ _).alloc (y5 _) _,by simp⟩
def zIt(xs:List Nat):List Value:=xs.map fun(x:Nat)=> .int .u64 (x:Int)
theorem zJq{xs:List Nat}{j:Nat}(h:j<xs.length):(zIt xs)[j]? =some (.int .u64 (xs[j]:Int)):=by simp [zIt,yK h]
theorem zIP(xs:List Nat)(h:∀x∈xs,x<U64):(xs.flatMap z0C).length<=10*xs.length:=by
 induction xs with
 |nil=>simp
 |cons x xs ih=>
  have h1:=z09 (h x (by simp));have h2:=ih (fun y hy=>h y (by simp [hy]));rw [yb,y6,y8];omega
theorem z83{xs:List Nat}{i:Nat}(h:i<xs.length):(xs.take (i+1)).flatMap z0C=(xs.take i).flatMap z0C++z0C xs[i]:=by
 rw [yO h,Yq];simp
theorem z9n(g B B':Nat)(l:List UInt8)(xs:List Nat)(v0:Value)(w:World)(hw:Wr w g B l)(hB:B<=w.heap.size)(hB':xs.length=0->B'<=B)(hB2:B'<=w.heap.size)(hx:∀x∈xs,x<U64)(hl:l.length+10*xs.length<=1099511627776)
 (hv:Sl (fun b=>b≠g/\b<w.heap.size) w 1 v0 xs.length (zIt xs)):
 Calls prog 63 #[.pointer (some ⟨g,0,none⟩),v0] w fun e w'=>e= .returned (.tuple #[])/\Wr w' g B' (l++xs.flatMap z0C)/\w.grownBy w' (some g):=by
 have HV:=zz hv;obtain⟨_,A0,c0,rfl,hnc,hcm,hA0,hA⟩:=hv;have HA:=zz hA;have hml:xs.length<=109951162777:=by omega
 have HX:=zz hx;have R0:Wr w g (if 0<0 then w.heap.size else B) (l++(xs.take 0).flatMap z0C)/\w.grownBy w (some g):=⟨by simpa using hw,Yw _ _⟩;clear hA hx hw;go_enter func63,ntmps63
 go_wp2_with fail
 go_loopw [5,8] (fun _ iv wr=>∃i:Nat,iv= .int .i64 (i:Int)/\i<=xs.length/\Wr wr g (if 0<i then w.heap.size else B) (l++(xs.take i).flatMap z0C)/\w.grownBy wr (some g)) (fun _ iv _=>xs.length-(intOf iv).toNat)
 case atStart=>exact⟨0,rfl,by omega,R0⟩
 case round=>
  obtain⟨i,rfl,hi,hwr,hgr⟩:=hrel;clear R0;have hsz:=hgr.size;by_cases hil:i<xs.length
  .obtain⟨b,o,rfl,⟨hbg,hbl⟩,hcell⟩:=HA.out (by omega);have hcw:=hcell i _ (zJq hil);have hc:wr.cell? ⟨b,o+i,none⟩=some (.int .u64 (xs[i]:Int)):=by
    rw [yR (hgr.block b hbl (by simpa using hbg))];exact hcw
   have hx:=HX.out _ (yQ hil);have hlen:(l++(xs.take i).flatMap z0C).length<=l.length+10*i:=by
    have h1:=zIP (xs.take i) (fun x hx=>HX.out x (yY hx));rw [yC]at h1;rw [y6];omega
   have hvx:=z09 hx;have HS:=zz (z83 hil);have hsz':(if 0<i+1 then w.heap.size else B)<=wr.heap.size:=by rw [yB (by omega)];exact hsz
   have HSZ:=zz hsz';obtain⟨A,k,c,hbk,hown⟩:=hwr;clear hsz';have d0:wr.cell? ⟨g,0,none⟩=some (.slice A k c):=hbk.cell 0;have d1:wr.cell? ⟨g,1,none⟩=some (.int .i64 0):=hbk.cell 1;generalize xs[i]=x at*;clear hcell hcw;go_wp2_with fail
   refine(z8a _ _ _ x wr hx (by rw [y6];omega) hown.bs).mono ?_;rintro e w2 ⟨A2,k2,c2,rfl,hown2,hbl2⟩;have hbk2:=hbk.later hbl2;have e1:=hbk2.free 0;have e0:w2.cell? ⟨g,0,none⟩=some (.slice A k c):=hbk2.cell 0;go_wp2_with fail
   go_roundw
   case rel=>exact⟨i+1,by go_num,by omega,⟨A2,k2,c2,hbk2.put 0 _,by rw [HS.out,<-yM];exact z3g (hown2.lower HSZ.out) hbk2 (by decide) 0 _⟩,(hgr.trans (z0Q hbl2 _)).trans (z0n _ _ _ _)⟩
   case measure=>simp [intOf];omega
  .obtain rfl:i=xs.length:=by omega
   rw [YG]at hwr;have HW:Hid (Wr wr g B' (l++xs.flatMap z0C)):=hwr.lower (by split<;>omega);clear hwr hB';go_wp2_with fail
   go_end0
   exact⟨rfl,HW.out,hgr⟩
theorem z5R(g B:Nat)(l:List UInt8)(xs:List Nat)(v0:Value)(w:World)(hw:Wr w g B l)(hB:B<=w.heap.size)(hgB:B<=g)(hx:∀x∈xs,x<U64)(hl:l.length+10*xs.length<=1099511627776)
 (hv:Sl (fun b=>b≠g/\b<w.heap.size) w 1 v0 xs.length (zIt xs)):
 Calls prog 63 #[.pointer (some ⟨g,0,none⟩),v0] w fun e w'=>e= .returned (.tuple #[])/\Wr w' g B (l++xs.flatMap z0C)/\w.grownBy w' (some g):=by
 exact z9n g B B l xs v0 w hw hB (fun _=>y5 _) hB hx hl hv
theorem zF9{w w2 w3:World}{row r2:Option Nat}(h:w.grownBy w2 row)(h2:w2.grownBy w3 r2)(hk:∀k,r2=some k->w.heap.size<=k):w.grownBy w3 row:=
 ⟨h2.os.trans h.os,h2.tape.trans h.tape,h2.output.trans h.output,yD h.size h2.size,fun k hlt hr=>(h2.block k (yE hlt h.size) (fun e=>by have:=hk k e.symm;omega)).trans (h.block k hlt hr)⟩
theorem z4W(g B:Nat)(l:List UInt8)(w:World)(hw:Wr w g B l)(hl:l.length<=1099511627776):
 Calls prog 66 #[.pointer (some ⟨g,0,none⟩)] w fun e w'=>∃A k c,e= .returned (.tuple #[.slice A k c,.int .i64 0])/\Ob 5 w' w.heap.size (.slice A k c) l/\Below w.heap.size w w':=by
 obtain⟨A,k,c,hbk,hown⟩:=hw;have d0:w.cell? ⟨g,0,none⟩=some (.slice A k c):=hbk.cell 0;have d1:w.cell? ⟨g,1,none⟩=some (.int .i64 0):=hbk.cell 1;have hg:=hbk.lt;obtain rfl:=hown.len;have HB:=zz hown.bs;clear hown hbk;go_enter func66,ntmps66
 go_wp2_with (at_builtin;(refine z02 _ rfl (.tmp 13) (.tmp 17) z0p rfl (Ob.made _ _ w.heap.size (y5 _) (by simp)) (Sl.alloc1 HB.out _) rfl rfl (by simp;omega) (by simp) ?_);intro A1 k1 c1 w1 hown1 hg1 hat1)
 go_ret2
 exact⟨A1,k1,c1,rfl,by simpa using hown1,z01 ((y7 _ _).alloc (y5 _) _) (Ob.made _ _ w.heap.size (y5 _) (by simp)) hg1 (by simp)⟩
theorem zBo(l:List UInt8):Lib.strCells (st l)=bv l:=by
 simp [Lib.strCells,bv,st]
theorem z3p{P:Program}(w:World){ops:Array Oper}{rest:List Oper}{o:Oper}{a:Act}{Q:Exit->Act->World->Prop}(hgd:o.guard=none)(s x:Operand){t u e:TypeId}
 (E:Elem P t e (.int .u8 0) 1 1) (hu:P.underlying u=some .string) (ho:o.op= .call {callee:= .builtin .append,args:= #[s,x],argTypes:= #[t,u]})
 {base:Nat} {v:Value} {l:List UInt8} (hown:Ob e w base v l) {m:List UInt8} (hs:a.eval s=v) (hx:a.eval x= .string (st m))
 (hlen:l.length+m.length<=140737488355328) (hbase:base<=w.heap.size)
 (h:∀A k c w',Ob e w' base (.slice A k c) (l++m)->w.grownBy w' v.ownBlock->wpList P ops Q rest (a.put o.dst (.slice A k c)) w'):
 wpList P ops Q (o::rest) a w:=by
 obtain⟨i,hi,hz,hsz,hby⟩:=E.info;refine Lib.wpList_append_own_string w hgd s x t u ho base e i E.under hu hi hz hsz hby v l.length (bv l) hs hown (st m) hx (by rw [z7b];simp only [maxLen];omega) (by rw [z7b];exact hlen) hbase fun v' w' h2 h3 _=> ?_
 obtain⟨A,k,c,rfl⟩:=z0v h2;refine h A k c w' ?_ h3;rw [z7b,zBo]at h2;unfold Ob;rw [z6f,y6];exact h2
theorem Sl.new1{S:Nat->Prop}(w:World)(e:TypeId)(u:Value){g:Nat}(hg:g=w.heap.size)(hS:S g):Sl S (w.alloc (.cells #[u] e)) 1 (.slice (some ⟨g,0,none⟩) 1 1) 1 [u]:=by
 subst hg;refine⟨by simp,_,1,rfl,by simp,by simp [maxLen],(fun h=>by cases h),fun _=>⟨_,0,rfl,hS,fun j v hu=> ?_⟩⟩;rcases j with _|j
 .simp at hu;subst hu;rw [ZC];rfl
 .simp at hu
def z0y(s:List UInt8):List UInt8:=z0C s.length++s
def zKR(ss:List (List UInt8)):List Value:=ss.map fun s=> .string (st s)
theorem zKC{xs:List (List UInt8)}{j:Nat}(h:j<xs.length):(zKR xs)[j]? =some (.string (st xs[j])):=by simp [zKR,yK h]
theorem z3T{s:List UInt8}(h:s.length<=65536):(z0y s).length<=65546:=by
 unfold z0y;have:=z09 (show s.length<U64 by unfold U64;omega);rw [y6];omega
theorem zGI(xs:List (List UInt8))(h:∀x∈xs,x.length<=65536):(xs.flatMap z0y).length<=65546*xs.length:=by
 induction xs with
 |nil=>simp
 |cons x xs ih=>
  have h1:=z3T (h x (by simp));have h2:=ih (fun y hy=>h y (by simp [hy]));rw [yb,y6,y8];omega
theorem z7d{xs:List (List UInt8)}{i:Nat}(h:i<xs.length):(xs.take (i+1)).flatMap z0y=(xs.take i).flatMap z0y++z0y xs[i]:=by
 rw [yO h,Yq];simp
theorem z5V(g B:Nat)(l:List UInt8)(xs:List (List UInt8))(v0:Value)(w:World)(hw:Wr w g B l)(hB:B<=w.heap.size)(hgB:B<=g)(hx:∀x∈xs,x.length<=65536)(hl:l.length+65546*xs.length<=1099511627776)
 (hv:Sl (fun b=>b≠g/\b<w.heap.size) w 1 v0 xs.length (zKR xs)):
 Calls prog 64 #[.pointer (some ⟨g,0,none⟩),v0] w fun e w'=>e= .returned (.tuple #[])/\Wr w' g B (l++xs.flatMap z0y)/\w.grownBy w' (some g):=by
 have HV:=zz hv;obtain⟨_,A0,c0,rfl,hnc,hcm,hA0,hA⟩:=hv;have HA:=zz hA;have hml:xs.length<=16777216:=by omega
 have HX:=zz hx;have R0:Wr w g B (l++(xs.take 0).flatMap z0y)/\w.grownBy w (some g):=⟨by simpa using hw,Yw _ _⟩;clear hA hx hw;go_enter func64,ntmps64
 go_wp2_with fail
 go_loopw [5,8] (fun _ iv wr=>∃i:Nat,iv= .int .i64 (i:Int)/\i<=xs.length/\Wr wr g B (l++(xs.take i).flatMap z0y)/\w.grownBy wr (some g)) (fun _ iv _=>xs.length-(intOf iv).toNat)
 case atStart=>exact⟨0,rfl,by omega,R0⟩
 case round=>
  obtain⟨i,rfl,hi,hwr,hgr⟩:=hrel;clear R0;have hsz:=hgr.size;by_cases hil:i<xs.length
  .obtain⟨b,o,rfl,⟨hbg,hbl⟩,hcell⟩:=HA.out (by omega);have hcw:=hcell i _ (zKC hil);have hc:wr.cell? ⟨b,o+i,none⟩=some (.string (st xs[i])):=by
    rw [yR (hgr.block b hbl (by simpa using hbg))];exact hcw
   have hx:=HX.out _ (yQ hil);have hlen:(l++(xs.take i).flatMap z0y).length<=l.length+65546*i:=by
    have h1:=zGI (xs.take i) (fun x hx=>HX.out x (yY hx));rw [yC]at h1;rw [y6];omega
   have HS:=zz (z7d hil);obtain⟨A,k,c,hbk,hown⟩:=id hwr;have d1:wr.cell? ⟨g,1,none⟩=some (.int .i64 0):=hbk.cell 1;have hgl:=hbk.lt;generalize xs[i]=x at*;have t0:decide (65536<x.length)=false:=by rw [yj];omega
   have hv10:=z09 (show x.length<U64 by unfold U64;omega);have HW:=zz hwr;clear hcell hcw hbk hown hwr;go_wp2_with fail
   refine(z9n g B wr.heap.size (l++(xs.take i).flatMap z0y) [x.length] _ _ (HW.out.alloc _) (by simp;omega) (by intro h;simp at h) (by simp) (by intro y hy;simp at hy;subst hy;unfold U64;omega) (by have:=hlen;simp only [y8,yW];omega) (Sl.new1 wr _ _ (by simp) ⟨by omega,by simp⟩)).mono ?_;rintro e w2 ⟨rfl,hw2,hg2⟩;have hsz2:=hg2.size;simp only [yb,YZ,yf]at hw2;obtain⟨A2,k2,c2,hbk2,hown2⟩:=hw2;have e0:w2.cell? ⟨g,0,none⟩=some (.slice A2 k2 c2):=hbk2.cell 0;have e1:w2.cell? ⟨g,1,none⟩=some (.int .i64 0):=hbk2.cell 1;have hs2:wr.heap.size<=w2.heap.size:=by simp at hsz2;omega
   have hg2':w.grownBy w2 (some g):=(hgr.trans (z0Q ((y7 _ _).alloc (y5 _) _) _)).trans hg2;have hll:(l++(xs.take i).flatMap z0y++z0C x.length).length+x.length<=140737488355328:=by rw [y6];omega
   go_wp2_with (at_builtin;go_loud (refine z3p _ rfl (.tmp 40) (.tmp 41) z0p tS rfl hown2 rfl rfl hll hs2 ?_);intro A3 k3 c3 w3 hown3 hg3;have hbk3:=hbk2.kept hown2 hg3 (by decide);have d0:w3.cell? ⟨g,0,none⟩=some (.slice A2 k2 c2):=hbk3.cell 0;have f0:=hbk3.free 0)
   go_roundw
   case rel=>
    refine⟨i+1,by go_num,by omega,⟨A3,k3,c3,hbk3.put 0 _,?_⟩,?_⟩
    .rw [HS.out,<-yM];have:=z3g (Ob.lower hown3 (show B<=_ by omega)) hbk3 (by decide) 0 (.slice A3 k3 c3);unfold z0y at*;rw [<-yM];exact this
    .exact(zF9 hg2' hg3 (fun k hk=>yD hsz (hown2.lt k hk).1)).trans (z0n _ _ _ _)
   case measure=>simp [intOf];omega
  .obtain rfl:i=xs.length:=by omega
   rw [YG]at hwr;go_wp2_with fail
   go_end0
   exact⟨rfl,hwr,hgr⟩
end
section
abbrev Rg:=BitVec 32
def zJx:Rg:=0x04c11db7#32
def z4t(r:Rg)(b:Bool):Rg:=(r<<<1) ^^^ (if(r.msb ^^ b)then zJx else 0#32)
def z7t(r:Rg)(bs:List Bool):Rg:=bs.foldl z4t r
theorem zHU(r:Rg):z7t r []=r:=rfl
theorem zAA(r:Rg)(b:Bool)(bs:List Bool):z7t r (b::bs)=z7t (z4t r b) bs:=rfl
theorem z6s(r:Rg)(bs cs:List Bool):z7t r (bs++cs)=z7t (z7t r bs) cs:=Qc
theorem zHo(x y:Bool):(if(x ^^ y)then zJx else 0#32)=(if x then zJx else 0#32) ^^^ (if y then zJx else 0#32):=by
 cases x<;>cases y<;>simp
theorem zI8(a c:Rg)(x y:Bool):z4t (a ^^^ c) (x ^^ y)=z4t a x ^^^ z4t c y:=by
 unfold z4t;rw [BitVec.msb_xor,BitVec.shiftLeft_xor_distrib,show((a.msb ^^ c.msb) ^^ (x ^^ y))=((a.msb ^^ x) ^^ (c.msb ^^ y))from by cases a.msb<;>cases c.msb<;>cases x<;>cases y<;>rfl,zHo]
 ac_rfl
theorem zCQ:∀ (xs ys:List Bool) (a c:Rg),xs.length=ys.length->z7t (a ^^^ c) (List.zipWith xor xs ys)=z7t a xs ^^^ z7t c ys
 | [],[],a,c,_=>rfl
 |x::xs,y::ys,a,c,h=>by
  rw [List.zipWith_cons_cons,zAA,zI8,zCQ xs ys _ _ (by simpa using h)];rfl
def zER(h:Nat):List Bool:= [h.testBit 3,h.testBit 2,h.testBit 1,h.testBit 0]
def zAx:List Bool:= [false,false,false,false]
def tab(i:Nat):Rg:=z7t (BitVec.ofNat 32 (i<<<28)) zAx
theorem z6P(x:Rg)(h:x.msb=false):z4t x false=x<<<1:=by
 unfold z4t;simp [h]
theorem low4(x:Rg)(h:x >>> 28=0#32):z7t x zAx=x<<<4:=by
 have hb:∀i,i<4->x.getLsbD (28+i)=false:=by
  intro i hi;have:=congrArg (fun y:Rg=>y.getLsbD i) h;simpa using this
 have h0:=hb 0 (by omega);have h1:=hb 1 (by omega);have h2:=hb 2 (by omega);have h3:=hb 3 (by omega);have e1:z4t x false=x<<<1:=z6P x (by rw [Z8];exact h3);have e2:z4t (x<<<1) false=x<<<2:=by
  rw [z6P _ (by rw [Z8];simpa using h2),<-QL]
 have e3:z4t (x<<<2) false=x<<<3:=by
  rw [z6P _ (by rw [Z8];simpa using h1),<-QL]
 have e4:z4t (x<<<3) false=x<<<4:=by
  rw [z6P _ (by rw [Z8];simpa using h0),<-QL]
 simp only [zAx,zAA,zHU,e1,e2,e3,e4]
theorem zID:∀k,k<16->∀h,h<16->z7t (BitVec.ofNat 32 (k<<<28)) (zER h)=tab (k ^^^ h):=by decide+kernel
theorem feed4(r:Rg)(h:Nat)(hh:h<16):z7t r (zER h)=(r<<<4) ^^^ tab ((r >>> 28).toNat ^^^ h):=by
 have hk:(r >>> 28).toNat<16:=by
  have:=r.isLt;rw [Zz,Zw];omega
 obtain⟨k,hk'⟩:∃k,k=(r >>> 28).toNat:=⟨_,rfl⟩;have hhi:BitVec.ofNat 32 (k<<<28)=(r >>> 28)<<<28:=by
  apply BitVec.eq_of_toNat_eq;rw [hk',QX,Q7]
 have hlo:(r ^^^ (r >>> 28)<<<28) >>> 28=0#32:=by
  ext i hi
  simp only [BitVec.getElem_ushiftRight,BitVec.getLsbD_xor,BitVec.getLsbD_shiftLeft,BitVec.getLsbD_ushiftRight,BitVec.getElem_zero];by_cases h:i<4
  .simp [show 28+i<32 by omega]
  .have h1:r.getLsbD (28+i)=false:=BitVec.getLsbD_of_ge r _ (by omega);have h3:¬28+i<32:=by omega
   simp [h1,h3]
 have hsl:(r ^^^ (r >>> 28)<<<28)<<<4=r<<<4:=by
  ext i hi
  simp only [BitVec.getElem_shiftLeft,BitVec.getElem_xor];by_cases h:i<4
  .simp [h]
  .have:i-4<28:=by omega
   simp [h,this]
 have e:r=(r ^^^ (r >>> 28)<<<28) ^^^ ((r >>> 28)<<<28):=by
  rw [BitVec.xor_assoc,BitVec.xor_self,BitVec.xor_zero]
 have hz:zER h=List.zipWith xor zAx (zER h):=by simp [zAx,zER]
 rw [<-hk'];rw [<-hk']at hk
 calc z7t r (zER h)=z7t ((r ^^^ (r >>> 28)<<<28) ^^^ ((r >>> 28)<<<28)) (List.zipWith xor zAx (zER h)):=by rw [<-e,<-hz]
  _=z7t (r ^^^ (r >>> 28)<<<28) zAx ^^^ z7t ((r >>> 28)<<<28) (zER h):=zCQ _ _ _ _ (by simp [zAx,zER])
  _=(r<<<4) ^^^ tab (k ^^^ h):=by rw [low4 _ hlo,hsl,<-hhi,zID k hk h hh]
def bits8(b:Nat):List Bool:=zER (b / 16)++zER (b%16)
def zET(r:Rg)(b:UInt8):Rg:=z7t r (bits8 b.toNat)
def z9K(r:Rg)(l:List UInt8):Rg:=l.foldl zET r
def zG9(v:Rg)(l:List UInt8):Rg:= ~~~(z9K (~~~v) l)
def z4c(l:List UInt8):Rg:=zG9 0#32 l
theorem zAO(r:Rg)(l m:List UInt8):z9K r (l++m)=z9K (z9K r l) m:=Qc
theorem zDe(r:Rg)(l:List UInt8)(b:UInt8):z9K r (l++ [b])=zET (z9K r l) b:=by rw [zAO];rfl
theorem zHE(r:Rg)(b:UInt8):zET r b=((((r<<<4) ^^^ tab ((r >>> 28).toNat ^^^ (b.toNat / 16)))<<<4) ^^^ tab (((((r<<<4) ^^^ tab ((r >>> 28).toNat ^^^ (b.toNat / 16))) >>> 28).toNat) ^^^ (b.toNat%16))):=by
 have:=b.toNat_lt;unfold zET bits8;rw [z6s,feed4 r _ (by omega),feed4 _ _ (by omega)]
def zIZ(n:Nat):List Bool:=List.replicate n false
end
section
open Go Go.RowKit Tryz
abbrev rv(r:Rg):Value:= .int .u32 (r.toNat:Int)
theorem z9Q(r:Rg):r.toNat<4294967296:=r.isLt
theorem rg_dbl(r:Rg):((r.toNat:Int)*(2:Int)%(4294967296:Int))=((r<<<1).toNat:Int):=by
 rw [Q7];simp [Qf]
theorem rg_top(r:Rg):((r.toNat:Int) / 2147483648==1)=r.msb:=by
 have:=z9Q r;rw [BitVec.msb_eq_decide,Zd,Z9,yd];omega
theorem zCj(a c:Rg):bits .xor .u32 (a.toNat:Int) (c.toNat:Int)=((a ^^^ c).toNat:Int):=by
 rw [u32_xor_nat _ _ (z9Q a) (z9Q c),BitVec.toNat_xor]
theorem zJy(r:Rg):bits .xor .u32 (r.toNat:Int) 79764919=((r ^^^ zJx).toNat:Int):=zCj r zJx
theorem zI7(r:Rg)(b:Bool)(w:World):
 Calls prog 204 #[rv r,.bool b] w fun e w'=>e= .returned (rv (z4t r b))/\w=w':=by
 have H:Hid (z4t r b=(r<<<1) ^^^ (if(r.msb ^^ b)then zJx else 0#32)):=rfl;have ht:=rg_top r;have hr:=z9Q r;cases hm:r.msb<;>cases b
 all_goals
  rw [hm]at ht H;go_enter func204,ntmps204
  go_wp2_with fail
  go_ret
  rw [H.out];refine⟨?_,rfl⟩;have hd:=rg_dbl r;rw [hd]
  first|(rw [zJy];rfl)|(simp;done)
theorem zHy(i:Nat)(h:i<16):((i:Int)*(268435456:Int))=((BitVec.ofNat 32 (i<<<28)).toNat:Int):=by
 rw [QX,Qf];omega
theorem z6t(r:Rg)(k:Nat):z7t r (zIZ (k+1))=z4t (z7t r (zIZ k)) false:=by
 rw [zIZ,List.replicate_succ',z6s];rfl
theorem zIH(g i:Nat)(cs:Array Value)(w:World)(hi:i<16)(hcs:cs.size=16)(hb:Blk w g 312 cs):
 Calls prog 203 #[.int .i64 i,.pointer (some ⟨g,0,none⟩)] w fun e w'=>e= .returned (.tuple #[])/\w'=w.setCell ⟨g,i,none⟩ (rv (tab i)):=by
 go_enter func203,ntmps203
 go_wp2_with fail
 go_loop [3,7] (fun rvv kv=>∃k:Nat,k<=4/\kv= .int .i64 k/\rvv=rv (z7t (BitVec.ofNat 32 (i<<<28)) (zIZ k))) (fun _ kv=>4-(intOf kv).toNat)
 case atStart=>exact⟨0,by omega,rfl,by rw [zHy i hi];rfl⟩
 case round=>
  obtain⟨k,hk,rfl,rfl⟩:=hrel;by_cases hlt:k<4
  .have H:=zz (z6t (BitVec.ofNat 32 (i<<<28)) k);go_wp2_with (go_at_call 204;refine(zI7 _ _ _).mono ?_;rintro e w' ⟨rfl,rfl⟩)
   go_round
   case rel=>exact⟨k+1,by omega,by go_num,by rw [H.out]⟩
   case measure=>simp [intOf];omega
  .obtain rfl:k=4:=by omega
   have hc:=hb.cell i;have hf:=hb.free i;rw [yG (by omega)]at hc;go_wp2_with fail
   go_end0
   exact⟨rfl,rfl⟩
def z3i(i:Nat):Array Value:=(Array.range 16).map fun j=>if j<i then rv (tab j)else .int .u32 0
theorem z49(i:Nat):(z3i i).size=16:=by simp [z3i]
theorem zIC(i:Nat)(h:i<16):(z3i i).setIfInBounds i (rv (tab i))=z3i (i+1):=by
 apply Array.ext
 .simp [z3i]
 .intro j h1 h2;have hj:j<16:=by simpa [z3i]using h2
  rw [Array.getElem_setIfInBounds (by simpa using h1)];by_cases e:i=j
  .subst e;simp [z3i]
  .rw [yA e];simp only [z3i,Array.getElem_map,Array.getElem_range];by_cases hl:j<i
   .rw [yB hl,yB (by omega)]
   .rw [yA hl,yA (by omega)]
theorem zGB(j:Nat)(h:j<16):(z3i 16)[j]? =some (rv (tab j)):=by
 rw [yG (by rw [z49];exact h)];simp [z3i,h]
theorem zGC:z3i 0= #[.int .u32 0,.int .u32 0,.int .u32 0,.int .u32 0,.int .u32 0,.int .u32 0,.int .u32 0,.int .u32 0,.int .u32 0,.int .u32 0,.int .u32 0,.int .u32 0,.int .u32 0,.int .u32 0,.int .u32 0,.int .u32 0]:=by
 simp [z3i,<-Array.toList_inj,Zb]
theorem zCv(i:Nat):(z3i i).all (·.oneCell')=true:=by
 rw [Array.all_eq_true];intro j h;simp only [z3i,Array.getElem_map,Array.getElem_range]
 split<;>rfl
def tabV:Value:= .agg (z3i 16)
theorem z9D(i:Nat):(Tryz.prog.info? 312).map (·.size)=some (z3i i).size:=by rw [z49];kernel_rfl
theorem Blk.setRow{w:World}{g:Nat}{t:TypeId}{cs:Array Value}(h:Blk w g t cs)(ds:Array Value):Blk (w.setRow g ds) g t ds:=by
 unfold Blk at h ⊢;simp [World.setRow,ZD,h]
theorem z0j{B g:Nat}{w w':World}(h:Below B w w')(hg:B<=g)(ds:Array Value):Below B w (w'.setRow g ds):=by
 refine h.trans ⟨rfl,rfl,rfl,by simp,fun k hk=> ?_⟩;simp only [World.setRow,ZD];rw [yA (by omega)]
theorem zGD(w:World):
 Calls prog 200 #[] w fun e w'=>e= .returned tabV/\Below w.heap.size w w':=by
 have hmf:=z0N prog;go_enter func200,ntmps200
 go_wp2_with fail
 rw [<-zGC];have R0:Blk ((w.alloc (.cells (z3i 0) 312)).alloc (.cells (z3i 0) 312)) (w.heap.size+1) 312 (z3i 0)/\
  Blk ((w.alloc (.cells (z3i 0) 312)).alloc (.cells (z3i 0) 312)) w.heap.size 312 (z3i 0)/\
  Below w.heap.size w ((w.alloc (.cells (z3i 0) 312)).alloc (.cells (z3i 0) 312)):=by
  refine⟨?_,(Blk.new w _ _).alloc _,((y7 _ _).alloc (y5 _) _).alloc (by simp) _⟩;have:=Blk.new (w.alloc (.cells (z3i 0) 312)) 312 (z3i 0);simpa using this
 generalize ((w.alloc (.cells (z3i 0) 312)).alloc (.cells (z3i 0) 312))=w2 at*;go_loopw [5] (fun iv wr=>∃i:Nat,iv= .int .i64 (i:Int)/\i<=16/\Blk wr (w.heap.size+1) 312 (z3i i)/\Blk wr w.heap.size 312 (z3i 0)/\Below w.heap.size w wr) (fun iv _=>16-(intOf iv).toNat)
 case atStart=>exact⟨0,rfl,by omega,R0⟩
 case round=>
  obtain⟨i,rfl,hi,hb1,hb0,hbl⟩:=hrel;clear R0;by_cases hlt:i<16
  .go_wp2_with fail
   refine(zIH (w.heap.size+1) i (z3i i) wr hlt (z49 _) hb1).mono ?_;rintro e w3 ⟨rfl,rfl⟩;go_wp2
   go_roundw
   case rel=>exact⟨i+1,by go_num,by omega,by rw [<-zIC i hlt];exact hb1.put i _,hb0.far (by simp) _,hbl.setCell (by simp) _⟩
   case measure=>simp [intOf];omega
  .obtain rfl:i=16:=by omega
   have hu:=underlying312;go_wp2_with (first|(refine wpList_load_row rfl _ (.tmp 1) rfl (w.heap.size+1) rfl _ (z3i 16) _ _ hb1 hu rfl (z9D 16) ?_)|(refine wpList_store_row rfl _ (.tmp 0) (.tmp 12) rfl w.heap.size (z3i 16) rfl rfl _ (z3i 0) hb0 (z9D 16) (by simp [z49]) (zCv 16) ?_))
   exact bodyPost_ret (v:=tabV) (results_cell_row rfl _ _ w.heap.size _ (z3i 16) _ _ rfl (hb0.setRow _) hu rfl (z9D 16)) rfl ⟨rfl,z0j hbl (y5 _) _⟩
theorem zJ0(r:Rg):bits .xor .u32 IntKind.u32.max (r.toNat:Int)=((~~~r).toNat:Int):=by
 rw [show IntKind.u32.max=(((BitVec.allOnes 32:Rg).toNat:Nat):Int)from rfl,zCj]
 congr 2
theorem and15(x:Nat)(hx:x<256):bits .and .u8 (x:Int) 15=((x%16:Nat):Int):=by
 have h:=u8_and_nat x 15 hx (by omega);rw [show x&&& 15=x%16 from Nat.and_two_pow_sub_one_eq_mod x 4]at h;exact h
theorem zIs(r:Rg)(h:Nat)(hh:h<16):(r >>> 28).toNat ^^^ h<16:=by
 have hk:(r >>> 28).toNat<16:=by
  have:=r.isLt;rw [Zz,Zw];exact ZH this
 exact Nat.xor_lt_two_pow (n:=4) hk hh
theorem zFW(r:Rg)(h:Nat)(hh:h<16):bits .xor .u32 ((r.toNat:Int) / (268435456:Int)) (h:Int)=(((r >>> 28).toNat ^^^ h:Nat):Int):=by
 have e:((r.toNat:Int) / (268435456:Int))=(((r >>> 28).toNat:Nat):Int):=by
  rw [Zz,Zw];omega
 have:=z9Q (r >>> 28);rw [e,u32_xor_nat _ _ this (by omega)]
theorem zFx(r:Rg):((r.toNat:Int)*(16:Int)%(4294967296:Int))=((r<<<4).toNat:Int):=by
 rw [Q7];simp [Qf]
theorem zHh(S:Nat->Prop)(v0:Value)(v:Rg)(l:List UInt8)(w:World)(hl:l.length<=1099511627776)(hr:Bs S w v0 l):
 Calls prog 195 #[rv v,v0] w fun e w'=>e= .returned (rv (zG9 v l))/\Below w.heap.size w w':=by
 have HR:=zz ((Sl.lt hr (by omega)).more (fun _ h=>h.2));obtain⟨A,c,rfl,hlc,hcm,hA0,hA⟩:=hr.at;clear hA hr hA0;go_enter func195,ntmps195
 go_wp2_with fail
 refine(zGD w).mono ?_;rintro e w1 ⟨rfl,hbl1⟩;have hr1:=Sl.below HR.out hbl1 (fun _ h=>h);have hs1:=hbl1.size;unfold tabV;go_wp2_with (refine wpList_store_row rfl _ (.tmp 5) (.tmp 9) rfl w1.heap.size (z3i 16) rfl rfl _ _ (Blk.new w1 _ _) (z9D 16) (by simp [z49]) (zCv 16) ?_)
 have B1:Blk ((w1.alloc (.cells #[.int .u32 0,.int .u32 0,.int .u32 0,.int .u32 0,.int .u32 0,.int .u32 0,.int .u32 0,.int .u32 0,.int .u32 0,.int .u32 0,.int .u32 0,.int .u32 0,.int .u32 0,.int .u32 0,.int .u32 0,.int .u32 0] 312)).setRow w1.heap.size (z3i 16)) w1.heap.size 312 (z3i 16):=(Blk.new _ _ _).setRow _;have hbl2:Below w.heap.size w ((w1.alloc (.cells #[.int .u32 0,.int .u32 0,.int .u32 0,.int .u32 0,.int .u32 0,.int .u32 0,.int .u32 0,.int .u32 0,.int .u32 0,.int .u32 0,.int .u32 0,.int .u32 0,.int .u32 0,.int .u32 0,.int .u32 0,.int .u32 0] 312)).setRow w1.heap.size (z3i 16)):=z0j (hbl1.alloc hs1 _) hs1 _;have hr2:Bs (fun b=>b<w.heap.size) _ _ l:=Sl.below HR.out hbl2 (fun _ h=>h);clear hr1 HR hbl1;generalize ((w1.alloc _).setRow _ _)=w2 at*;obtain⟨_,_,hv,_,_,_,hA⟩:=hr2.at;injection hv with e1 _ e2
 subst e1 e2;have HA:=zz hA;clear hA hr2;go_loop [6,14] (fun rvv iv=>∃ (i:Nat) (r:Rg),iv= .int .i64 (i:Int)/\i<=l.length/\rvv=rv r/\Hid (r=z9K (~~~v) (l.take i))) (fun _ iv=>l.length-(intOf iv).toNat)
 case atStart=>exact⟨0,~~~v,rfl,by omega,by rw [zJ0],rfl⟩
 case round=>
  obtain⟨i,r,rfl,hi,rfl,hrm⟩:=hrel;by_cases hil:i<l.length
  .obtain⟨b,o,rfl,_,hcell⟩:=HA.out (by omega);have hc:=hcell i hil;clear hcell HA;have HS:Hid (zET r l[i]=z9K (~~~v) (l.take (i+1))):=by
    rw [Hid,yO hil,zDe,hrm.out]
   have HQ:=zz (zHE r l[i]);obtain⟨x,hx⟩:∃x,x=l[i].toNat:=⟨_,rfl⟩;have hx256:x<256:=hx▸l[i].toNat_lt;rw [<-hx]at hc HQ;have n1:=zFW r (x / 16) (by omega);have n1l:=zIs r (x / 16) (by omega);generalize (r >>> 28).toNat ^^^ (x / 16)=k1 at*;have c1:=(B1.cell k1).trans (zGB k1 n1l);have x1:=zCj (r<<<4) (tab k1);rw [<-zFx]at x1;generalize (r<<<4) ^^^ tab k1=r1 at*;have n2:=zFW r1 (x%16) (by omega);have n2l:=zIs r1 (x%16) (by omega);generalize (r1 >>> 28).toNat ^^^ (x%16)=k2 at*;have c2:=(B1.cell k2).trans (zGB k2 n2l);have x2:=zCj (r1<<<4) (tab k2);rw [<-zFx]at x2;generalize (r1<<<4) ^^^ tab k2=r2 at*;have HR2:Hid (r2=z9K (~~~v) (l.take (i+1))):=by rw [Hid,<-HS.out,HQ.out]
   have a15:=and15 x hx256;rw [show((x / 16:Nat):Int)=(x:Int) / (16:Int) by omega]at n1;rw [show((x%16:Nat):Int)=(x:Int)%(16:Int) by omega]at n2 a15;have l1:=z9Q r;have l2:=z9Q r1;have l3:=z9Q r2;clear hx HS HQ;go_wp2_with fail
   go_round
   case rel=>exact⟨i+1,r2,by go_num,by omega,rfl,HR2⟩
   case measure=>simp [intOf];omega
  .obtain rfl:i=l.length:=by omega
   have HR2:=hrm.out;rw [YG]at HR2;have HR3:=zz HR2;clear HR2;go_wp2_with fail
   go_ret
   refine⟨?_,hbl2⟩;rw [zJ0,HR3.out];rfl
theorem zIu(S:Nat->Prop)(v0:Value)(l:List UInt8)(w:World)(hl:l.length<=1099511627776)(hr:Bs S w v0 l):
 Calls prog 184 #[v0] w fun e w'=>e= .returned (rv (z4c l))/\Below w.heap.size w w':=by
 have HR:=zz hr;obtain⟨A,c,rfl,hlc,hcm,hA0,hA⟩:=hr.at;clear hA hr hA0;go_enter func184,ntmps184
 go_wp2_with fail
 refine(zHh _ _ 0#32 l w hl HR.out).mono ?_;rintro e w1 ⟨rfl,hbl1⟩;go_wp2_with fail
 go_ret
 exact⟨rfl,hbl1⟩
theorem sum4(r:Rg):(r.toNat:Nat)<256 ^ 4:=r.isLt
theorem zCp(S:Nat->Prop)(v0:Value)(l:List UInt8)(w:World)(hb:BitsOk w)(hl:l.length<=1099511627776)(hr:Bs S w v0 l):
 Calls prog 157 #[v0] w fun e w'=>∃A k c,e= .returned (.slice A k c)/\Ob 5 w' w.heap.size (.slice A k c) (l++beB (z4c l).toNat 4)/\Below w.heap.size w w':=by
 have HR:=zz ((Sl.lt hr (by omega)).more (fun _ h=>h.2));have HB:=zz hb;obtain⟨A,c,rfl,hlc,hcm,hA0,hA⟩:=hr.at;have HR0:=zz hr;clear hA hr hA0 hb;have hs:=z9Q (z4c l);go_enter func157,ntmps157
 go_wp2_with fail
 refine(zIu _ _ l w hl HR0.out).mono ?_;rintro e w1 ⟨rfl,hbl1⟩;have hr1:=Sl.below HR.out hbl1 (fun _ h=>h);have HR1:=zz hr1;clear hr1;go_wp2_with fail
 refine(zFs _ _ l (z4c l).toNat 4 w1 (by omega) (by omega) (by unfold U64;omega) (fun _=>by omega) (HB.out.later hbl1) hl HR1.out).mono ?_;rintro e w2 ⟨A2,k2,c2,rfl,hown,hbl2⟩;go_wp2_with fail
 go_ret
 exact⟨A2,k2,c2,rfl,hown.lower hbl1.size,hbl1.trans (hbl2.mono hbl1.size)⟩
def z27(l:List UInt8):Except Nat (List UInt8):=if l.length<4 then .error 20 else if l.take (l.length-4)++beB (z4c (l.take (l.length-4))).toNat 4=l then .ok (l.take (l.length-4))else .error 21
end
section
open Go Tryz
abbrev Cel:=List UInt8×List UInt8
def z3B(c:Cel):List UInt8:=z0y c.1++z0y c.2
def z07(cs:List Cel):Nat:=(cs.flatMap z3B).length
theorem z0W(a b:List Cel):z07 (a++b)=z07 a+z07 b:=by simp [z07]
theorem z56(c:Cel):z07 [c]=(z3B c).length:=by simp [z07]
theorem z2c{cs:List Cel}{i:Nat}(h:i<cs.length):z07 (cs.take (i+1))=z07 (cs.take i)+(z3B cs[i]).length:=by
 rw [yO h,z0W,z56]
theorem zCD{cs:List Cel}{i:Nat}:z07 (cs.take i)<=z07 cs:=by
 have h:z07 cs=z07 (cs.take i)+z07 (cs.drop i):=by rw [<-z0W,yT]
 omega
def Few(cs:List Cel):Prop:=cs.length<=100/\∀c∈cs,c.1.length<=600/\c.2.length<=600
theorem z1j(s:List UInt8)(h:s.length<=65536):(z0y s).length=(z0C s.length).length+s.length:=by unfold z0y;rw [y6]
theorem zEW{c:Cel}(h:c.1.length<=65536/\c.2.length<=65536):(z3B c).length<=131092:=by
 unfold z3B;have h1:=z3T h.1;have h2:=z3T h.2;rw [y6];omega
theorem z4l(cs:List Cel)(h:∀c∈cs,c.1.length<=65536/\c.2.length<=65536):z07 cs<=131092*cs.length:=by
 induction cs with
 |nil=>simp [z07]
 |cons c cs ih=>
  have h1:=zEW (h c (by simp));have h2:=ih (fun x hx=>h x (by simp [hx]));have e:z07 (c::cs)=(z3B c).length+z07 cs:=by simp [z07]
  rw [e,y8];omega
def pgF(leaf:Bool)(next:Int)(cs:List Cel):List UInt8:=(if leaf then [1]else [0])++(z0C next.toNat++(z0C cs.length++cs.flatMap z3B))
def z2v(next:Int)(cs:List Cel):Nat:=1+(z0C next.toNat).length+(z0C cs.length).length+z07 cs+4
def z7Y(l:List UInt8):List UInt8:=l++beB (z4c l).toNat 4
theorem z7Z(l:List UInt8):(z7Y l).length=l.length+4:=by unfold z7Y;rw [y6,z18]
theorem zFf(leaf:Bool)(next:Int)(cs:List Cel):(pgF leaf next cs).length+4=z2v next cs:=by
 unfold pgF z2v z07;cases leaf
 .simp only [yu,yv,y6,y8,yW];omega
 .simp only [YN,y6,y8,yW];omega
def zB1(prev:Option (List UInt8))(k:List UInt8):Bool:=match prev with
 |some p=> !Op.bytesLess p k
 |none=>false
def chk(prev:Option (List UInt8))(cs:List Cel):Nat:=match cs with
 | []=>0
 |c::cs=>if 480<c.1.length+c.2.length then 100 else if zB1 prev c.1=true then 101 else chk (some c.1) cs
def z33(cs:List Cel)(i:Nat):Option (List UInt8):=if i=0 then none else(cs[i-1]?).map (·.1)
theorem zHJ{cs:List Cel}{i:Nat}(h:i<cs.length):chk (z33 cs i) (cs.drop i)=
 if 480<cs[i].1.length+cs[i].2.length then 100 else if zB1 (z33 cs i) cs[i].1=true then 101 else chk (z33 cs (i+1)) (cs.drop (i+1)):=by
 rw [yL h,chk];have e:z33 cs (i+1)=some cs[i].1:=by
  unfold z33;rw [yA (by omega),YS,yK h];rfl
 rw [e]
theorem zJI(cs:List Cel)(p:Option (List UInt8)):chk p (cs.drop cs.length)=0:=by rw [Zr,chk]
def z1I(next:Int)(cs:List Cel):Nat:=
 if next<0∨256<next then 101 else if chk none cs≠0 then chk none cs else if 2048<z2v next cs then 100 else 0
end
section
open Go Go.RowKit Tryz
def z1W(P:Program)(ty:TypeId)(n:Nat):Prop:=(∃fs,P.underlying ty=some (.struct fs))/\(P.info? ty).map (·.size)=some n
section
variable {P:Program} {fn:Func}
theorem z26{w:World}{g:Nat}{t ty:TypeId}{cs:Array Value}(hg:Blk w g t cs)(hS:z1W P ty cs.size):(loadVar ty ⟨g,0,none⟩).run P w= .ok (.agg cs) w:=by
 obtain⟨⟨fs,hu⟩,hi⟩:=hS;exact run_loadVar_row w g t ty cs (0,0) _ hg hu rfl hi
theorem z0L{p u:Tmp}{ty:TypeId}(h:fn.results= #[.cell p ty,.tmp u])(tmps:Array Value)(w:World)(g:Nat){t:TypeId}{cs:Array Value}
 (hp:tmps.getD p undef= .pointer (some ⟨g,0,none⟩)) (hg:Blk w g t cs) (hS:z1W P ty cs.size):
 (results fn tmps).run P w= .ok (.tuple #[.agg cs,tmps.getD u undef]) w:=by
 have hp':tmps[p]?.getD undef= .pointer (some ⟨g,0,none⟩):=by simpa using hp
 simp [results,h,hp',asAddr,z26 hg hS]
theorem z1G{p u v:Tmp}{ty:TypeId}(h:fn.results= #[.cell p ty,.tmp u,.tmp v])(tmps:Array Value)(w:World)(g:Nat){t:TypeId}{cs:Array Value}
 (hp:tmps.getD p undef= .pointer (some ⟨g,0,none⟩)) (hg:Blk w g t cs) (hS:z1W P ty cs.size):
 (results fn tmps).run P w= .ok (.tuple #[.agg cs,tmps.getD u undef,tmps.getD v undef]) w:=by
 have hp':tmps[p]?.getD undef= .pointer (some ⟨g,0,none⟩):=by simpa using hp
 simp [results,h,hp',asAddr,z26 hg hS]
theorem z0V{p:Tmp}{ty:TypeId}(h:fn.results= #[.cell p ty])(tmps:Array Value)(w:World)(g:Nat){t:TypeId}{cs:Array Value}
 (hp:tmps.getD p undef= .pointer (some ⟨g,0,none⟩)) (hg:Blk w g t cs) (hS:z1W P ty cs.size):
 (results fn tmps).run P w= .ok (.agg cs) w:=by
 have hp':tmps[p]?.getD undef= .pointer (some ⟨g,0,none⟩):=by simpa using hp
 simp [results,h,hp',asAddr,z26 hg hS]
theorem z47{p q u:Tmp}{ty ty':TypeId}(h:fn.results= #[.cell p ty,.cell q ty',.tmp u])(tmps:Array Value)(w:World)(g g':Nat){t t':TypeId}{cs cs':Array Value}
 (hp:tmps.getD p undef= .pointer (some ⟨g,0,none⟩)) (hq:tmps.getD q undef= .pointer (some ⟨g',0,none⟩)) (hg:Blk w g t cs) (hg':Blk w g' t' cs') (hS:z1W P ty cs.size) (hS':z1W P ty' cs'.size):
 (results fn tmps).run P w= .ok (.tuple #[.agg cs,.agg cs',tmps.getD u undef]) w:=by
 have hp':tmps[p]?.getD undef= .pointer (some ⟨g,0,none⟩):=by simpa using hp
 have hq':tmps[q]?.getD undef= .pointer (some ⟨g',0,none⟩):=by simpa using hq
 simp [results,h,hp',hq',asAddr,z26 hg hS,z26 hg' hS']
end
def ccs(cs:List Cel):List Value:=cs.flatMap fun c=> [.string (st c.1),.string (st c.2)]
theorem z1c(cs:List Cel):(ccs cs).length=cs.length*2:=by
 induction cs with
 |nil=>rfl
 |cons r rs ih=>simp only [ccs,yb,y6,y8,yW]at ih ⊢;omega
theorem z19(a b:List Cel):ccs (a++b)=ccs a++ccs b:=by simp [ccs]
theorem z2b(cs:List Cel):∀u∈ccs cs,u.oneCell'=true:=by
 intro u hu;obtain⟨r,_,hu⟩:=YE.1 hu;simp at hu;rcases hu with rfl|rfl<;>rfl
theorem zIe{cs:List Cel}{j:Nat}(h:j<cs.length):(ccs cs)[j*2]? =some (.string (st cs[j].1))/\(ccs cs)[j*2+1]? =some (.string (st cs[j].2)):=by
 induction cs generalizing j with
 |nil=>simp at h
 |cons r rs ih=>
  rcases j with _|j
  .simp [ccs]
  .have:=ih (j:=j) (by simpa using h);simp only [ccs,yb]at this ⊢;rw [show(j+1)*2=j*2+1+1 by omega];simpa using this
theorem z53:∀ (rs:List Cel) (k:Nat),(ccs rs).take (k*2)=ccs (rs.take k)
 | [],k=>by simp [ccs]
 |r::rs,0=>by simp [ccs]
 |r::rs,k+1=>by
  have:=z53 rs k;rw [QK,Nat.one_mul];simp only [ccs,yb,Zx]at this ⊢;simpa using this
theorem z52:∀ (rs:List Cel) (k:Nat),(ccs rs).drop (k*2)=ccs (rs.drop k)
 | [],k=>by simp [ccs]
 |r::rs,0=>by simp [ccs]
 |r::rs,k+1=>by
  have:=z52 rs k;rw [QK,Nat.one_mul];simp only [ccs,yb,Yr]at this ⊢;simpa using this
def Cs(S:Nat->Prop)(w:World)(v:Value)(cs:List Cel):Prop:=Sl S w 2 v cs.length (ccs cs)
def Co(w:World)(B:Nat)(v:Value)(cs:List Cel):Prop:=w.ownsRow B 94 2 v cs.length (ccs cs)
theorem Co.cs{w:World}{B:Nat}{v:Value}{cs:List Cel}(h:Co w B v cs):Cs (fun b=>B<=b/\b<w.heap.size) w v cs:=Sl.of_own (by omega) h
theorem Cs.lt{S:Nat->Prop}{w:World}{v:Value}{cs:List Cel}(h:Cs S w v cs):Cs (fun b=>b<w.heap.size) w v cs:=(Sl.lt h (by omega)).more fun _ h=>h.2
theorem Cs.later{w w':World}{v:Value}{cs:List Cel}(h:Cs (fun b=>b<w.heap.size) w v cs)(hb:Below w.heap.size w w'):Cs (fun b=>b<w.heap.size) w' v cs:=Sl.below h hb fun _ h=>h
theorem Cs.up{w w':World}{v:Value}{cs:List Cel}(h:Cs (fun b=>b<w.heap.size) w v cs)(hb:Below w.heap.size w w'):Cs (fun b=>b<w'.heap.size) w' v cs:=(h.later hb).more fun _ h=>yE h hb.size
theorem Cs.at{S:Nat->Prop}{w:World}{v:Value}{cs:List Cel}(h:Cs S w v cs):∃A c,v= .slice A cs.length c/\cs.length<=c/\c<=maxLen/\(A=none->c=0)/\
 (0<cs.length->∃b o,A=some ⟨b,o,none⟩/\S b/\∀j (hj:j<cs.length),w.cell? ⟨b,o+j*2,none⟩=some (.string (st cs[j].1))/\w.cell? ⟨b,o+j*2+1,none⟩=some (.string (st cs[j].2))):=by
 obtain⟨_,A,c,h2,h3,h4,h5,h6⟩:=h;refine⟨A,c,h2,h3,h4,h5,fun hn=> ?_⟩;obtain⟨b,o,ha,hs,hc⟩:=h6 hn;refine⟨b,o,ha,hs,fun j hj=>⟨hc _ _ (zIe hj).1,?_⟩⟩;rw [Z4];exact hc _ _ (zIe hj).2
theorem Cs.pre{S:Nat->Prop}{w:World}{cs:List Cel}{A:Option Addr}{c:Nat}(h:Cs S w (.slice A cs.length c) cs){k:Nat}(hk:k<=cs.length):Cs S w (.slice A k c) (cs.take k):=by
 have hl:(cs.take k).length=k:=by rw [yC];omega
 obtain⟨h1,A',c',hv,h3,h4,h5,h6⟩:=h;injection hv with hA _ hc
 subst hA hc;unfold Cs;rw [hl,<-z53];refine⟨by rw [yC,h1,Ye (YP _ hk)],A,c,rfl,by omega,h4,h5,fun hn=> ?_⟩;obtain⟨b,o,hA,hS,hcell⟩:=h6 (by omega);refine⟨b,o,hA,hS,fun j u hu=>hcell j u ?_⟩;have hj:=(yg.1 hu).1;rw [yC]at hj
 rwa [Yy (by omega)]at hu
theorem Cs.cut{S:Nat->Prop}{w:World}{cs:List Cel}{b o c:Nat}(h:Cs S w (.slice (some ⟨b,o,none⟩) cs.length c) cs){k:Nat}(hk:k<=cs.length):
 Cs S w (.slice (if c=k then some ⟨b,o,none⟩else some ⟨b,o+k*2,none⟩) (cs.length-k) (c-k)) (cs.drop k):=by
 obtain⟨h1,A',c',hv,h3,h4,h5,h6⟩:=h;injection hv with hA _ hc
 subst hA hc;unfold Cs;rw [yI,<-z52];refine⟨by rw [yI,h1,Nat.sub_mul],_,c-k,rfl,by omega,by omega,(fun hn=>by split at hn<;>cases hn),fun hn=> ?_⟩;obtain⟨b',o',hA,hS,hcell⟩:=h6 (by omega);injection hA with hA
 injection hA with hb ho
 subst hb ho;rw [yA (by omega)];refine⟨b,o+k*2,rfl,hS,fun j u hu=> ?_⟩;rw [Yj]at hu;rw [Z4];exact hcell _ u hu
theorem z1Q:z1W prog 175 3:=⟨⟨_,underlying175⟩,by kernel_rfl⟩
theorem elemCel:Elem prog 53 94 (.agg #[.string ⟨#[]⟩,.string ⟨#[]⟩]) 2 32:=Elem.mk' underlying53 (by kernel_rfl) rfl (by omega)
end
end Go.Proofs.YthnlcbamjehpdaaGreatDoor
