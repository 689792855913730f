/- Part 11. -/
import Derived.Test.YthbhkdhljlganaaGreatDoorStoreWholeJ4
import Derived.Laws.CopyRow
import Derived.Lib.Overlaps
import Derived.Shelf.Spec.SlicesInsert
import Derived.Deep.Cut
import Derived.Deep.DeepCutAuto
import Derived.Laws.Externs
import Derived.ArgAppend
namespace Go.Proofs.YthbhkdhljlganaaGreatDoor
set_option linter.unusedVariables false
set_option maxHeartbeats 16000000
set_option maxRecDepth 100000
section
open Go Go.RowKit
section
variable (P:Program)
theorem z2L(w:World)(dT sT ty elem:TypeId)(g o dLen dCap:Nat)(a:Addr)(sLen sCap sz:Nat)(cur:Array Value)(t:TypeId)(cs:List Value)
 (hu:P.underlying dT=some (.slice elem)) (hs:(P.info? elem).map (·.size)=some sz)
 (hg:w.heap[g]? =some (.cells cur t (0,0))) (hn:cs.length=Nat.min sLen dLen*sz)
 (hsrc:∀j v,cs[j]? =some v→w.cell? (a.add j)=some v) (hfit:o+cs.length≤cur.size) (h1:∀v∈cs,v.oneCell'=true):
 (Builtin.copy_ #[dT,sT] ty #[.slice (some ⟨g,o,none⟩) dLen dCap,.slice (some a) sLen sCap]).run P w=
   .ok (goInt (Nat.min sLen dLen)) (w.setRow g (cur.toList.take o++cs++cur.toList.drop (o+cs.length)).toArray):=by
 have hl:=run_loadCells_list (P:=P) w a cs hsrc;have hst:=run_storeCells_at P g o t cs 0 cur w hg (by simpa using hfit) h1;cases hq:P.info? elem with
 |none=>simp [hq]at hs
 |some i=>
  have hi:i.size=sz:=by simpa [hq]using hs
  simp [Builtin.copy_,run_underlying hu,Builtin.lenOf,Builtin.firstCells,sizeOf,typeInfo,hq,hi,←hn,hl,hst]
theorem z4N(w:World)(t tn ty e:TypeId)(i:TypeInfo)(z:Value)(k kn:IntKind)(ht:P.underlying t=some (.slice e))(htn:P.underlying tn=some (.int kn))(hi:P.info? e=some i)(hz:i.zero=some z)
 (base:Option Addr) (sLen sCap:Nat) (olds:List Value) (hold:(Builtin.firstCells i.size sLen (.slice base sLen sCap)).run P w.drew= .ok olds.toArray w.drew)
 (n:Nat) (h0:0<n) (hs:0<i.size) (hg:sCap<sLen+n) (h63:((sLen+n:Nat):Int)≤9223372036854775807) (h48:n*i.bytes≤281474976710656) (hfit:Builtin.nextslicecap (sLen+n) sCap*i.bytes≤281474976710656):
 (Builtin.append_ #[t,tn] ty #[.slice base sLen sCap,.int k n]).run P w=
   .ok (.slice (some ⟨w.heap.size,0,none⟩) (sLen+n) (grownCap w (sLen+n) sCap e))
     (w.drew.alloc (.cells (olds.toArray++Builtin.zeroCells z.cells n++Builtin.zeroCells z.cells (grownCap w (sLen+n) sCap e-(sLen+n))) e)):=by
 have hw:IntKind.i64.wrap (n:Int)=n:=by rw [IntKind.wrap_i64];omega
 have hn2:¬ (sLen+n≤sCap):=by omega
 have h63':¬ (9223372036854775807<((sLen:Int)+(n:Int))):=by omega
 have h48':¬ (281474976710656<Builtin.nextslicecap (sLen+n) sCap*i.bytes):=by omega
 have h48i:¬ (281474976710656<(n:Int)*(i.bytes:Int)):=by
  rw [←Int.natCast_mul];omega
 have hneg:¬ ((n:Int)<0):=by omega
 have hns:¬ (n*i.size=0):=Nat.mul_ne_zero (by omega) (by omega);simp [Builtin.append_,run_underlying ht,run_underlying htn,sizeOf,typeInfo,zeroValue,hi,hz,asInt,asIntOf,hw,hn2,hneg,hns,h63',h48',h48i,Question.forced,hold,newRow,grownCap]
end
theorem zIc(R X Y:List Value)(o:Nat)(h:o+X.length+Y.length≤R.length):
 (((R.take o++X++R.drop (o+X.length)).take (o+X.length)++Y++(R.take o++X++R.drop (o+X.length)).drop (o+X.length+Y.length))).take (o+X.length+Y.length)=R.take o++X++Y:=by
 have h1:(R.take o++X++R.drop (o+X.length)).take (o+X.length)=R.take o++X:=by
  rw [List.take_left' (by rw [List.length_append,List.length_take];omega)]
 rw [h1];rw [List.take_left' (by simp only [List.length_append,List.length_take];omega)]
theorem zHl(R X Y:List Value)(o:Nat)(h:o+X.length+Y.length≤R.length):
 (((R.take (o+X.length)++Y++R.drop (o+X.length+Y.length)).take o++X++(R.take (o+X.length)++Y++R.drop (o+X.length+Y.length)).drop (o+X.length))).take (o+X.length+Y.length)=R.take o++X++Y:=by
 have h1:(R.take (o+X.length)++Y++R.drop (o+X.length+Y.length)).take o=R.take o:=by
  rw [List.append_assoc,List.take_append_of_le_length (by rw [List.length_take];omega),List.take_take,Nat.min_eq_left (by omega)]
 have h2:(R.take (o+X.length)++Y++R.drop (o+X.length+Y.length)).drop (o+X.length)=Y++R.drop (o+X.length+Y.length):=by
  rw [List.append_assoc,List.drop_left' (by rw [List.length_take];omega)]
 rw [h1,h2];rw [show R.take o++X++(Y++R.drop (o+X.length+Y.length))=(R.take o++X++Y)++R.drop (o+X.length+Y.length) by simp only [List.append_assoc],List.take_left' (by simp only [List.length_append,List.length_take];omega)]
theorem z9b:(Tryz.prog.info? 81).map (·.size)=some 2:=by
 obtain⟨i0,hi,hz,hsz,hby⟩:=elemCel.info;rw [hi];simp [hsz]
theorem z39(x:Cel):∀y∈ccs [x],y.oneCell'=true:=z3A [x]
theorem Sl.celBlk{w:World}{vb:Nat}{x:Cel}(h:Blk w vb 81 #[.string (st x.1),.string (st x.2)]):Sl (fun b=>b=vb) w 2 (.slice (some ⟨vb,0,none⟩) 1 1) 1 (ccs [x]):=by
 refine⟨rfl,some ⟨vb,0,none⟩,1,rfl,by omega,by simp [maxLen],(fun h=>by cases h),fun _=>⟨vb,0,rfl,rfl,fun j u hu=> ?_⟩⟩;rcases j with _|_|j
 ·cases hu;exact h.cell 0
 ·cases hu;exact h.cell 1
 ·simp [ccs]at hu
theorem zBi(B:Nat)(A:Option Addr)(c:Nat)(l:List Cel)(x:Cel)(vb:Nat)(w:World)(ho:Co w B (.slice A l.length c) l)(hx:Blk w vb 81 #[.string (st x.1),.string (st x.2)])(hl:l.length≤1000000)(hB:B≤w.heap.size):
 Calls Tryz.prog 108 #[.slice A l.length c,.int .i64 (l.length:Int),.slice (some ⟨vb,0,none⟩) 1 1] w fun e w'=>∃A' c',e= .returned (.slice A' (l.length+1) c')∧Co w' B (.slice A' (l.length+1) c') (l++ [x])∧Below B w w':=by
 have HO:=zz ho;have HX:=zz (Sl.celBlk hx);obtain⟨_,A',c',hv,hlc,hcm,hA0,_⟩:=ho.cs;cases hv
 have hM1:Hid (l.length+1≤maxLen):=by simp only [Hid,maxLen];omega
 have hM2:Hid ((l.length+1)*32≤140737488355328):=by rw [Hid];omega
 have HB:=zz hB;clear ho hx hB hA0;go_enter Tryz.func108,Tryz.ntmps108
 go_wp2_with (at_builtin;refine z02 _ rfl (.tmp 23) (.tmp 24) elemCel rfl HO.out HX.out rfl rfl (z39 x) hM1.out hM2.out HB.out ?_;intro A5 k5 c5 w5 hown5 hg5 hat5)
 all_goals
  obtain rfl:=z0Q hown5;go_ret
  refine⟨A5,c5,rfl,?_,z01 (Below.refl _ _) HO.out hg5 HB.out⟩;unfold Co;rw [List.length_append,List.length_singleton,z0f];exact hown5
theorem zAh(B g cap:Nat)(cur:Array Value)(l:List Cel)(x:Cel)(i vb:Nat)(w:World)(hBg:B≤g)(hg:w.heap[g]? =some (.cells cur 81 (0,0)))(hcl:l.length≤cap)(hcm:cap≤maxLen)(hcs:cur.size=cap*2)(hct:cur.toList.take (l.length*2)=ccs l)
 (hx:Blk w vb 81 #[.string (st x.1),.string (st x.2)]) (hi:i<l.length) (hl:l.length≤1000000) (hB:B≤w.heap.size) (hroom:cap<l.length+1):
 Calls Tryz.prog 108 #[.slice (some ⟨g,0,none⟩) l.length cap,.int .i64 (i:Int),.slice (some ⟨vb,0,none⟩) 1 1] w fun e w'=>∃A' c',e= .returned (.slice A' (l.length+1) c')∧Co w' B (.slice A' (l.length+1) c') (l.take i++x::l.drop i)∧Below B w w':=by
 obtain⟨n,hn⟩:∃n,l.length=n:=⟨_,rfl⟩;rw [hn]at hcl hct hi hl hroom ⊢;obtain⟨i0,hinf,hz,hsz,hby⟩:=elemCel.info;have hcelg:∀j v,(ccs l)[j]? =some v→w.cell? ⟨g,j,none⟩=some v:=fun j v hj=>by
  rw [←hct]at hj;have h1:=(List.getElem?_eq_some_iff.1 hj).1;rw [List.length_take,Array.length_toList]at h1;rw [List.getElem?_take_of_lt (by omega),Array.getElem?_toList]at hj;simp [World.cell?,hg,hj]
 have hold:(Builtin.firstCells i0.size i (.slice (some ⟨g,0,none⟩) i cap)).run Tryz.prog w.drew= .ok (ccs (l.take i)).toArray w.drew:=by
  rw [hsz];refine run_firstCells_some w.drew 2 i ⟨g,0,none⟩ i cap (ccs (l.take i)) (by rw [z1b,List.length_take];omega) (fun j v hj=> ?_);rw [Addr.add_lit,Nat.zero_add];refine hcelg j v ?_;rw [←z50]at hj;have h1:=(List.getElem?_eq_some_iff.1 hj).1;rw [List.length_take]at h1
  rwa [List.getElem?_take_of_lt (by omega)]at hj
 have hap:=fun ty=>z4N Tryz.prog w 34 3 ty 81 i0 (.agg #[.string ⟨#[]⟩,.string ⟨#[]⟩]) .i64 .i64 Tryz.underlying34 Tryz.underlying3 hinf hz (some ⟨g,0,none⟩) i cap (ccs (l.take i)) hold (n+1-i) (by omega) (by omega) (by omega) (by omega) (by rw [hby];omega) (by rw [hby];exact growslice_fits (by omega) (by omega))
 have hni:(n:Int)+1-(i:Int)=((n+1-i:Nat):Int):=by omega
 have hin:i+(n+1-i)=n+1:=by omega
 rw [hin]at hap;obtain⟨cap',hcap'⟩:∃cap',grownCap w (n+1) cap 81=cap':=⟨_,rfl⟩;have hge:n+1≤cap':=by rw [←hcap'];exact grownCap_ge w (n+1) cap 81
 have hlm:cap'≤maxLen:=by rw [←hcap'];exact grownCap_le_maxLen w (n+1) cap 81 (by simp only [maxLen];omega)
 rw [hcap']at hap;obtain⟨row,hrow⟩:∃row,(ccs (l.take i)).toArray++Builtin.zeroCells (Value.agg #[.string ⟨#[]⟩,.string ⟨#[]⟩]).cells (n+1-i)++Builtin.zeroCells (Value.agg #[.string ⟨#[]⟩,.string ⟨#[]⟩]).cells (cap'-(n+1))=row:=⟨_,rfl⟩;have hrs:row.size=cap'*2:=by
  rw [←hrow];simp only [Builtin.zeroCells,Array.size_append,Array.size_map,Array.size_range,List.size_toArray,z1b,List.length_take,hn];show min i n*2+(n+1-i)*2+(cap'-(n+1))*2=cap'*2;rw [Nat.min_eq_left (by omega)];omega
 have hrt:row.toList.take (i*2)=ccs (l.take i):=by
  rw [←hrow,Array.toList_append,Array.toList_append,List.append_assoc,List.take_append_of_le_length (by simp only [z1b,List.length_take];omega),List.take_of_length_le (by simp only [z1b,List.length_take];omega)]
 rw [hrow]at hap;have hne1:¬ (cap=i):=by omega
 have hne2:¬ (cap'=i):=by omega
 have hne3:¬ (cap'=i+1):=by omega
 have hz2:¬ ((i:Int)=(n:Int)):=by omega
 have hw1:IntKind.i64.wrap ((n:Int)+1-(i:Int))=((n+1-i:Nat):Int):=by rw [hni,IntKind.wrap_i64];omega
 have hw2:IntKind.i64.wrap ((n:Int)+1)=(n:Int)+1:=by rw [IntKind.wrap_i64];omega
 have hw3:IntKind.i64.wrap ((i:Int)+1)=(i:Int)+1:=by rw [IntKind.wrap_i64];omega
 have hgi:(cap:Int)<(n:Int)+1:=by omega
 have hii:(i:Int)≤(cap:Int):=by omega
 have hij:(i:Int)≤(n:Int):=by omega
 have hx0:=hx.cell 0;have hvw:vb<w.heap.size:=hx.lt;have hgw:g<w.heap.size:=(Array.getElem?_eq_some_iff.1 hg).1;obtain⟨row1,hrow1⟩:∃row1,(row.toList.take (i*2)++ccs [x]++row.toList.drop (i*2+(ccs [x]).length)).toArray=row1:=⟨_,rfl⟩;have hr1s:row1.size=cap'*2:=by
  rw [←hrow1];simp only [List.size_toArray,List.length_append,List.length_take,List.length_drop,Array.length_toList,z1b,List.length_singleton];omega
 obtain⟨W1,hW1⟩:∃W1,w.drew.alloc (.cells row 81)=W1:=⟨_,rfl⟩;have hb1:Below w.heap.size w W1:=by rw [←hW1];exact(Below.refl _ _).drew.alloc (Nat.le_refl _) _
 have hg1:W1.heap[w.heap.size]? =some (.cells row 81 (0,0)):=by rw [←hW1];show(w.heap.push _)[w.heap.size]? =_;simp
 have hc1:=fun ty dc=>z2L Tryz.prog W1 34 34 ty 81 w.heap.size (i*2) (n+1-i) dc ⟨vb,0,none⟩ 1 1 2 row 81 (ccs [x]) Tryz.underlying34 z9b hg1 (by rw [show Nat.min 1 (n+1-i)=1 from Nat.min_eq_left (by omega)];rfl)
  (fun j v hj=>by rw [Addr.add_lit];obtain⟨_,_,_,hv,_,_,_,h6⟩:=Sl.celBlk (x:=x) (hx.later hb1);obtain⟨b',o',ha,_,hcell⟩:=h6 (by omega);cases hv;cases ha;exact hcell j v hj)
  (by rw [z1b,List.length_singleton,hrs];omega) (z39 x)
 rw [hrow1,show Nat.min 1 (n+1-i)=1 from Nat.min_eq_left (by omega)]at hc1;obtain⟨W2,hW2⟩:∃W2,W1.setRow w.heap.size row1=W2:=⟨_,rfl⟩;have hb2:Below w.heap.size w W2:=by rw [←hW2];exact z0t hb1 (Nat.le_refl _) _
 have hg2:W2.heap[w.heap.size]? =some (.cells row1 81 (0,0)):=by rw [←hW2];exact setRow_heap _ _ _ _ _ _ hg1
 rw [hW2]at hc1;have HW1:=zz hW1;clear hx0;rw [hW1]at hap;have HAP:=zz hap;clear hap hold;go_enter Tryz.func108,Tryz.ntmps108
 go_wp2_with (at_builtin;refine Lib.wpList_append_run _ rfl (.tmp 34) (.tmp 39) _ _ rfl _ _ rfl rfl _ _ (HAP.out _) ?_)
 obtain⟨row2,hrow2⟩:∃row2,(row1.toList.take ((i+1)*2)++ccs (l.drop i)++row1.toList.drop ((i+1)*2+(ccs (l.drop i)).length)).toArray=row2:=⟨_,rfl⟩;have hdl:(ccs (l.drop i)).length=(n-i)*2:=by rw [z1b,List.length_drop,hn]
 have hc2:=fun ty dc sc=>z2L Tryz.prog W2.drew 34 34 ty 81 w.heap.size ((i+1)*2) (n-i) dc ⟨g,i*2,none⟩ (n-i) sc 2 row1 81 (ccs (l.drop i)) Tryz.underlying34 z9b (by show W2.heap[w.heap.size]? =_;exact hg2) (by rw [show Nat.min (n-i) (n-i)=n-i from Nat.min_self _];exact hdl)
  (fun j v hj=>by
    rw [Addr.add_lit];have h9:w.cell? ⟨g,i*2+j,none⟩=some v:=hcelg _ v (by rw [←z56,List.getElem?_drop]at hj;exact hj);exact cell_later hb2.drew h9)
  (by rw [hdl,hr1s];omega) (z3A _)
 rw [hrow2,show Nat.min (n-i) (n-i)=n-i from Nat.min_self _]at hc2;obtain⟨W3,hW3⟩:∃W3,W2.drew.setRow w.heap.size row2=W3:=⟨_,rfl⟩;have hb3:Below w.heap.size w W3:=by rw [←hW3];exact z0t hb2.drew (Nat.le_refl _) _
 have hg3:W3.heap[w.heap.size]? =some (.cells row2 81 (0,0)):=by rw [←hW3];exact setRow_heap W2.drew _ _ _ _ _ (by show W2.heap[w.heap.size]? =_;exact hg2)
 rw [hW3]at hc2;have hb0:(0:Int)≤(i:Int)+1:=by omega
 have hbn:(i:Int)+1≤(n:Int)+1:=by omega
 have htn:((i:Int)+1).toNat=i+1:=by omega
 have hbk:i+1≤n+1:=by omega
 clear hcelg;go_region_law (fail)
 go_wp2_with fail
 go_ret
 have hlen:(l.take i++x::l.drop i).length=n+1:=by rw [List.length_append,List.length_cons,List.length_take,List.length_drop];omega
 have hsp:ccs (l.take i++x::l.drop i)=ccs (l.take i)++ccs [x]++ccs (l.drop i):=by rw [show l.take i++x::l.drop i=l.take i++([x]++l.drop i)from rfl,z0f,z0f,List.append_assoc]
 refine⟨some ⟨w.heap.size,0,none⟩,cap',rfl,?_,hb3.mono hB⟩;unfold Co;rw [hlen];refine⟨by rw [z1b,hlen],.inr ⟨w.heap.size,cap',row2,rfl,hB,hg3,hge,hlm,?_,?_⟩⟩
 ·rw [←hrow2];simp only [List.size_toArray,List.length_append,List.length_take,List.length_drop,Array.length_toList,hdl];omega
 ·have hX:(ccs [x]).length=2:=rfl;have h2:=zIc row.toList (ccs [x]) (ccs (l.drop i)) (i*2) (by rw [hX,hdl,Array.length_toList,hrs];omega);rw [hX,hdl,show i*2+2=(i+1)*2 by omega,show(i+1)*2+(n-i)*2=(n+1)*2 by omega]at h2;rw [hsp,←hrt,←h2,←hrow2,←hrow1,hdl,hX];simp only [show i*2+2=(i+1)*2 by omega,show(i+1)*2+(n-i)*2=(n+1)*2 by omega]
theorem zA2(B g cap:Nat)(cur:Array Value)(l:List Cel)(x:Cel)(i vb:Nat)(w:World)(hBg:B≤g)(hg:w.heap[g]? =some (.cells cur 81 (0,0)))(hcm:cap≤maxLen)(hcs:cur.size=cap*2)(hct:cur.toList.take (l.length*2)=ccs l)
 (hx:Blk w vb 81 #[.string (st x.1),.string (st x.2)]) (hne:vb≠g) (hi:i<l.length) (hl:l.length≤1000000) (hroom:l.length+1≤cap):
 Calls Tryz.prog 108 #[.slice (some ⟨g,0,none⟩) l.length cap,.int .i64 (i:Int),.slice (some ⟨vb,0,none⟩) 1 1] w fun e w'=>∃A' c',e= .returned (.slice A' (l.length+1) c')∧Co w' B (.slice A' (l.length+1) c') (l.take i++x::l.drop i)∧Below B w w':=by
 obtain⟨n,hn⟩:∃n,l.length=n:=⟨_,rfl⟩;rw [hn]at hct hi hl hroom ⊢;have hcelg:∀j v,(ccs l)[j]? =some v→w.cell? ⟨g,j,none⟩=some v:=fun j v hj=>by
  rw [←hct]at hj;have h1:=(List.getElem?_eq_some_iff.1 hj).1;rw [List.length_take,Array.length_toList]at h1;rw [List.getElem?_take_of_lt (by omega),Array.getElem?_toList]at hj;simp [World.cell?,hg,hj]
 have hov:∀lb cb,(callFunc 139 #[.slice (some ⟨vb,0,none⟩) 1 1,.slice (some ⟨g,(i+1)*2,none⟩) lb cb]).run Tryz.prog w= .ok (.value (.bool false)) w:=fun lb cb=>by
  rw [run_callFunc_extern Tryz.func139 (by kernel_rfl) (by kernel_rfl) (by kernel_rfl) (e:=Extern.SlicesOverlaps.overlaps #[34,34] #[4]) (by kernel_rfl),
   Lib.run_overlaps_apart w 34 4 81 Tryz.underlying34 2 (fun _=>by rfl) ⟨vb,0,none⟩ ⟨g,(i+1)*2,none⟩ 1 1 lb cb hne 81 81 2 cur.size (by unfold Blk at hx;simp [World.shape?,hx]) (by simp [World.shape?,hg]) (by rw [hcs];omega) (hx.free 0) (by unfold Blk at hx;simp [World.frozen?,hx])]
  rfl
 have hdl:(ccs (l.drop i)).length=(n-i)*2:=by rw [z1b,List.length_drop,hn]
 have hX:(ccs [x]).length=2:=rfl;obtain⟨row1,hrow1⟩:∃row1,(cur.toList.take ((i+1)*2)++ccs (l.drop i)++cur.toList.drop ((i+1)*2+(ccs (l.drop i)).length)).toArray=row1:=⟨_,rfl⟩;have hr1s:row1.size=cap*2:=by
  rw [←hrow1];simp only [List.size_toArray,List.length_append,List.length_take,List.length_drop,Array.length_toList,hdl];omega
 have hc1:=fun ty dc sc=>z2L Tryz.prog w.drew 34 34 ty 81 g ((i+1)*2) (n-i) dc ⟨g,i*2,none⟩ (n+1-i) sc 2 cur 81 (ccs (l.drop i)) Tryz.underlying34 z9b (by show w.heap[g]? =_;exact hg) (by rw [show Nat.min (n+1-i) (n-i)=n-i from Nat.min_eq_right (by omega)];exact hdl)
  (fun j v hj=>by
    rw [Addr.add_lit];exact hcelg (i*2+j) v (by rw [←z56,List.getElem?_drop]at hj;exact hj))
  (by rw [hdl,hcs];omega) (z3A _)
 rw [hrow1,show Nat.min (n+1-i) (n-i)=n-i from Nat.min_eq_right (by omega)]at hc1;obtain⟨W2,hW2⟩:∃W2,w.drew.setRow g row1=W2:=⟨_,rfl⟩;have hb2:Below B w W2:=by rw [←hW2];exact z0t (Below.refl _ _).drew hBg _
 have hg2:W2.heap[g]? =some (.cells row1 81 (0,0)):=by rw [←hW2];exact setRow_heap w.drew _ _ _ _ _ (by show w.heap[g]? =_;exact hg)
 have hx2:Blk W2 vb 81 #[.string (st x.1),.string (st x.2)]:=by
  rw [←hW2];unfold Blk at hx ⊢;show(w.heap.modify g _)[vb]? =_;rw [Array.getElem?_modify,if_neg (Ne.symm hne)];exact hx
 rw [hW2]at hc1;obtain⟨row2,hrow2⟩:∃row2,(row1.toList.take (i*2)++ccs [x]++row1.toList.drop (i*2+(ccs [x]).length)).toArray=row2:=⟨_,rfl⟩;have hc2:=fun ty dc=>z2L Tryz.prog W2 34 34 ty 81 g (i*2) (n+1-i) dc ⟨vb,0,none⟩ 1 1 2 row1 81 (ccs [x]) Tryz.underlying34 z9b hg2 (by rw [show Nat.min 1 (n+1-i)=1 from Nat.min_eq_left (by omega)];rfl)
  (fun j v hj=>by rw [Addr.add_lit];obtain⟨_,_,_,hv,_,_,_,h6⟩:=Sl.celBlk (x:=x) hx2;obtain⟨b',o',ha,_,hcell⟩:=h6 (by omega);cases hv;cases ha;exact hcell j v hj)
  (by rw [hX,hr1s];omega) (z39 x)
 rw [hrow2,show Nat.min 1 (n+1-i)=1 from Nat.min_eq_left (by omega)]at hc2;obtain⟨W3,hW3⟩:∃W3,W2.setRow g row2=W3:=⟨_,rfl⟩;have hb3:Below B w W3:=by rw [←hW3];exact z0t hb2 hBg _
 have hg3:W3.heap[g]? =some (.cells row2 81 (0,0)):=by rw [←hW3];exact setRow_heap W2 _ _ _ _ _ hg2
 rw [hW3]at hc2;have hne1:¬ (cap=i):=by omega
 have hne3:¬ (cap=i+1):=by omega
 have hz2:¬ ((i:Int)=(n:Int)):=by omega
 have hw2:IntKind.i64.wrap ((n:Int)+1)=(n:Int)+1:=by rw [IntKind.wrap_i64];omega
 have hw3:IntKind.i64.wrap ((i:Int)+1)=(i:Int)+1:=by rw [IntKind.wrap_i64];omega
 have hgi:¬ (cap:Int)<(n:Int)+1:=by omega
 have hgj:(n:Int)+1≤(cap:Int):=by omega
 have hnn:(0:Int)≤(n:Int)+1:=by omega
 have htm:((n:Int)+1).toNat=n+1:=by omega
 have hii:(i:Int)≤(cap:Int):=by omega
 have hij:(i:Int)≤(n:Int):=by omega
 have hik:(i:Int)≤(n:Int)+1:=by omega
 have hb0:(0:Int)≤(i:Int)+1:=by omega
 have hbn:(i:Int)+1≤(n:Int)+1:=by omega
 have htn:((i:Int)+1).toNat=i+1:=by omega
 have hbk:i+1≤n+1:=by omega
 have hbi:i≤n+1:=by omega
 clear hcelg;go_enter Tryz.func108,Tryz.ntmps108
 go_wp2_with (simp only [hov])
 go_region_law (fail)
 go_wp2_with fail
 go_ret
 have hlen:(l.take i++x::l.drop i).length=n+1:=by rw [List.length_append,List.length_cons,List.length_take,List.length_drop];omega
 have hsp:ccs (l.take i++x::l.drop i)=ccs (l.take i)++ccs [x]++ccs (l.drop i):=by rw [show l.take i++x::l.drop i=l.take i++([x]++l.drop i)from rfl,z0f,z0f,List.append_assoc]
 refine⟨some ⟨g,0,none⟩,cap,rfl,?_,hb3⟩;unfold Co;rw [hlen];refine⟨by rw [z1b,hlen],.inr ⟨g,cap,row2,rfl,hBg,hg3,hroom,hcm,?_,?_⟩⟩
 ·rw [←hrow2];simp only [List.size_toArray,List.length_append,List.length_take,List.length_drop,Array.length_toList,hX];omega
 ·have hrt:cur.toList.take (i*2)=ccs (l.take i):=by
   have h9:=congrArg (List.take (i*2)) hct;rw [List.take_take,Nat.min_eq_left (by omega),z50]at h9;exact h9
  have h2:=zHl cur.toList (ccs [x]) (ccs (l.drop i)) (i*2) (by rw [hX,hdl,Array.length_toList,hcs];omega);rw [hX,hdl,show i*2+2=(i+1)*2 by omega,show(i+1)*2+(n-i)*2=(n+1)*2 by omega]at h2;rw [hsp,←hrt,←h2,←hrow2,←hrow1,hdl,hX];simp only [show i*2+2=(i+1)*2 by omega,show(i+1)*2+(n-i)*2=(n+1)*2 by omega]
theorem zBp(B:Nat)(A:Option Addr)(c:Nat)(l:List Cel)(x:Cel)(i vb:Nat)(w:World)(ho:Co w B (.slice A l.length c) l)(hx:Blk w vb 81 #[.string (st x.1),.string (st x.2)])(hne:∀g,A=some ⟨g,0,none⟩→vb≠g)(hi:i≤l.length)(hl:l.length≤1000000)(hB:B≤w.heap.size):
 Calls Tryz.prog 108 #[.slice A l.length c,.int .i64 (i:Int),.slice (some ⟨vb,0,none⟩) 1 1] w fun e w'=>∃A' c',e= .returned (.slice A' (l.length+1) c')∧Co w' B (.slice A' (l.length+1) c') (l.take i++x::l.drop i)∧Below B w w':=by
 by_cases he:i=l.length
 ·subst he;rw [List.take_length,List.drop_length];exact zBi B A c l x vb w ho hx hl hB
 ·rcases ho.2 with⟨h2,h3⟩|⟨g,cap,cur,h2,hBg,hg,hnc,hcm,hcs,hct⟩
  ·omega
  ·injection h2 with h4 _ h5
   subst h4 h5;by_cases hr:c<l.length+1
   ·exact zAh B g c cur l x i vb w hBg hg hnc hcm hcs hct hx (by omega) hl hB hr
   ·exact zA2 B g c cur l x i vb w hBg hg hcm hcs hct hx (hne g rfl) (by omega) hl (by omega)
theorem zEW:∀ (cs:List Cel) (i:Nat) (x:Cel),ccs (cs.set i x)=((ccs cs).set (i*2) (.string (st x.1))).set (i*2+1) (.string (st x.2))
 | [],i,x=>by simp [ccs]
 |c::cs,0,x=>by simp [ccs]
 |c::cs,i+1,x=>by
  have ih:=zEW cs i x;unfold ccs at ih ⊢;rw [List.set_cons_succ,List.flatMap_cons,List.flatMap_cons,ih,show(i+1)*2=i*2+1+1 by omega];rfl
theorem Co.set{w:World}{B g cap:Nat}{cs:List Cel}(h:Co w B (.slice (some ⟨g,0,none⟩) cs.length cap) cs){i:Nat}(hi:i<cs.length)(x:Cel):
 Co ((w.setCell ⟨g,i*2,none⟩ (.string (st x.1))).setCell ⟨g,i*2+1,none⟩ (.string (st x.2))) B (.slice (some ⟨g,0,none⟩) cs.length cap) (cs.set i x):=by
 obtain⟨h1,h2⟩:=h;rcases h2 with⟨h2,h3⟩|⟨g',cap',cur,hv,hBg,hg,hnc,hcm,hcs,hct⟩
 ·cases h2
 ·injection hv with h4 _ h5
  injection h4 with h4
  injection h4 with h4
  subst h4 h5;unfold Co;rw [List.length_set];refine⟨by rw [z1b,List.length_set],.inr ⟨g,cap,(cur.setIfInBounds (i*2) (.string (st x.1))).setIfInBounds (i*2+1) (.string (st x.2)),rfl,hBg,?_,hnc,hcm,by simp [hcs],?_⟩⟩
  ·exact heap_setCell_same _ g (i*2+1) _ _ _ (heap_setCell_same w g (i*2) cur _ _ hg)
  ·rw [Array.toList_setIfInBounds,Array.toList_setIfInBounds,List.take_set,List.take_set,hct,zEW]
theorem Co.at{w:World}{B:Nat}{v:Value}{cs:List Cel}(h:Co w B v cs)(h0:0<cs.length):∃g cap,v= .slice (some ⟨g,0,none⟩) cs.length cap∧B≤g∧cs.length≤cap∧(∀i:Nat,i<cs.length→(∃y,w.cell? ⟨g,i*2,none⟩=some y)∧(∃y,w.cell? ⟨g,i*2+1,none⟩=some y))∧∀o,w.frozen? ⟨g,o,none⟩=false:=by
 obtain⟨h1,h2⟩:=h;rcases h2 with⟨h2,h3⟩|⟨g,cap,cur,hv,hBg,hg,hnc,hcm,hcs,hct⟩
 ·omega
 ·refine⟨g,cap,hv,hBg,hnc,fun i hi=>⟨?_,?_⟩,fun o=>by simp [World.frozen?,hg]⟩
  ·exact⟨cur[i*2]'(by omega),by simp only [World.cell?,hg];exact Array.getElem?_eq_getElem _⟩
  ·exact⟨cur[i*2+1]'(by omega),by simp only [World.cell?,hg];exact Array.getElem?_eq_getElem _⟩
theorem zFZ(S:Nat→Prop)(leaf:Bool)(next:Int)(v0:Value)(cs:List Cel)(k v:List UInt8)(w:World)(hr:Cs S w v0 cs)(hk:k.length≤65536)(hv:v.length≤65536)(hlong:480<k.length+v.length):
 Calls Tryz.prog 66 #[.agg #[.bool leaf,.int .i64 next,v0],.agg #[.string (st k),.string (st v)]] w fun e w'=>e= .returned (.tuple #[.agg #[.bool false,.int .i64 0,.slice none 0 0],.int .i64 100])∧Below w.heap.size w w':=by
 obtain⟨A,c,rfl,hlc,hcm,hA0,_⟩:=hr.at;clear hr;have hb2:Blk (((w.alloc (.cells #[.bool leaf,.int .i64 next,.slice A cs.length c] 36)).alloc (.cells #[.string (st k),.string (st v)] 81)).alloc (.cells #[.bool false,.int .i64 0,.slice none 0 0] 36)) (w.heap.size+1+1) 36 #[.bool false,.int .i64 0,.slice none 0 0]:=by
  have:=Blk.new1 (w.alloc (.cells #[.bool leaf,.int .i64 next,.slice A cs.length c] 36)) (.cells #[.string (st k),.string (st v)] 81) 36 #[.bool false,.int .i64 0,.slice none 0 0];simpa using this
 have hq:Below w.heap.size w (((w.alloc (.cells #[.bool leaf,.int .i64 next,.slice A cs.length c] 36)).alloc (.cells #[.string (st k),.string (st v)] 81)).alloc (.cells #[.bool false,.int .i64 0,.slice none 0 0] 36)):=(((Below.refl _ _).alloc (Nat.le_refl _) _).alloc (by simp) _).alloc (by simp;omega) _;go_enter Tryz.func66,Tryz.ntmps66
 go_wp2_with fail
 generalize hW:(((w.alloc (.cells #[.bool leaf,.int .i64 next,.slice A cs.length c] 36)).alloc (.cells #[.string (st k),.string (st v)] 81)).alloc (.cells #[.bool false,.int .i64 0,.slice none 0 0] 36))=W at*;clear hW;refine(z73 k v W hk hv).mono ?_;rintro e w1 ⟨rfl,hbl⟩;rw [decide_eq_true hlong];have hq2:=hq.trans (hbl.mono hq.size);have hb:=hb2.later hbl;have d0:(w1).cell? ⟨w.heap.size+1+1,0,none⟩=some (.bool false):=hb.cell 0;have d1:(w1).cell? ⟨w.heap.size+1+1,1,none⟩=some (.int .i64 0):=hb.cell 1;have d2:(w1).cell? ⟨w.heap.size+1+1,2,none⟩=some (.slice none 0 0):=hb.cell 2;have df0:(w1).frozen? ⟨w.heap.size+1+1,0,none⟩=false:=hb.free 0;have df1:(w1).frozen? ⟨w.heap.size+1+1,1,none⟩=false:=hb.free 1;have df2:(w1).frozen? ⟨w.heap.size+1+1,2,none⟩=false:=hb.free 2;have HB:=zz (hb.put3 (.bool false) (.int .i64 0) (.slice none 0 0));have HQ:=zz (z0Y hq2 (show w.heap.size≤w.heap.size+1+1 by omega) (.bool false) (.int .i64 0) (.slice none 0 0));clear hb2 hbl hb hq hq2;go_wp2_with fail
 exact bodyPost_ret (z0L rfl _ _ (w.heap.size+1+1) rfl HB.out z1I) rfl ⟨rfl,HQ.out⟩
theorem z6X(S:Nat→Prop)(leaf:Bool)(next:Int)(v0:Value)(cs:List Cel)(k v:List UInt8)(w:World)(hl:cs.length≤100000)(hr:Cs S w v0 cs)(hri:RisesP cs)(hs:k.length+v.length≤480):
 Calls Tryz.prog 66 #[.agg #[.bool leaf,.int .i64 next,v0],.agg #[.string (st k),.string (st v)]] w fun e w'=>∃vq,e= .returned (.tuple #[vq,.int .i64 0])∧PgIs w.heap.size w' vq leaf next (putC cs (k,v))∧Below w.heap.size w w':=by
 have HR:=zz hr.lt;obtain⟨A,c,rfl,hlc,hcm,hA0,_⟩:=hr.at;clear hr;have hb0:Blk (((w.alloc (.cells #[.bool leaf,.int .i64 next,.slice A cs.length c] 36)).alloc (.cells #[.string (st k),.string (st v)] 81)).alloc (.cells #[.bool false,.int .i64 0,.slice none 0 0] 36)) w.heap.size 36 #[.bool leaf,.int .i64 next,.slice A cs.length c]:=((Blk.new _ _ _).alloc _).alloc _;have hb1:Blk (((w.alloc (.cells #[.bool leaf,.int .i64 next,.slice A cs.length c] 36)).alloc (.cells #[.string (st k),.string (st v)] 81)).alloc (.cells #[.bool false,.int .i64 0,.slice none 0 0] 36)) (w.heap.size+1) 81 #[.string (st k),.string (st v)]:=(Blk.new1 _ _ _ _).alloc _;have hb2:Blk (((w.alloc (.cells #[.bool leaf,.int .i64 next,.slice A cs.length c] 36)).alloc (.cells #[.string (st k),.string (st v)] 81)).alloc (.cells #[.bool false,.int .i64 0,.slice none 0 0] 36)) (w.heap.size+1+1) 36 #[.bool false,.int .i64 0,.slice none 0 0]:=by
  have:=Blk.new1 (w.alloc (.cells #[.bool leaf,.int .i64 next,.slice A cs.length c] 36)) (.cells #[.string (st k),.string (st v)] 81) 36 #[.bool false,.int .i64 0,.slice none 0 0];simpa using this
 have hq:Below w.heap.size w (((w.alloc (.cells #[.bool leaf,.int .i64 next,.slice A cs.length c] 36)).alloc (.cells #[.string (st k),.string (st v)] 81)).alloc (.cells #[.bool false,.int .i64 0,.slice none 0 0] 36)):=(((Below.refl _ _).alloc (Nat.le_refl _) _).alloc (by simp) _).alloc (by simp;omega) _;go_enter Tryz.func66,Tryz.ntmps66
 go_wp2_with fail
 generalize hW:(((w.alloc (.cells #[.bool leaf,.int .i64 next,.slice A cs.length c] 36)).alloc (.cells #[.string (st k),.string (st v)] 81)).alloc (.cells #[.bool false,.int .i64 0,.slice none 0 0] 36))=W at*;clear hW;have hszW:=hq.size;refine(z73 k v W (by omega) (by omega)).mono ?_;rintro e w1 ⟨rfl,hbl⟩;rw [decide_eq_false (by omega)];have HR1:=zz (HR.out.up (hq.trans (hbl.mono hq.size)));have HQ1:=zz (hq.trans (hbl.mono hq.size));have b0:=hb0.later hbl;have b1:=hb1.later hbl;have B2:=zz (hb2.later hbl);clear hb0 hb1 hb2 hbl hq HR;have p0:(w1).cell? ⟨w.heap.size,0,none⟩=some (.bool leaf):=b0.cell 0;have p1:(w1).cell? ⟨w.heap.size,1,none⟩=some (.int .i64 next):=b0.cell 1;have p2:(w1).cell? ⟨w.heap.size,2,none⟩=some (.slice A cs.length c):=b0.cell 2;have q0:(w1).cell? ⟨w.heap.size+1,0,none⟩=some (.string (st k)):=b1.cell 0;have q1:(w1).cell? ⟨w.heap.size+1,1,none⟩=some (.string (st v)):=b1.cell 1;go_wp2_with fail
 refine(z4L _ leaf next _ cs k w1 (by omega) HR1.out hri).mono ?_;rintro e w2 ⟨rfl,hbl⟩;have HR2:=zz (HR1.out.up hbl);have HQ2:=zz (HQ1.out.trans (hbl.mono HQ1.out.size));have b0:=b0.later hbl;have b1:=b1.later hbl;have B2:=zz (B2.out.later hbl);have p0:=cell_later hbl p0;have p1:=cell_later hbl p1;have p2:=cell_later hbl p2;have q0:=cell_later hbl q0;have q1:=cell_later hbl q1;have B0:=zz b0;have hsz2:w.heap.size+1+1<w2.heap.size:=B2.out.lt;have HY:Hid (isK cs k=true→z03 cs k<cs.length∧putC cs (k,v)=cs.set (z03 cs k) (k,v)):=fun h=>⟨z7o h,zGT (c:=(k,v)) h⟩
 have HN:Hid (isK cs k=false→putC cs (k,v)=cs.take (z03 cs k)++(k,v)::cs.drop (z03 cs k)):=fun h=>zEu (c:=(k,v)) h
 have HPL:Hid ((putC cs (k,v)).length≤cs.length+1):=by have:=z3w cs (k,v);rw [Hid];omega
 have hK:=z1W cs k;generalize z03 cs k=K at*;generalize isK cs k=Y at*;generalize hOut:putC cs (k,v)=out at*;have HPC:=zz hOut;clear hOut;clear hbl HR1 HQ1 hri;go_wp2_with fail
 refine(z2Q _ _ cs w2 (by omega) HR2.out).mono ?_;rintro e w3 ⟨A3,c3,rfl,hco,hbl⟩;have HC:=zz hco;have HB3:=zz hbl;have b0:=b0.later hbl;have b1:=b1.later hbl;have p0:=cell_later hbl p0;have p1:=cell_later hbl p1;have p2:=cell_later hbl p2;have q0:=cell_later hbl q0;have q1:=cell_later hbl q1;have h32:=hbl.size;clear hbl hco;go_upto_if 22 with(fail)
 go_cut [8] (fun lv wx=>Hid (Co wx w2.heap.size lv out)∧Hid (Below w2.heap.size w2 wx))
 case first=>
  cases Y with
  |true=>
   obtain⟨hKl,ho⟩:=HY.out rfl;obtain⟨g,cap,hv3,hBg,hlc3,hcell,hfz⟩:=HC.out.at (by omega);injection hv3 with hA3 _ hc3
   subst hA3 hc3;obtain⟨⟨y1,hy1⟩,⟨y2,hy2⟩⟩:=hcell K hKl;have hf1:=hfz (K*2);have hf2:=hfz (K*2+1);have HS:Hid (Co ((w3.setCell ⟨g,K*2,none⟩ (.string (st k))).setCell ⟨g,K*2+1,none⟩ (.string (st v))) w2.heap.size (.slice (some ⟨g,0,none⟩) cs.length c3) out):=by rw [Hid,ho];exact HC.out.set hKl (k,v)
   have HBS:=zz ((HB3.out.setCell (p:=⟨g,K*2,none⟩) hBg (.string (st k))).setCell (p:=⟨g,K*2+1,none⟩) hBg (.string (st v)));have hk0:(0:Int)≤(K:Int):=by omega
   have hk1:(K:Int)<(cs.length:Int):=by omega
   have hgn:¬w.heap.size+1=g:=by omega
   clear hcell hfz ho HC HB3;go_wp2_with fail
   go_meet
   exact⟨HS,HBS⟩
  |false=>
   have ho:=HN.out rfl;have HNB:=zz (Blk.new w3 81 #[.string (st k),.string (st v)]);have HI:=zBp w2.heap.size A3 c3 cs (k,v) K w3.heap.size (w3.alloc (.cells #[.string (st k),.string (st v)] 81)) (HC.out.later ((Below.refl _ _).alloc (Nat.le_refl _) _)) HNB.out (fun g hg=>by
    obtain⟨-,hd⟩:=HC.out;rcases hd with⟨h2,h3⟩|⟨g',cap',cur,hv,hBg,hgg,-⟩
    ·injection h2 with h2;rw [h2]at hg;cases hg
    ·injection hv with h4
     rw [h4]at hg;injection hg with hg
     injection hg with hg
     have:=lt_of_block hgg;omega) hK (by omega) (by simp;omega)
   have HIH:=zz HI;have HOE:=zz ho;have HBA:=zz (HB3.out.alloc h32 (.cells #[.string (st k),.string (st v)] 81));clear HI ho;go_wp2_with fail
   refine HIH.out.mono ?_;rintro e w4 ⟨A4,c4,rfl,hco4,hbl4⟩;have HC4:Hid (Co w4 w2.heap.size (.slice A4 (cs.length+1) c4) out):=by rw [Hid,HOE.out];exact hco4
   have HB4:=zz (HBA.out.trans hbl4);clear hco4 hbl4;go_wp2_with fail
   go_meet
   exact⟨HC4,HB4⟩
 case rest=>
  obtain⟨HC,HB⟩:=hcut;have hcs:=HC.out.cs;obtain⟨A5,c5,rfl,-⟩:=hcs.at;have HCS:=zz hcs;clear hcs;generalize wc=w5 at*;have hb:=HB.out;clear p0 p1 p2 q0 q1 b0 b1 HC;have b0:=B0.out.later hb;have B2:=zz (B2.out.later hb);have HQ:=zz (HQ2.out.trans (hb.mono HQ2.out.size));have p0:(w5).cell? ⟨w.heap.size,0,none⟩=some (.bool leaf):=b0.cell 0;have p1:(w5).cell? ⟨w.heap.size,1,none⟩=some (.int .i64 next):=b0.cell 1;have p2:(w5).cell? ⟨w.heap.size,2,none⟩=some (.slice A cs.length c):=b0.cell 2;clear hb;go_wp2_with fail
  refine(z3g _ leaf next _ _ out w5 HCS.out).mono ?_;rintro e w6 ⟨A6,c6,rfl,hcs6,hbl⟩;have HQ6:=zz (HQ.out.trans (hbl.mono HQ.out.size));have hb:=B2.out.later hbl;have d0:(w6).cell? ⟨w.heap.size+1+1,0,none⟩=some (.bool false):=hb.cell 0;have d1:(w6).cell? ⟨w.heap.size+1+1,1,none⟩=some (.int .i64 0):=hb.cell 1;have d2:(w6).cell? ⟨w.heap.size+1+1,2,none⟩=some (.slice none 0 0):=hb.cell 2;have df0:(w6).frozen? ⟨w.heap.size+1+1,0,none⟩=false:=hb.free 0;have df1:(w6).frozen? ⟨w.heap.size+1+1,1,none⟩=false:=hb.free 1;have df2:(w6).frozen? ⟨w.heap.size+1+1,2,none⟩=false:=hb.free 2;have HE:=zz (hb.put3 (.bool leaf) (.int .i64 next) (.slice A6 out.length c6));have HQ7:=zz (z0Y HQ6.out (show w.heap.size≤w.heap.size+1+1 by omega) (.bool leaf) (.int .i64 next) (.slice A6 out.length c6));have h62:=hbl.size;have h52:=HB.out.size;have HP:Hid (Cs (fun b=>w.heap.size≤b∧b<w6.heap.size) (((w6.setCell ⟨w.heap.size+1+1,0,none⟩ (.bool leaf)).setCell ⟨w.heap.size+1+1,1,none⟩ (.int .i64 next)).setCell ⟨w.heap.size+1+1,2,none⟩ (.slice A6 out.length c6)) (.slice A6 out.length c6) out):=by
   have hn:∀b,((w2.heap.size≤b∧b<w5.heap.size)∧b<w5.heap.size)→w.heap.size+1+1<b:=fun b hb=>by omega
   refine Sl.more (Sl.setCell (Sl.setCell (Sl.setCell hcs6 (p:=⟨w.heap.size+1+1,0,none⟩) (fun h=>Nat.lt_irrefl _ (hn _ h)) _) (p:=⟨w.heap.size+1+1,1,none⟩) (fun h=>Nat.lt_irrefl _ (hn _ h)) _) (p:=⟨w.heap.size+1+1,2,none⟩) (fun h=>Nat.lt_irrefl _ (hn _ h)) _) fun b hb=> ?_
   have:=hn b hb;omega
  clear hbl hb hcs6 B2;go_wp2_with fail
  exact bodyPost_ret (z0L rfl _ _ (w.heap.size+1+1) rfl HE.out z1I) rfl ⟨_,rfl,by rw [HPC.out];exact⟨A6,c6,rfl,Sl.more HP.out fun b hb=>⟨hb.1,by simpa using hb.2⟩⟩,HQ7.out⟩
section
variable (P:Program)
theorem z82(w:World)(t e ty:TypeId)(z:Value)(ht:P.underlying t=some (.slice e))(hv:∀w,(zeroValue e).run P w= .ok z w)(g o n c:Nat)(cur:Array Value)(e':TypeId)(hn:0<n)(zs:List Value)(hz:(Builtin.zeroCells z.cells n).toList=zs)(h1:∀u∈zs,u.oneCell'=true)
 (hg:w.heap[g]? =some (.cells cur e' (0,0))) (hfit:o+zs.length≤cur.size):
 (Builtin.clear_ #[t] ty #[.slice (some ⟨g,o,none⟩) n c]).run P w= .ok (.tuple #[]) (w.setRow g (cur.toList.take o++zs++cur.toList.drop (o+zs.length)).toArray):=by
 have hst:=run_storeCells_at P g o e' zs 0 cur w hg (by simpa using hfit) h1;simp only [Nat.add_zero]at hst;obtain⟨m,rfl⟩:∃m,n=m+1:=⟨n-1,by omega⟩;simp [Builtin.clear_,run_underlying ht,hv,hz,hst]
end
theorem zIn:(Builtin.zeroCells (Value.agg #[.string ⟨#[]⟩,.string ⟨#[]⟩]).cells 1).toList= [.string ⟨#[]⟩,.string ⟨#[]⟩]:=by kernel_rfl
theorem zIV(w:World):(zeroValue 81).run Tryz.prog w= .ok (.agg #[.string ⟨#[]⟩,.string ⟨#[]⟩]) w:=by kernel_rfl
theorem zBz(B g cap:Nat)(cur:Array Value)(l:List Cel)(i:Nat)(w:World)(hBg:B≤g)(hg:w.heap[g]? =some (.cells cur 81 (0,0)))(hcm:cap≤maxLen)(hcs:cur.size=cap*2)(hct:cur.toList.take (l.length*2)=ccs l)
 (hlc:l.length≤cap) (hi:i<l.length) (hl:l.length≤1000000):
 Calls Tryz.prog 114 #[.slice (some ⟨g,0,none⟩) l.length cap,.int .i64 (i:Int),.int .i64 ((i:Int)+1)] w fun e w'=>e= .returned (.slice (some ⟨g,0,none⟩) (l.length-1) cap)∧Co w' B (.slice (some ⟨g,0,none⟩) (l.length-1) cap) (l.take i++l.drop (i+1))∧Below B w w':=by
 obtain⟨m,hn⟩:∃m,l.length=m+1:=⟨l.length-1,by omega⟩;rw [hn]at hct hlc hi hl ⊢;rw [Nat.add_sub_cancel];obtain⟨i0,hinf,hz,hsz,hby⟩:=elemCel.info;have hcelg:∀j v,(ccs l)[j]? =some v→w.cell? ⟨g,j,none⟩=some v:=fun j v hj=>by
  rw [←hct]at hj;have h1:=(List.getElem?_eq_some_iff.1 hj).1;rw [List.length_take,Array.length_toList]at h1;rw [List.getElem?_take_of_lt (by omega),Array.getElem?_toList]at hj;simp [World.cell?,hg,hj]
 have hdl:(ccs (l.drop (i+1))).length=(m-i)*2:=by rw [z1b,List.length_drop,hn];congr 1;omega
 obtain⟨row1,hrow1⟩:∃row1,(cur.toList.take (0+i*i0.size)++ccs (l.drop (i+1))++cur.toList.drop (0+i*i0.size+(ccs (l.drop (i+1))).length)).toArray=row1:=⟨_,rfl⟩;have hlo:=fun(a:Addr) (ha:0<m-i→a=⟨g,(i+1)*2,none⟩)=>run_loadCells_list (P:=Tryz.prog) w.drew a (ccs (l.drop (i+1)))
  (fun j v hj=>by
    have h1:=(List.getElem?_eq_some_iff.1 hj).1;rw [hdl]at h1;rw [ha (by omega),Addr.add_lit];exact hcelg ((i+1)*2+j) v (by rw [←z56,List.getElem?_drop]at hj;exact hj))
 rw [hdl]at hlo;unfold loadCells at hlo;have hap:=run_storeCells_at Tryz.prog g (0+i*i0.size) 81 (ccs (l.drop (i+1))) 0 cur w.drew (by show w.heap[g]? =_;exact hg) (by rw [hdl,hcs,hsz];omega) (z3A _);simp only [Nat.add_zero]at hap;have hroom:i+(m-i)≤cap:=by omega
 have hsum:i+(m-i)=m:=by omega
 rw [hrow1]at hap;rw [hsz,Nat.zero_add]at hap;rw [hsz,Nat.zero_add,hdl]at hrow1;have hr1s:row1.size=cap*2:=by
  rw [←hrow1];simp only [List.size_toArray,List.length_append,List.length_take,List.length_drop,Array.length_toList,hdl];omega
 obtain⟨W2,hW2⟩:∃W2,w.drew.setRow g row1=W2:=⟨_,rfl⟩;have hb2:Below B w W2:=by rw [←hW2];exact z0t (Below.refl _ _).drew hBg _
 have hg2:W2.heap[g]? =some (.cells row1 81 (0,0)):=by rw [←hW2];exact setRow_heap w.drew _ _ _ _ _ (by show w.heap[g]? =_;exact hg)
 rw [hW2]at hap;obtain⟨row2,hrow2⟩:∃row2,(row1.toList.take (m*2)++ [Value.string ⟨#[]⟩,Value.string ⟨#[]⟩]++row1.toList.drop (m*2+2)).toArray=row2:=⟨_,rfl⟩;have hcl:=fun(W:World) (hg2:W.heap[g]? =some (.cells row1 81 (0,0))) (ty:TypeId) (c:Nat)=>z82 Tryz.prog W 34 81 ty _ Tryz.underlying34 zIV g (m*2) 1 c row1 81 (by omega) [.string ⟨#[]⟩,.string ⟨#[]⟩] zIn (by simp [Value.oneCell']) hg2 (by show _+2≤_;omega)
 simp only [List.length_cons,List.length_nil,Nat.zero_add,Nat.reduceAdd]at hcl;rw [hrow2]at hcl;have hcl1:=fun(ty:TypeId) (c:Nat)=>hcl W2 hg2 ty c
 have hcl2:=fun(ty:TypeId) (c:Nat)=>hcl W2.drew (by show W2.heap[g]? =_;exact hg2) ty c
 clear hcl;have hw2:IntKind.i64.wrap ((i:Int)+1)=(i:Int)+1:=by rw [IntKind.wrap_i64];omega
 have hii:(i:Int)≤(cap:Int):=by omega
 have hij:(i:Int)+1≤(cap:Int):=by omega
 have hik:(i:Int)+1≤(m:Int)+1:=by omega
 have hil:(i:Int)≤(m:Int)+1:=by omega
 have him:(i:Int)≤(i:Int)+1:=by omega
 have hb0:(0:Int)≤(i:Int)+1:=by omega
 have htn:((i:Int)+1).toNat=i+1:=by omega
 have htm:((m:Int)+1).toNat=m+1:=by omega
 have hmc:(m:Int)≤(cap:Int):=by omega
 have hmd:(m:Int)+1≤(cap:Int):=by omega
 have hm0:(0:Int)≤(m:Int)+1:=by omega
 have hnm:¬cap=m:=by omega
 have hni:¬cap=i:=by omega
 have hne:((i:Int)==(i:Int)+1)=false:=by rw [beq_eq_false_iff_ne];omega
 have hne2:¬ ((i:Int)=(i:Int)+1):=by omega
 have hmm:(m:Int)≤(m:Int)+1:=by omega
 have hmN:m≤cap:=by omega
 have hsub:m+1-(i+1)=m-i:=by omega
 have hsub2:m+1-m=1:=by omega
 have hfin:Co (W2.setRow g row2) B (.slice (some ⟨g,0,none⟩) m cap) (l.take i++l.drop (i+1))∧Co (W2.drew.setRow g row2) B (.slice (some ⟨g,0,none⟩) m cap) (l.take i++l.drop (i+1)):=by
  have hlen:(l.take i++l.drop (i+1)).length=m:=by rw [List.length_append,List.length_take,List.length_drop];omega
  have h3:row2.size=cap*2:=by
   rw [←hrow2];simp only [List.size_toArray,List.length_append,List.length_take,List.length_drop,Array.length_toList,List.length_cons,List.length_nil];omega
  have h4:row2.toList.take (m*2)=ccs (l.take i++l.drop (i+1)):=by
   have hrt:cur.toList.take (i*2)=ccs (l.take i):=by
    have h9:=congrArg (List.take (i*2)) hct;rw [List.take_take,Nat.min_eq_left (by omega),z50]at h9;exact h9
   rw [←hrow2];simp only;rw [List.append_assoc,List.take_left' (by rw [List.length_take,Array.length_toList];omega),←hrow1,hrt,z0f];simp only;rw [List.take_left' (by rw [List.length_append,hdl,z1b,List.length_take];omega)]
  unfold Co;rw [hlen];refine⟨⟨by rw [z1b,hlen],.inr ⟨g,cap,row2,rfl,hBg,setRow_heap _ _ _ _ _ _ hg2,by omega,hcm,h3,?_⟩⟩,⟨by rw [z1b,hlen],.inr ⟨g,cap,row2,rfl,hBg,setRow_heap _ _ _ _ _ _ (by show W2.heap[g]? =_;exact hg2),by omega,hcm,h3,?_⟩⟩⟩
  ·exact h4
  ·exact h4
 have HE:Hid (m-i=0→W2=w.drew):=fun h0=>by
  have h1:ccs (l.drop (i+1))= []:=List.eq_nil_of_length_eq_zero (by rw [hdl,h0,Nat.zero_mul]);rw [←hW2,←hrow1,h1,h0,Nat.zero_mul,Nat.add_zero,List.append_nil,List.take_append_drop,Array.toArray_toList];exact setRow_self w.drew g cur _ _ (by show w.heap[g]? =_;exact hg)
 have HF:=zz hfin;have HB2:=zz hb2;have HGB:=zz hBg;clear hfin hrow1 hrow2 hct hcelg hW2 hdl hsz hby;by_cases hcap:cap=i+1
 ·obtain rfl:m=i:=by omega
  subst hcap;obtain rfl:=HE.out (Nat.sub_self m);clear hlo hap hroom hsum;go_enter Tryz.func114,Tryz.ntmps114
  go_wp2_with fail
  go_region_law (fail)
  go_wp2_with fail
  go_ret
  first
   |exact⟨rfl,HF.out.1,z0t HB2.out HGB.out _⟩
   |exact⟨rfl,HF.out.2,z0t HB2.out.drew HGB.out _⟩
 ·have hlo1:=hlo ⟨g,(i+1)*2,none⟩ (fun _=>rfl);clear hlo;have hcap2:¬cap=i+1:=hcap;go_enter Tryz.func114,Tryz.ntmps114
  go_wp2_with fail
  go_region_law (fail)
  go_wp2_with fail
  go_ret
  first
   |exact⟨rfl,HF.out.1,z0t HB2.out HGB.out _⟩
   |exact⟨rfl,HF.out.2,z0t HB2.out.drew HGB.out _⟩
theorem z8O(S:Nat→Prop)(v0:Value)(cs:List Cel)(w:World)(hl:cs.length≤1000000)(hr:Cs S w v0 cs)(h0:0<cs.length):
 Calls Tryz.prog 107 #[v0] w fun e w'=>∃g cap cur,e= .returned (.slice (some ⟨g,0,none⟩) cs.length cap)∧w.heap.size≤g∧w'.heap[g]? =some (.cells cur 81 (0,0))∧cs.length≤cap∧cap≤maxLen∧cur.size=cap*2∧cur.toList.take (cs.length*2)=ccs cs∧Below w.heap.size w w':=by
 refine(z2Q S v0 cs w hl hr).mono ?_;rintro e w' ⟨A,c,rfl,⟨h1,h2⟩,hb⟩;rcases h2 with⟨h2,h3⟩|⟨g,cap,cur,hv,hBg,hg,hnc,hcm,hcs,hct⟩
 ·omega
 ·injection hv with h4 _ h5
  subst h4 h5;exact⟨g,c,cur,rfl,hBg,hg,hnc,hcm,hcs,hct,hb⟩
theorem zDP(S:Nat→Prop)(leaf:Bool)(next:Int)(v0:Value)(cs:List Cel)(k:List UInt8)(w:World)(hl:cs.length≤100000)(hr:Cs S w v0 cs)(hri:RisesP cs)(hk:isK cs k=false):
 Calls Tryz.prog 68 #[.agg #[.bool leaf,.int .i64 next,v0],.string (st k)] w fun e w'=>e= .returned (.tuple #[.agg #[.bool false,.int .i64 0,.slice none 0 0],.int .i64 102])∧Below w.heap.size w w':=by
 have HR:=zz hr.lt;obtain⟨A,c,rfl,hlc,hcm,hA0,_⟩:=hr.at;have HKI:=zz hk;clear hr hk;have hb1:Blk ((w.alloc (.cells #[.bool leaf,.int .i64 next,.slice A cs.length c] 36)).alloc (.cells #[.bool false,.int .i64 0,.slice none 0 0] 36)) (w.heap.size+1) 36 #[.bool false,.int .i64 0,.slice none 0 0]:=Blk.new1 _ _ _ _;have hq:Below w.heap.size w ((w.alloc (.cells #[.bool leaf,.int .i64 next,.slice A cs.length c] 36)).alloc (.cells #[.bool false,.int .i64 0,.slice none 0 0] 36)):=((Below.refl _ _).alloc (Nat.le_refl _) _).alloc (by simp) _;go_enter Tryz.func68,Tryz.ntmps68
 go_wp2_with fail
 generalize hW:((w.alloc (.cells #[.bool leaf,.int .i64 next,.slice A cs.length c] 36)).alloc (.cells #[.bool false,.int .i64 0,.slice none 0 0] 36))=W at*;clear hW;refine(z4L _ leaf next _ cs k W (by omega) (HR.out.up hq) hri).mono ?_;rintro e w1 ⟨rfl,hbl⟩;rw [HKI.out];have hq2:=hq.trans (hbl.mono hq.size);have hb:=hb1.later hbl;have d0:(w1).cell? ⟨w.heap.size+1,0,none⟩=some (.bool false):=hb.cell 0;have d1:(w1).cell? ⟨w.heap.size+1,1,none⟩=some (.int .i64 0):=hb.cell 1;have d2:(w1).cell? ⟨w.heap.size+1,2,none⟩=some (.slice none 0 0):=hb.cell 2;have df0:(w1).frozen? ⟨w.heap.size+1,0,none⟩=false:=hb.free 0;have df1:(w1).frozen? ⟨w.heap.size+1,1,none⟩=false:=hb.free 1;have df2:(w1).frozen? ⟨w.heap.size+1,2,none⟩=false:=hb.free 2;have HB:=zz (hb.put3 (.bool false) (.int .i64 0) (.slice none 0 0));have HQ:=zz (z0Y hq2 (show w.heap.size≤w.heap.size+1 by omega) (.bool false) (.int .i64 0) (.slice none 0 0));clear hb1 hbl hb hq hq2;generalize z03 cs k=K at*;go_wp2_with fail
 exact bodyPost_ret (z0L rfl _ _ (w.heap.size+1) rfl HB.out z1I) rfl ⟨rfl,HQ.out⟩
theorem z6k(S:Nat→Prop)(leaf:Bool)(next:Int)(v0:Value)(cs:List Cel)(k:List UInt8)(w:World)(hl:cs.length≤100000)(hr:Cs S w v0 cs)(hri:RisesP cs)(hk:isK cs k=true):
 Calls Tryz.prog 68 #[.agg #[.bool leaf,.int .i64 next,v0],.string (st k)] w fun e w'=>∃vq,e= .returned (.tuple #[vq,.int .i64 0])∧PgIs w.heap.size w' vq leaf next (delC cs k)∧Below w.heap.size w w':=by
 have HR:=zz hr.lt;obtain⟨A,c,rfl,hlc,hcm,hA0,_⟩:=hr.at;have HKI:=zz hk;have HDL:Hid (delC cs k=cs.take (z03 cs k)++cs.drop (z03 cs k+1)):=zCc hk;have hKl:=z7o hk;clear hr hk;have hb0:Blk ((w.alloc (.cells #[.bool leaf,.int .i64 next,.slice A cs.length c] 36)).alloc (.cells #[.bool false,.int .i64 0,.slice none 0 0] 36)) w.heap.size 36 #[.bool leaf,.int .i64 next,.slice A cs.length c]:=(Blk.new _ _ _).alloc _;have hb1:Blk ((w.alloc (.cells #[.bool leaf,.int .i64 next,.slice A cs.length c] 36)).alloc (.cells #[.bool false,.int .i64 0,.slice none 0 0] 36)) (w.heap.size+1) 36 #[.bool false,.int .i64 0,.slice none 0 0]:=Blk.new1 _ _ _ _;have hq:Below w.heap.size w ((w.alloc (.cells #[.bool leaf,.int .i64 next,.slice A cs.length c] 36)).alloc (.cells #[.bool false,.int .i64 0,.slice none 0 0] 36)):=((Below.refl _ _).alloc (Nat.le_refl _) _).alloc (by simp) _;go_enter Tryz.func68,Tryz.ntmps68
 go_wp2_with fail
 generalize hW:((w.alloc (.cells #[.bool leaf,.int .i64 next,.slice A cs.length c] 36)).alloc (.cells #[.bool false,.int .i64 0,.slice none 0 0] 36))=W at*;clear hW;refine(z4L _ leaf next _ cs k W (by omega) (HR.out.up hq) hri).mono ?_;rintro e wf ⟨rfl,hbl⟩;rw [HKI.out];have HQ:=zz (hq.trans (hbl.mono hq.size));have HRf:=zz (HR.out.up HQ.out);have b0:=hb0.later hbl;have HB1:=zz (hb1.later hbl);have hbp:w.heap.size+1<wf.heap.size:=HB1.out.lt;have p0:(wf).cell? ⟨w.heap.size,0,none⟩=some (.bool leaf):=b0.cell 0;have p1:(wf).cell? ⟨w.heap.size,1,none⟩=some (.int .i64 next):=b0.cell 1;have p2:(wf).cell? ⟨w.heap.size,2,none⟩=some (.slice A cs.length c):=b0.cell 2;clear hb0 hb1 hbl hq b0 hri HR;generalize hKe:z03 cs k=K at*;have HKE:=zz hKe;clear hKe;have hw1:IntKind.i64.wrap ((K:Int)+1)=(K:Int)+1:=IntWalk.i64_in _ (by omega);obtain⟨out,hout⟩:∃out,cs.take K++cs.drop (K+1)=out:=⟨_,rfl⟩;have HO:=zz hout;clear hout;go_upto_region 4 with(fail)
 go_region_held3 (fun w'=>w'.cell? ⟨w.heap.size,0,none⟩=some (.bool leaf)∧w'.cell? ⟨w.heap.size,1,none⟩=some (.int .i64 next)∧w'.cell? ⟨w.heap.size,2,none⟩=some (.slice A cs.length c))
  (first
    |go_keep
    |(go_split_ands
      refine⟨?_,?_,?_⟩<;>(refine(hbz _).trans ?_;assumption)))
  ((first
    |(go_at_call 107;refine(z8O (fun b=>b<wf.heap.size) _ cs _ (by omega) (by exact HRf.out) (by omega)).mono ?_;rintro e w6 ⟨g,cap,cur,rfl,hBg,hg,hnc,hcm6,hcs6,hct6,hb6⟩;have hq6:Below wf.heap.size wf w6:=⟨hb6.os,hb6.tape,hb6.output,hb6.size,hb6.block⟩;have hbz:∀o,w6.cell? ⟨w.heap.size,o,none⟩=wf.cell? ⟨w.heap.size,o,none⟩:=fun o=>hq6.cell (p:=⟨w.heap.size,o,none⟩) (Nat.lt_of_succ_lt hbp))
    |(go_at_call 114;refine(zBz wf.heap.size g cap cur cs K _ hBg (by exact hg) hcm6 hcs6 hct6 hnc hKl (by omega)).mono ?_;rintro e w7 ⟨rfl,hco7,hb7⟩;rw [HO.out]at hco7;have hz7:Below wf.heap.size w6 w7:=⟨hb7.os,hb7.tape,hb7.output,hb7.size,hb7.block⟩;have hq7:Below wf.heap.size wf w7:=hq6.trans hz7;have hbz:∀o,w7.cell? ⟨w.heap.size,o,none⟩=w6.cell? ⟨w.heap.size,o,none⟩:=fun o=>hz7.cell (p:=⟨w.heap.size,o,none⟩) (Nat.lt_of_succ_lt hbp))
    |(go_at_call 109;refine(z3g (fun b=>wf.heap.size≤b∧b<w7.heap.size) leaf next _ _ out _ (by exact hco7.cs)).mono ?_;rintro e w9 ⟨A9,c9,rfl,hcs9,hb9⟩;have hz9:Below w7.heap.size w7 w9:=⟨hb9.os,hb9.tape,hb9.output,hb9.size,hb9.block⟩;have hq9:Below wf.heap.size wf w9:=hq7.trans (hz9.mono hq7.size);have hbz:∀o,w9.cell? ⟨w.heap.size,o,none⟩=w7.cell? ⟨w.heap.size,o,none⟩:=fun o=>hz9.cell (p:=⟨w.heap.size,o,none⟩) (Nat.lt_of_lt_of_le (Nat.lt_of_succ_lt hbp) hq7.size);have k1:=HB1.out.later hq9;have d0:w9.cell? ⟨w.heap.size+1,0,none⟩=some (.bool false):=k1.cell 0;have d1:w9.cell? ⟨w.heap.size+1,1,none⟩=some (.int .i64 0):=k1.cell 1;have d2:w9.cell? ⟨w.heap.size+1,2,none⟩=some (.slice none 0 0):=k1.cell 2;have f0:=k1.free 0;have f1:=k1.free 1;have f2:=k1.free 2)))
 go_wp2_with fail
 have HBL:=k1.put3 (.bool leaf) (.int .i64 next) (.slice A9 out.length c9);have hqw:=HQ.out.trans (hq9.mono HQ.out.size);have HQ7:=z0Y hqw (show w.heap.size≤w.heap.size+1 by omega) (.bool leaf) (.int .i64 next) (.slice A9 out.length c9);have h97:=hz9.size;have HP:Cs (fun b=>w.heap.size≤b∧b<w9.heap.size) (((w9.setCell ⟨w.heap.size+1,0,none⟩ (.bool leaf)).setCell ⟨w.heap.size+1,1,none⟩ (.int .i64 next)).setCell ⟨w.heap.size+1,2,none⟩ (.slice A9 out.length c9)) (.slice A9 out.length c9) out:=by
  have hn:∀b,((wf.heap.size≤b∧b<w7.heap.size)∧b<w7.heap.size)→w.heap.size+1<b:=fun b hb=>by omega
  refine Sl.more (Sl.setCell (Sl.setCell (Sl.setCell hcs9 (p:=⟨w.heap.size+1,0,none⟩) (fun h=>Nat.lt_irrefl _ (hn _ h)) _) (p:=⟨w.heap.size+1,1,none⟩) (fun h=>Nat.lt_irrefl _ (hn _ h)) _) (p:=⟨w.heap.size+1,2,none⟩) (fun h=>Nat.lt_irrefl _ (hn _ h)) _) fun b hb=> ?_
  have:=hn b hb;omega
 exact bodyPost_ret (z0L rfl _ _ (w.heap.size+1) rfl HBL z1I) rfl ⟨_,rfl,by rw [HDL.out,HO.out];exact⟨A9,c9,rfl,Sl.more HP fun b hb=>⟨hb.1,by simpa using hb.2⟩⟩,HQ7⟩
theorem PgIs.later{B:Nat}{w w':World}{v:Value}{leaf:Bool}{next:Int}{cs:List Cel}(h:PgIs B w v leaf next cs)(hb:Below w.heap.size w w'):PgIs B w' v leaf next cs:=by
 obtain⟨A,c,rfl,hc⟩:=h;exact⟨A,c,rfl,Sl.more (Sl.below hc hb fun _ h=>h.2) fun b h=>⟨h.1,Nat.lt_of_lt_of_le h.2 hb.size⟩⟩
def VPg(leaf:Bool)(next:Int)(cs:List Cel):VP:=fun v w=>PgIs 0 w v leaf next cs
theorem Stays.pg(leaf:Bool)(next:Int)(cs:List Cel):Stays (VPg leaf next cs):=fun _ _ _ hb h=>PgIs.later h hb
end
section
open Go
def z0b:Nat→List UInt8→Nat→List (Nat×List UInt8)×Nat
 |0,_,_=>([],0)
 |k+1,l,f=>match z0i l with
  |none=>([],0)
  |some (r,n)=>if r.1=f%U64 then(r::(z0b k (l.drop n) (f+1)).1,n+(z0b k (l.drop n) (f+1)).2)else([],0)
theorem z5a{l:List UInt8}{r:Nat×List UInt8}{n:Nat}(h:z0i l=some (r,n)):8≤n∧n≤l.length:=by
 unfold z0i at h
 split at h
 ·cases h
 ·rename_i hc
  split at h
  ·cases h
  ·rename_i f hf
   split at h
   ·injection h with h
    injection h with _ h
    unfold z1i at hf
    split at hf
    ·cases hf
    ·rename_i h4;rw [List.length_take]at h4;rw [List.length_drop]at hc h4;omega
   ·cases h
theorem z5V:z0i []=none:=by unfold z0i;rw [if_pos (.inl (by simp))]
def z3M:Nat→List (List UInt8)→List UInt8
 |_,[]=> []
 |f,t::ts=>z1N (f%U64) t++z3M (f+1) ts
def z05:Nat→List (List UInt8)→List (Nat×List UInt8)
 |_,[]=> []
 |f,t::ts=>(f%U64,t)::z05 (f+1) ts
def z2r:Nat→List (List UInt8)→Nat→Nat×Nat
 |_,[],_=>(0,0)
 |f,t::ts,n=>if(z1N (f%U64) t).length≤n then((z2r (f+1) ts (n-(z1N (f%U64) t).length)).1+1,(z1N (f%U64) t).length+(z2r (f+1) ts (n-(z1N (f%U64) t).length)).2)else(0,0)
theorem z7l:∀ (ts:List (List UInt8)) (f n k:Nat),(∀t∈ts,t.length≤32768)→n≤(z3M f ts).length→n≤k→
 z0b k ((z3M f ts).take n) f=((z05 f ts).take (z2r f ts n).1,(z2r f ts n).2)
 | [],f,n,k,_,hn,hk=>by
   match k with
   |0=>simp [z0b,z05,z2r]
   |k+1=>simp [z0b,z3M,z05,z2r,z5V]
 |t::ts,f,n,k,ht,hn,hk=>by
  have hq:f%U64<U64:=Nat.mod_lt _ (by unfold U64;decide);have htl:t.length≤32768:=ht t (by simp);have hpos:8≤(z1N (f%U64) t).length:=by rw [z3r];omega
  rw [z3M,z2r];by_cases hc:(z1N (f%U64) t).length≤n
  ·rw [if_pos hc];obtain⟨k,rfl⟩:∃k',k=k'+1:=⟨k-1,by omega⟩;have e:(z1N (f%U64) t++z3M (f+1) ts).take n=z1N (f%U64) t++(z3M (f+1) ts).take (n-(z1N (f%U64) t).length):=by
    rw [List.take_append,List.take_of_length_le hc]
   rw [e,z0b,z8W hq htl];simp only;rw [if_pos trivial,List.drop_left];have ih:=z7l ts (f+1) (n-(z1N (f%U64) t).length) k (fun x hx=>ht x (by simp [hx])) (by rw [z3M,List.length_append]at hn;omega) (by omega);rw [ih,z05,List.take_succ_cons]
  ·rw [if_neg hc];have e:(z1N (f%U64) t++z3M (f+1) ts).take n=(z1N (f%U64) t).take n:=by
    rw [List.take_append_of_le_length (by omega)]
   rw [e]
   match k with
   |0=>simp [z0b]
   |k+1=>
    rw [z0b,z8F hq htl (by omega)];simp
def titleB:List UInt8:= [115,101,103,109,101,110,116]
abbrev Rcd:=Nat×List UInt8
def z1E(f:SF)(p:Int):Nat→List UInt8
 |0=> []
 |n+1=>match f p with
  |none=> []
  |some b=>if b.length<512 then b else b++z1E f (p+1) n
def z4G(s:List UInt8):Option (Nat×List Rcd):=match z0i s with
 |some ((q,t),n)=>if t=titleB then some (q,(z0b (s.drop n).length (s.drop n) q).1)else none
 |none=>none
def z1Q(f:SF)(a:Int)(size:Nat)(i:Nat):Option (Nat×List Rcd):=z4G (z1E f (a+(i:Int)*size) size)
structure Fd where
 at':Nat
 base:Nat
 recs:List Rcd
deriving DecidableEq
def z3G(f:SF)(a:Int)(size:Nat):Nat→List Fd
 |0=> []
 |n+1=>z3G f a size n++(match z1Q f a size n with|some (q,rs)=> [⟨n,q,rs⟩]|none=> [])
def Fd.fits(x:Fd)(frm:Nat):Bool:=decide (x.base≤(frm+1)%U64)&&decide ((frm+1)%U64≤(x.base+x.recs.length)%U64)
def z4J:Option Fd→Fd→Bool
 |none,_=>true
 |some y,x=>decide (y.base<x.base)
def z1j(frm:Nat):List Fd→Option Fd→Option Fd
 | [],b=>b
 |x::xs,b=>z1j frm xs (if x.fits frm&&z4J b x then some x else b)
structure Sg where
 at':Nat
 base:Nat
 count:Nat
deriving DecidableEq
def Fd.sg(x:Fd):Sg:=⟨x.at',x.base,x.recs.length%U64⟩
def z0v(live:List Sg)(i:Nat):Bool:=live.any fun s=>s.at'==i
def Fd.last(x:Fd):Nat:=(x.base+x.recs.length+(U64-1))%U64
def z7W(all:List Fd)(live:List Sg)(last:Nat):Option Fd:=all.find? fun x=>decide (x.base=(last+1)%U64)&& !z0v live x.at'
def z2Y(all:List Fd)(frm:Nat):Nat→List Sg→Nat→List Rcd→Option Fd→List Sg×Nat×List Rcd
 |0,live,last,out,_=>(live,last,out)
 |_+1,live,last,out,none=>(live,last,out)
 |k+1,live,last,out,some x=>z2Y all frm k (live++ [x.sg]) x.last (out++x.recs.filter fun r=>decide (frm<r.1)) (z7W all (live++ [x.sg]) x.last)
def z2f(D:Dsk)(p:Int):Nat→Dsk
 |0=>D
 |n+1=>(z2f D p n).free (p+(n:Int))
def z0I(D:Dsk)(a:Int)(size:Nat)(live:List Sg):Nat→Dsk
 |0=>D
 |n+1=>if z0v live n then z0I D a size live n else z2f (z0I D a size live n) (a+(n:Int)*size) size
structure Wl where
 D:Dsk
 a:Int
 n:Nat
 size:Nat
 live:List Sg
 stream:List UInt8
 last:Nat
 synced:Nat
def Wl.sync(l:Wl):Wl:={l with D:=l.D.sync,synced:=l.last}
def z16(D:Dsk)(a:Int)(n size:Nat)(frm:Nat):Wl×List Rcd:=
 let all:=z3G D.view a size n
 let c:=z2Y all frm (n+1) [] frm [] (z1j frm all none)
 (({D:=z0I D a size c.1 n,a:=a,n:=n,size:=size,live:=c.1,stream:= [],last:=max c.2.1 frm,synced:=0}:Wl).sync,c.2.2)
def z2k(live:List Sg)(n:Nat):Option Nat:=(List.range n).find? fun i=> !z0v live i
def z3b(D:Dsk)(p:Int)(b:List UInt8):Nat→Nat→Dsk×Nat
 |0,_=>(D,0)
 |m+1,k=>if 512*k<b.length then
   (if D.why (p+(k:Int)) ((b.drop (512*k)).take 512)=0 then z3b (D.write (p+(k:Int)) ((b.drop (512*k)).take 512)) p b m (k+1)
   else(D,D.why (p+(k:Int)) ((b.drop (512*k)).take 512)))else(D,0)
def z4a:List Sg→List Sg
 | []=> []
 | [s]=> [{s with count:=(s.count+1)%U64}]
 |s::t::r=>s::z4a (t::r)
def z0F(l:Wl)(t:List UInt8):Wl×Nat×Nat:=
 let q:=(l.last+1)%U64
 let b:=z1N q t
 let head:=z1N q titleB
 if 32768<t.length∨512*l.size<head.length+b.length then(l,0,81)
 else if l.stream= []∨512*l.size<l.stream.length+b.length then
  match z2k l.live l.n with
  |none=>(l,0,82)
  |some i=>
   let r:=z3b l.D (l.a+(i:Int)*l.size) (head++b) (head++b).length 0
   if r.2=0 then({l with D:=r.1,live:=z4a (l.live++ [⟨i,q,0⟩]),stream:=head++b,last:=q},q,0)
   else(({l with D:=z2f r.1 (l.a+(i:Int)*l.size) l.size,stream:= []}:Wl).sync,0,r.2)
 else
  let r:=z3b l.D (l.a+(((l.live.getLast?).map (·.at')).getD 0:Nat)*l.size) (l.stream++b) (l.stream++b).length (l.stream.length / 512)
  if r.2=0 then({l with D:=r.1,live:=z4a l.live,stream:=l.stream++b,last:=q},q,0)
  else({l with D:=r.1,stream:= []},0,r.2)
theorem z5b{D:Dsk}(hok:D.Ok):∀ (n:Nat) (p:Int),(z1E D.view p n).length≤512*n
 |0,_=>by simp [z1E]
 |n+1,p=>by
  rw [z1E];cases hv:D.view p with
  |none=>simp
  |some b=>
   have h1:=(hok.view.at hv).2.2;have ih:=z5b hok n (p+1);simp only
   split
   ·omega
   ·rw [List.length_append];omega
theorem z3i{f:SF}{p:Int}{n:Nat}(h:f p=none):z1E f p (n+1)= []:=by rw [z1E,h]
theorem z5v{f:SF}{p:Int}{n:Nat}{b:List UInt8}(h:f p=some b)(hb:b.length<512):z1E f p (n+1)=b:=by rw [z1E,h];simp only;rw [if_pos hb]
theorem z7D{f:SF}{p:Int}{n:Nat}{b:List UInt8}(h:f p=some b)(hb:¬b.length<512):z1E f p (n+1)=b++z1E f (p+1) n:=by rw [z1E,h];simp only;rw [if_neg hb]
def z7i(f:SF)(a:Int)(size i:Nat):List Fd:=match z1Q f a size i with|some (q,rs)=> [⟨i,q,rs⟩]|none=> []
theorem z25(f:SF)(a:Int)(size n:Nat):z3G f a size (n+1)=z3G f a size n++z7i f a size n:=rfl
def zC2(f:SF)(a:Int)(size:Nat):Nat→Nat→List Fd
 |_,0=> []
 |i,k+1=>z7i f a size i++zC2 f a size (i+1) k
theorem z8k(f:SF)(a:Int)(size:Nat):∀k i,zC2 f a size i (k+1)=zC2 f a size i k++z7i f a size (i+k)
 |0,i=>by simp [zC2]
 |k+1,i=>by
  rw [zC2,z8k f a size k (i+1),zC2,List.append_assoc,show i+1+k=i+(k+1) by omega]
theorem zFT(f:SF)(a:Int)(size:Nat):∀n,z3G f a size n=zC2 f a size 0 n
 |0=>rfl
 |n+1=>by rw [z25,zFT f a size n,z8k,Nat.zero_add]
theorem z5q{f:SF}{a:Int}{size i q:Nat}{rs:List Rcd}(h:z1Q f a size i=some (q,rs)):z7i f a size i= [⟨i,q,rs⟩]:=by unfold z7i;rw [h]
theorem z5m{f:SF}{a:Int}{size i:Nat}(h:z1Q f a size i=none):z7i f a size i= []:=by unfold z7i;rw [h]
theorem zAL{f:SF}{a:Int}{size i:Nat}{x:Fd}(h:x∈z7i f a size i):x.at'=i∧z1Q f a size i=some (x.base,x.recs):=by
 unfold z7i at h;cases hl:z1Q f a size i with
 |none=>rw [hl]at h;cases h
 |some r=>
  obtain⟨q,rs⟩:=r;rw [hl]at h;simp only [List.mem_singleton]at h;subst h;exact⟨rfl,rfl⟩
theorem z1r{f:SF}{a:Int}{size:Nat}{x:Fd}:∀ {n},x∈z3G f a size n→x.at'<n∧z1Q f a size x.at'=some (x.base,x.recs)
 |0,h=>by cases h
 |n+1,h=>by
  rw [z25,List.mem_append]at h;rcases h with h|h
  ·have:=z1r h;exact⟨by omega,this.2⟩
  ·obtain⟨rfl,h2⟩:=zAL h;exact⟨by omega,h2⟩
theorem zCT(f:SF)(a:Int)(size:Nat):∀n,(z3G f a size n).length≤n
 |0=>by simp [z3G]
 |n+1=>by
  rw [z25,List.length_append];have:=zCT f a size n;have:(z7i f a size n).length≤1:=by unfold z7i;split<;>simp
  omega
def z67(frm:Nat)(b:Option Fd)(x:Fd):Option Fd:=if x.fits frm&&z4J b x then some x else b
theorem z3X(frm:Nat)(x:Fd)(xs:List Fd)(b:Option Fd):z1j frm (x::xs) b=z1j frm xs (z67 frm b x):=rfl
theorem z5y(frm:Nat):∀ (xs ys:List Fd) (b:Option Fd),z1j frm (xs++ys) b=z1j frm ys (z1j frm xs b)
 | [],_,_=>rfl
 |x::xs,ys,b=>by rw [List.cons_append,z3X,z3X,z5y frm xs ys]
theorem z6c(frm:Nat){x:Fd}:∀ (xs:List Fd) (b:Option Fd),z1j frm xs b=some x→x∈xs∨b=some x
 | [],_,h=> .inr h
 |y::ys,b,h=>by
  rw [z3X]at h;rcases z6c frm ys _ h with h1|h1
  ·exact .inl (List.mem_cons_of_mem _ h1)
  ·unfold z67 at h1;by_cases hc:(y.fits frm&&z4J b y)=true
   ·rw [if_pos hc]at h1;cases h1
    exact .inl (List.mem_cons_self ..)
   ·rw [if_neg hc]at h1;exact .inr h1
theorem z8y{all:List Fd}{live:List Sg}{last:Nat}{x:Fd}(h:z7W all live last=some x):x∈all∧x.base=(last+1)%U64∧z0v live x.at'=false:=by
 have h1:=List.find?_some h;simp only [Bool.and_eq_true,decide_eq_true_eq,Bool.not_eq_true']at h1;exact⟨List.mem_of_find?_eq_some h,h1.1,h1.2⟩
theorem z53{D:Dsk}(h:D.Ok)(p:Int):∀n,(z2f D p n).Ok
 |0=>h
 |n+1=>(z53 h p n).free _
theorem zDx(D:Dsk)(x:Int):(D.free x).pend.length≤D.pend.length+1:=by
 unfold Dsk.free
 split
 ·show(D.pend++ [_]).length≤_;simp
 ·omega
theorem z5j(D:Dsk)(p:Int):∀n,(z2f D p n).pend.length≤D.pend.length+n
 |0=>Nat.le_refl _
 |n+1=>by
  have:=zDx (z2f D p n) (p+(n:Int));have:=z5j D p n;rw [z2f];omega
theorem z2t{D:Dsk}(h:D.Ok)(a:Int)(size:Nat)(live:List Sg):∀n,(z0I D a size live n).Ok
 |0=>h
 |n+1=>by
  rw [z0I]
  split
  ·exact z2t h a size live n
  ·exact z53 (z2t h a size live n) _ _
theorem z5H(D:Dsk)(a:Int)(size:Nat)(live:List Sg):∀n,(z0I D a size live n).pend.length≤D.pend.length+n*size
 |0=>by simp [z0I]
 |n+1=>by
  have h1:=z5H D a size live n;have h2:=z5j (z0I D a size live n) (a+(n:Int)*size) size;have h3:(n+1)*size=n*size+size:=by rw [Nat.add_mul,Nat.one_mul]
  rw [z0I]
  split<;>omega
theorem z3q(D:Dsk)(x:Int)(b:List UInt8):(D.write x b).pend.length≤D.pend.length+1:=by
 unfold Dsk.write
 split
 ·show(D.pend++ [_]).length≤_;simp
 ·omega
theorem zBW(p:Int)(b:List UInt8):∀ (m k:Nat) {D:Dsk},D.Ok→(z3b D p b m k).1.Ok
 |0,_,_,h=>h
 |m+1,k,D,h=>by
  rw [z3b]
  split
  ·split
   ·exact zBW p b m (k+1) (h.write _ _)
   ·exact h
  ·exact h
theorem z3H(live:List Sg)(s:Sg)(i:Nat):z0v (live++ [s]) i=(z0v live i||s.at'==i):=by simp [z0v]
theorem z1c{live:List Sg}{i:Nat}:z0v live i=true↔∃s∈live,s.at'=i:=by simp [z0v]
end
section
open Go Go.RowKit
set_option linter.unusedSimpArgs false
section
variable {P:Program} {ops:Array Oper}
def z0l(P:Program)(w:World)(S:World→World→Prop)(V:VP):Result Next→Prop
 | .ok (.value u) w'=>S w w'∧V u w'
 | .ok .skip w'=>S w w'∧V undef w'
 | .ok (.enter f args) w'=>Calls P f args w' (fun e w''=>∃v,e= .returned v∧S w w''∧V v w'')
 |_=>False
def steps(P:Program)(o:Oper)(a:Act)(w:World)(S:World→World→Prop)(V:VP):Prop:=z0l P w S V ((execOp a.eval o).run P w)
theorem z6w{o:Oper}{a:Act}{w:World}{S:World→World→Prop}{V:VP}{K:Act→World→Prop}{Q:Exit→Act→World→Prop}(h:steps P o a w S V)
 (hK:∀v w',S w w'→V v w'→K (a.put o.dst v) w'):o.wp P a w K Q:=by
 unfold steps at h;unfold Oper.wp;generalize (execOp a.eval o).run P w=r at*;cases r with
 |ok n w'=>
  cases n<;>simp only [z0l]at h<;>simp only [Oper.upon]
  case value u=>exact hK _ _ h.1 h.2
  case skip=>exact hK _ _ h.1 h.2
  case enter f args=>exact h.mono fun e w'' ⟨v,he,hb,hv⟩=>by subst he;exact hK _ _ hb hv
 |halt x w'=>simp only [z0l]at h
theorem z4E{o:Oper}{a:Act}{w:World}{S:World→World→Prop}{V:VP}(h:steps P o a w S V):∃v w',S w w'∧V v w':=by
 unfold steps at h;generalize (execOp a.eval o).run P w=r at*;cases r with
 |ok n w'=>
  cases n<;>simp only [z0l]at h
  case value u=>exact⟨u,w',h⟩
  case skip=>exact⟨_,w',h⟩
  case enter f args=>
   obtain⟨e,w'',fr,⟨v,_,hb,hv⟩,_⟩:=h [];exact⟨v,w'',hb,hv⟩
 |halt x w'=>simp only [z0l]at h
structure RegFr where
 S:Nat→World→World→Prop
 C:Nat→World→Prop
 E:World→Prop
def z1d(P:Program)(ops:Array Oper)(R:RegFr)(Q:Act→World→Prop):List Oper→List VP→List (Value×VP)→Act→Prop
 |o::rest,V::Vs,env,a=>
  (if Region.wanted o (yielded ops a.tmps)then ∀w,R.C env.length w→(∀e∈o.after,Region.binds .any e=true→∀ (x:Value) (W:VP),env[e.on]? =some (x,W)→W x w)→steps P o a w (R.S env.length) V else ∀w,R.C env.length w→V undef w)∧
  ∀x,(∃w,R.E w∧V x w)→z1d P ops R Q rest Vs (env++ [(x,V)]) (a.put o.dst x)
 | [],[],env,a=>∀w,R.E w→(∀ (j:Nat) (x:Value) (W:VP),env[j]? =some (x,W)→W x w)→Q a w
 |_,_,_,_=>False
structure RegFr.Ok(R:RegFr)(ops:Array Oper)(Vs:List VP):Prop where
 V:∀i j,i<ops.size→j<ops.size→i≠j→z15 ops j i=false→∀x w w',R.S i w w'→vAt Vs j x w→vAt Vs j x w'
 C:∀i j,i<ops.size→j<ops.size→i≠j→z15 ops i j=false→∀w w',R.S i w w'→R.C j w→R.C j w'
 E:∀i,i<ops.size→∀w w',R.S i w w'→R.E w→R.E w'
theorem zAc(Vs:List VP)(y:Nat→Value)(k:Nat):(z5J Vs y k).length=k:=by simp [z5J]
variable {R:RegFr} {Q:Act→World→Prop} {Vs:List VP} {a0:Act}
theorem z6M(hlen:Vs.length=ops.size)(h0:z1d P ops R Q ops.toList Vs [] a0)(y:Nat→Value):∀k,k≤ops.size→(∀j,j<k→∃w,R.E w∧vAt Vs j (y j) w)→
 z1d P ops R Q (ops.toList.drop k) (Vs.drop k) (z5J Vs y k) (z5n ops a0 y k)
 |0,_,_=>by simpa [z5J,z5n]using h0
 |k+1,hk,hy=>by
  have ih:=z6M hlen h0 y k (by omega) fun j hj=>hy j (by omega)
  have hk1:k<ops.toList.length:=by rw [Array.length_toList];omega
  have hk2:k<Vs.length:=by omega
  rw [List.drop_eq_getElem_cons (l:=ops.toList) hk1,List.drop_eq_getElem_cons (l:=Vs) hk2]at ih;have h2:=ih.2 (y k) (by
   obtain⟨w,hw,hv⟩:=hy k (by omega);refine⟨w,hw,?_⟩;have e:vAt Vs k=Vs[k]'(by omega):=by simp [vAt,List.getD,List.getElem?_eq_getElem (show k<Vs.length by omega)]
   rw [e]at hv;exact hv)
  have e1:z5J Vs y (k+1)=z5J Vs y k++ [(y k,Vs[k]'(by omega))]:=by
   simp [z5J,List.range_succ,vAt,List.getD,List.getElem?_eq_getElem (show k<Vs.length by omega)]
  have e2:z5n ops a0 y (k+1)=(z5n ops a0 y k).put (ops.toList[k]'(by rw [Array.length_toList];omega)).dst (y k):=by
   rw [z5n]
   congr 1
   simp [z2B,Array.getElem?_eq_getElem (show k<ops.size by omega)]
  rw [e1,e2];exact h2
theorem z3u(hg:z3C ops=true){i j:Nat}(hi:i<ops.size)(h:z15 ops i j=true):j<i:=by
 obtain⟨e,he,rfl,hb⟩:=(z12 (Array.getElem?_eq_getElem hi)).1 h;exact(z3S hg).1 i _ (Array.getElem?_eq_getElem hi) e he hb
theorem z8X(hg:z3C ops=true)(hR:R.Ok ops Vs)(hlen:Vs.length=ops.size)
 (h0:z1d P ops R Q ops.toList Vs [] a0) {w:World} (hE:R.E w) {L:Nat→Bool} {x:Nat→Value} (hx:∀j,j<ops.size→L j=true→vAt Vs j (x j) w) (hcl:∀ (i:Nat) (o:Oper),ops[i]? =some o→L i=true→∀e∈o.after,Region.binds .any e=true→L e.on=true) (hC:∀j,j<ops.size→L j=false→R.C j w):
 ∀k,k≤ops.size→∃ (y:Nat→Value) (w':World),R.E w'∧(∀j,L j=true→y j=x j)∧(∀j,j<ops.size→L j=true∨j<k→vAt Vs j (y j) w')∧∀j,j<ops.size→L j=false→k≤j→R.C j w'
 |0,_=>⟨x,w,hE,fun _ _=>rfl,fun j hj h=>h.elim (hx j hj) (fun h=>by omega),fun j hj hl _=>hC j hj hl⟩
 |k+1,hk=>by
  obtain⟨y,w',hE',hyx,hy,hC'⟩:=z8X hg hR hlen h0 hE hx hcl hC k (by omega);by_cases hL:L k=true
  ·refine⟨y,w',hE',hyx,fun j hj h=>hy j hj ?_,fun j hj hl hkj=>hC' j hj hl (by omega)⟩;rcases h with h|h
   ·exact .inl h
   ·by_cases hjk:j=k
    ·subst hjk;exact .inl hL
    ·exact .inr (by omega)
  ·have hL':L k=false:=by simpa using hL
   have hcw:=hC' k (by omega) hL' (Nat.le_refl _);have hat:=z6M hlen h0 y k (by omega) fun j hj=>⟨w',hE',hy j (by omega) (.inr hj)⟩
   have hk1:k<ops.toList.length:=by rw [Array.length_toList];omega
   have hk2:k<Vs.length:=by omega
   rw [List.drop_eq_getElem_cons (l:=ops.toList) hk1,List.drop_eq_getElem_cons (l:=Vs) hk2]at hat;have e:vAt Vs k=Vs[k]'(by omega):=by simp [vAt,List.getD,List.getElem?_eq_getElem (show k<Vs.length by omega)]
   have hex:∃v w'',(w''=w'∨R.S k w' w'')∧vAt Vs k v w'':=by
    have h1:=hat.1;rw [zAc]at h1
    split at h1
    ·obtain⟨v,w'',hbb,hv⟩:=z4E (h1 w' hcw fun e he hbd x W hxW=>by
      obtain⟨hlt,rfl,rfl⟩:=z3a hxW;exact hy _ (by omega) (.inr hlt))
     exact⟨v,w'',.inr hbb,by rw [e];exact hv⟩
    ·exact⟨undef,w',.inl rfl,by rw [e];exact h1 w' hcw⟩
   obtain⟨v,w'',hst,hv⟩:=hex;refine⟨fun j=>if j=k then v else y j,w'',?_,fun j hj=> ?_,fun j hj h=> ?_,fun j hj hl hkj=> ?_⟩
   ·rcases hst with rfl|hst
    ·exact hE'
    ·exact hR.E k (by omega) _ _ hst hE'
   ·have hne:j≠k:=by rintro rfl;exact hL hj
    simp only [hne,if_false];exact hyx j hj
   ·by_cases hjk:j=k
    ·subst hjk;simpa using hv
    ·simp only [hjk,if_false];have h4:=hy j hj (h.elim .inl fun h=> .inr (by omega));rcases hst with rfl|hst
     ·exact h4
     ·refine hR.V k j (by omega) hj (fun e=>hjk e.symm) ?_ _ _ _ hst h4;cases hwt:z15 ops j k with
      |false=>rfl
      |true=>
       have hkj:=z3u hg hj hwt;rcases h with h|h
       ·obtain⟨e,he,he2,hbd⟩:=(z12 (Array.getElem?_eq_getElem hj)).1 hwt;have:=hcl j _ (Array.getElem?_eq_getElem hj) h e he hbd;rw [he2,hL']at this;cases this
       ·omega
   ·have h4:=hC' j hj hl (by omega);rcases hst with rfl|hst
    ·exact h4
    ·refine hR.C k j (by omega) hj (by omega) ?_ _ _ hst h4;cases hwt:z15 ops k j with
     |false=>rfl
     |true=>exact absurd (z3u hg (by omega) hwt) (by omega)
theorem zFa(hg:z3C ops=true)(hR:R.Ok ops Vs)(hlen:Vs.length=ops.size)
 (h0:z1d P ops R Q ops.toList Vs [] a0) {Q':Exit→Act→World→Prop} (hQ:∀a w,Q a w→Q' .normal a w):
 ∀ (fuel:Nat) (listed:Array Bool) (a:Act) (w:World) (x:Nat→Value),listed.size=ops.size→R.E w→(∀j,j<ops.size→listed.getD j false=false→R.C j w)→Laid ops a0 (fun j=>if listed.getD j false then some (x j)else none) a→
   (∀j,j<ops.size→listed.getD j false=true→vAt Vs j (x j) w)→(∀ (i:Nat) (o:Oper),ops[i]? =some o→listed.getD i false=true→∀e∈o.after,Region.binds .any e=true→listed.getD e.on false=true)→
   unl ops.size listed≤fuel→wpAny P .any ops Q' fuel listed a w:=by
 obtain⟨hs1,hs2,hs3,hs4⟩:=z3S hg;have hlt:∀ {i:Nat} {o:Oper},ops[i]? =some o→i<ops.size:=fun ho=>(Array.getElem?_eq_some_iff.1 ho).1
 have hend:∀ (listed:Array Bool) (a:Act) (w:World) (x:Nat→Value),listed.size=ops.size→R.E w→Laid ops a0 (fun j=>if listed.getD j false then some (x j)else none) a→
  (∀j,j<ops.size→listed.getD j false=true→vAt Vs j (x j) w)→Region.ready .any ops listed= []→Q' .normal a w:=by
  intro listed a w x hsz hw hL hx hr;have hall:∀n,∀j,j<n→j<ops.size→listed.getD j false=true:=by
   intro n
   induction n with
   |zero=>intro j hj;omega
   |succ n ih=>
    intro j hj hjs;rcases Nat.lt_or_ge j n with hjn|hjn
    ·exact ih j hjn hjs
    ·obtain rfl:j=n:=by omega
     cases hlj:listed.getD j false with
     |true=>rfl
     |false=>
      exfalso;have:j∈Region.ready .any ops listed:=mem_ready.2 ⟨by
       have hj':j<listed.size:=by omega
       simpa [Array.getD,hj']using hlj,ops[j],Array.getElem?_eq_getElem hjs,fun e he hb=>ih e.on (hs1 j _ (Array.getElem?_eq_getElem hjs) e he hb) (by have:=hs1 j _ (Array.getElem?_eq_getElem hjs) e he hb;omega)⟩
      rw [hr]at this;cases this
  have hat:=z6M hlen h0 x ops.size (Nat.le_refl _) fun j hj=>⟨w,hw,hx j hj (hall _ j hj hj)⟩
  rw [List.drop_of_length_le (by simp),List.drop_of_length_le (by omega)]at hat;have hq:=hat w hw fun j x' W hxW=>by
   obtain⟨hj,rfl,rfl⟩:=z3a hxW;exact hx j hj (hall _ j hj hj)
  have he:a=z5n ops a0 x ops.size:=Laid.same hL ((z2h hg a0 x ops.size (Nat.le_refl _)).congr fun j hj=>by simp only [hj,if_true,hall _ j hj hj]);rw [he];exact hQ _ _ hq
 intro fuel
 induction fuel with
 |zero=>
  intro listed a w x hsz hw hC hL hx hcl hf;have hr:Region.ready .any ops listed= []:=by
   rw [List.eq_nil_iff_forall_not_mem];intro i hi;obtain⟨h1,o,ho,_⟩:=mem_ready.1 hi;have:i∈(List.range ops.size).filter fun j=> !listed.getD j true:=List.mem_filter.2 ⟨List.mem_range.2 (hlt ho),by rw [h1];rfl⟩
   have hz:((List.range ops.size).filter fun j=> !listed.getD j true)= []:=List.eq_nil_of_length_eq_zero (by unfold unl at hf;omega);rw [hz]at this;cases this
  exact⟨hr,hend listed a w x hsz hw hL hx hr⟩
 |succ fuel ih=>
  intro listed a w x hsz hw hC hL hx hcl hf;refine⟨fun hr=>hend listed a w x hsz hw hL hx hr,fun i hi=> ?_⟩;obtain⟨hi1,o,ho,hdeps⟩:=mem_ready.1 hi;have hin:=hlt ho;have hi2:=zBj hi1;have eV:vAt Vs i=Vs[i]'(by omega):=by simp [vAt,List.getD,List.getElem?_eq_getElem (show i<Vs.length by omega)]
  obtain⟨y,w',hE',hyx,hy,_⟩:=z8X hg hR hlen h0 hw (L:=fun j=>listed.getD j false) hx hcl hC i (by omega);have hat:=z6M hlen h0 y i (by omega) fun j hj=>⟨w',hE',hy j (by omega) (.inr hj)⟩
  have hk1:i<ops.toList.length:=by rw [Array.length_toList];omega
  have hk2:i<Vs.length:=by omega
  rw [List.drop_eq_getElem_cons (l:=ops.toList) hk1,List.drop_eq_getElem_cons (l:=Vs) hk2]at hat;have eo:ops.toList[i]'(by simpa using hin)=o:=by
   have:=Array.getElem?_eq_getElem hin;rw [ho]at this;simpa using (Option.some.inj this).symm
  rw [eo,←eV]at hat;have hlex:=z2h hg a0 y i (by omega);have hag:∀t∈o.looksAt ops,a.tmps[t]? =(z5n ops a0 y i).tmps[t]? :=by
   intro t ht;by_cases hj:∃j,j<ops.size∧z2B ops j=some t
   ·obtain⟨j,hjn,hjd⟩:=hj;have only:∀j',j'<ops.size→z2B ops j'=some t→j'=j:=fun j' h1 h2=>hs2 j' j t h1 hjn h2 hjd
    have hother:(listed.getD j false=false)→i≤j→a.tmps[t]? =(z5n ops a0 y i).tmps[t]? :=fun h1 h2=>by
     rw [hL.off t fun j' hj' hd'=>by rw [only j' hj' hd',h1];rfl,hlex.off t fun j' hj' hd'=>by
      rw [only j' hj' hd'];have:¬j<i:=by omega
      simp [this]]
    rcases hs3 i j o t ho hjn hjd ht with h|h|h
    ·obtain⟨e,he,rfl,hbd⟩:=(z12 ho).1 h;have hl:=hdeps e he hbd;have hji:=hs1 i o ho e he hbd;rw [hL.put e.on t (x e.on) hjn hjd (by rw [hl];rfl),hlex.put e.on t (y e.on) hjn hjd (by simp [hji]),hyx e.on hl]
    ·obtain⟨e,he,rfl,hbd⟩:=(z12 (Array.getElem?_eq_getElem hjn)).1 h;have hlt2:=hs1 j _ (Array.getElem?_eq_getElem hjn) e he hbd;refine hother ?_ (by omega);cases hlj:listed.getD j false with
     |false=>rfl
     |true=>
      have:=hcl j _ (Array.getElem?_eq_getElem hjn) hlj e he hbd;rw [hi2]at this;cases this
    ·subst h;exact hother hi2 (Nat.le_refl _)
   ·rw [hL.off t fun j hjn hjd=>absurd ⟨j,hjn,hjd⟩ hj,hlex.off t fun j hjn hjd=>absurd ⟨j,hjn,hjd⟩ hj]
  obtain⟨hex,hwant⟩:=z5g (ops:=ops) (hs4 i o · · ho) hag;have hnext:∀v w2,(w2=w∨R.S i w w2)→vAt Vs i v w2→wpAny P .any ops Q' fuel (listed.setIfInBounds i true) (a.put o.dst v) w2:=by
   intro v w2 hst hv;have hset:∀j,(listed.setIfInBounds i true).getD j false=if j=i then true else listed.getD j false:=fun j=>by
    by_cases hji:j=i
    ·subst hji;have:j<listed.size:=by omega
     simp [Array.getD,this]
    ·rw [getD_set_ne false (fun e=>hji e.symm)];simp [hji]
   refine ih _ _ _ (fun j=>if j=i then v else x j) (by simpa using hsz) ?_ ?_ ?_ ?_ ?_ ?_
   ·rcases hst with rfl|hst
    ·exact hw
    ·exact hR.E i hin _ _ hst hw
   ·intro j hj hlj;rw [hset]at hlj;by_cases hji:j=i
    ·simp [hji]at hlj
    ·simp only [hji,if_false]at hlj;have h4:=hC j hj hlj;rcases hst with rfl|hst
     ·exact h4
     ·refine hR.C i j hin hj (fun e=>hji e.symm) ?_ _ _ hst h4;cases hwt:z15 ops i j with
      |false=>rfl
      |true=>
       obtain⟨e,he,rfl,hbd⟩:=(z12 ho).1 hwt;have:=hdeps e he hbd;rw [hlj]at this;cases this
   ·refine(hL.next hg ho (by rw [hi2];rfl) v).congr fun j hj=> ?_
    rw [hset];by_cases hji:j=i<;>simp [hji]
   ·intro j hj hlj;rw [hset]at hlj;by_cases hji:j=i
    ·subst hji;simpa using hv
    ·simp only [hji,if_false]at hlj ⊢;have h4:=hx j hj hlj;rcases hst with rfl|hst
     ·exact h4
     ·refine hR.V i j hin hj (fun e=>hji e.symm) ?_ _ _ _ hst h4;cases hwt:z15 ops j i with
      |false=>rfl
      |true=>
       obtain⟨e,he,he2,hbd⟩:=(z12 (Array.getElem?_eq_getElem hj)).1 hwt;have:=hcl j _ (Array.getElem?_eq_getElem hj) hlj e he hbd;rw [he2,hi2]at this;cases this
   ·intro k ok hok hlk e he hbd;rw [hset]at hlk ⊢;by_cases hki:k=i
    ·subst hki;obtain rfl:ok=o:=by rw [ho]at hok;exact(Option.some.inj hok).symm
     have:=hdeps e he hbd;by_cases h':e.on=k<;>simp [h',this]
    ·simp only [hki,if_false]at hlk;have:=hcl k ok hok hlk e he hbd;by_cases h':e.on=i<;>simp [h',this]
   ·have:unl ops.size (listed.setIfInBounds i true)<unl ops.size listed:=by
     refine z2M (List.range ops.size) (fun j _ hq=> ?_) i (List.mem_range.2 hin) (by rw [hi1];rfl) ?_
     ·by_cases hji:j=i
      ·subst hji;rw [hi1];rfl
      ·rwa [getD_set_ne true (fun e=>hji e.symm)]at hq
     ·have:i<listed.size:=by omega
      simp [Array.getD,this]
    omega
  unfold wpOp;simp only [ho];rw [hwant];have h1:=hat.1;rw [zAc]at h1;have hci:=hC i hin hi2
  split
  ·rename_i hwt;rw [if_pos hwt]at h1;refine .inl (z6w (S:=R.S i) (V:=vAt Vs i) ?_ fun v w2 hb2 hv=>hnext v w2 (.inr hb2) hv);unfold steps;rw [hex];exact h1 w hci fun e he hbd x' W hxW=>by
    obtain⟨hlt2,rfl,rfl⟩:=z3a hxW;have hl:=hdeps e he hbd;rw [hyx _ hl];exact hx _ (by omega) hl
  ·rename_i hwt;rw [if_neg hwt]at h1;exact hnext undef w (.inl rfl) (h1 w hci)
theorem z3m{id:Nat}{Q':Exit→Act→World→Prop}{w0:World}(l:List Oper)(hm:P.follows .mixedOrders=true)(hg:z3C l.toArray=true)(hR:R.Ok l.toArray Vs)(hlen:Vs.length=l.length)
 (hE:R.E w0.drew) (hC:∀j,j<l.toArray.size→R.C j w0.drew)
 (h0:z1d P l.toArray R (fun a w=>Q' .normal a w) l Vs [] a0):(Code.region id l.toArray true).wp P Q' a0 w0:=by
 have hno:∀j,(Array.replicate l.toArray.size false).getD j false=false:=fun j=>by unfold Array.getD;split<;>simp
 refine wp_region_any hm (zFa (Q:=fun a w=>Q' .normal a w) hg hR (by simpa using hlen) (by simpa using h0) (fun a w h=>h) _ _ _ _ (fun _=>undef) (by simp) hE (fun j hj _=>hC j hj) ?_ ?_ ?_ ?_)
 ·refine(Laid.start a0).congr fun j hj=> ?_
  rw [hno];rfl
 ·intro j hj h;rw [hno]at h;cases h
 ·intro i o ho h;rw [hno]at h;cases h
 ·unfold unl;exact Nat.le_trans (List.length_filter_le _ _) (by simp)
structure Pt where
 i:Nat
 g:Nat
 t:TypeId
 o:Nat
 n:Nat
def Pt.hits(p:Pt)(b k:Nat):Prop:=p.g=b∧p.o≤k∧k<p.o+p.n
def zEM(p:Pt)(w w':World):Prop:=∃cs cs',Blk w p.g p.t cs∧cs'.size=cs.size∧(∀k,¬p.hits p.g k→cs'[k]? =cs[k]?)∧w'=w.setRow p.g cs'
theorem z2m(w:World)(g:Nat)(cs:Array Value)(b:Nat)(hb:b≠g):(w.setRow g cs).heap[b]? =w.heap[b]? :=by
 unfold World.setRow;simp only [Array.getElem?_modify]
 split
 ·rename_i h;exact absurd h.symm hb
 ·rfl
theorem z3k(w:World)(g:Nat)(cs:Array Value):(w.setRow g cs).heap.size=w.heap.size:=by simp [World.setRow]
theorem Blk.same{w:World}{g:Nat}{t t':TypeId}{cs cs':Array Value}(h:Blk w g t cs)(h':Blk w g t' cs'):t=t'∧cs=cs':=by
 unfold Blk at h h';rw [h]at h';injection h' with h'
 injection h' with h1 h2
 exact⟨h2,h1⟩
structure Kept(X:Nat→Nat→Prop)(w w':World):Prop where
 os:w'.os=w.os
 tape:w'.tape=w.tape
 output:w'.output=w.output
 size:w.heap.size≤w'.heap.size
 blk:∀b t cs,Blk w b t cs→∃cs',Blk w' b t cs'∧cs'.size=cs.size∧∀k,¬X b k→cs'[k]? =cs[k]?
 rest:∀b,b<w.heap.size→(∀t cs,¬Blk w b t cs)→w'.heap[b]? =w.heap[b]?
theorem Kept.drew(X:Nat→Nat→Prop)(w:World):Kept X w w.drew:=⟨rfl,rfl,rfl,Nat.le_refl _,fun _ _ cs h=>⟨cs,h,rfl,fun _ _=>rfl⟩,fun _ _ _=>rfl⟩
section
variable {X Y:Nat→Nat→Prop} {w w1 w2:World}
theorem Kept.mono(h:Kept X w w1)(hX:∀b k,X b k→Y b k):Kept Y w w1:=⟨h.os,h.tape,h.output,h.size,fun b t cs hb=>by
 obtain⟨cs',h1,h2,h3⟩:=h.blk b t cs hb;exact⟨cs',h1,h2,fun k hk=>h3 k fun e=>hk (hX b k e)⟩,h.rest⟩
theorem Kept.later(h:Kept X w w1)(k:Below w1.heap.size w1 w2):Kept X w w2:=⟨k.os.trans h.os,k.tape.trans h.tape,k.output.trans h.output,Nat.le_trans h.size k.size,fun b t cs hb=>by
 obtain⟨cs',h1,h2,h3⟩:=h.blk b t cs hb;exact⟨cs',h1.later k,h2,h3⟩,fun b hb hn=>(k.block b (Nat.lt_of_lt_of_le hb h.size)).trans (h.rest b hb hn)⟩
theorem Kept.puts(h:Kept X w w1){p:Pt}(k:zEM p w1 w2)(hX:∀k,p.hits p.g k→X p.g k):Kept X w w2:=by
 obtain⟨cs,cs',h1,h2,h3,rfl⟩:=k;refine⟨h.os,h.tape,h.output,by rw [z3k];exact h.size,fun b t ds hb=> ?_,fun b hb hn=> ?_⟩
 ·obtain⟨ds',g1,g2,g3⟩:=h.blk b t ds hb;by_cases hbg:b=p.g
  ·subst hbg;obtain⟨rfl,rfl⟩:=g1.same h1;exact⟨cs',g1.setRow cs',h2.trans g2,fun k hk=>(h3 k fun e=>hk (hX k e)).trans (g3 k hk)⟩
  ·exact⟨ds',(z2m w1 p.g cs' b hbg).trans g1,g2,g3⟩
 ·by_cases hbg:b=p.g
  ·subst hbg;have:=h.rest _ hb hn;refine absurd ?_ (hn p.t cs);unfold Blk at h1 ⊢;rw [←this];exact h1
  ·exact(z2m w1 p.g cs' b hbg).trans (h.rest b hb hn)
theorem Kept.at(h:Kept X w w1){g:Nat}{t:TypeId}{cs:Array Value}(hb:Blk w g t cs)(hX:∀k,¬X g k):Blk w1 g t cs:=by
 obtain⟨cs',h1,h2,h3⟩:=h.blk g t cs hb;obtain rfl:cs'=cs:=Array.ext_getElem? fun k=>h3 k (hX k)
 exact h1
theorem Kept.heap(h:Kept X w w1){b:Nat}(hb:b<w.heap.size)(hX:∀k,¬X b k):w1.heap[b]? =w.heap[b]? :=by
 by_cases hn:∃t cs,Blk w b t cs
 ·obtain⟨t,cs,hbk⟩:=hn;have:=h.at hbk hX;unfold Blk at this hbk;rw [this,hbk]
 ·exact h.rest b hb fun t cs e=>hn ⟨t,cs,e⟩
theorem Kept.below(h:Kept X w w1){B:Nat}(hB:B≤w.heap.size)(hX:∀b k,X b k→B≤b):Below B w w1:=
 ⟨h.os,h.tape,h.output,h.size,fun b hb=>h.heap (Nat.lt_of_lt_of_le hb hB) fun k e=>by have:=hX b k e;omega⟩
theorem Kept.cell(h:Kept X w w1){b k:Nat}{v:Value}(hc:w.cell? ⟨b,k,none⟩=some v)(hX:¬X b k):w1.cell? ⟨b,k,none⟩=some v:=by
 by_cases hn:∃t cs,Blk w b t cs
 ·obtain⟨t,cs,hbk⟩:=hn;obtain⟨cs',h1,_,h3⟩:=h.blk b t cs hbk;rw [hbk.cell]at hc;rw [h1.cell,h3 k hX];exact hc
 ·have hlt:b<w.heap.size:=by
   rcases Nat.lt_or_ge b w.heap.size with h1|h1
   ·exact h1
   ·simp [World.cell?,Array.getElem?_eq_none h1]at hc
  have:=h.rest b hlt fun t cs e=>hn ⟨t,cs,e⟩
  rw [World.cell?_of_block (a:=⟨b,k,none⟩) this];exact hc
end
def ptS(st:List Pt)(i:Nat):World→World→Prop:=fun w w'=>match st.find? (fun p=>p.i==i)with
 |some p=>zEM p w w'
 |none=>Below w.heap.size w w'
def ptX(ops:Array Oper)(st:List Pt)(j:Nat):Nat→Nat→Prop:=fun b k=>∃p∈st,p.i≠j∧z15 ops p.i j=false∧p.hits b k
def ptE(st:List Pt):Nat→Nat→Prop:=fun b k=>∃p∈st,p.hits b k
def ptR(ops:Array Oper)(st:List Pt)(w0:World):RegFr:=⟨ptS st,fun j=>Kept (ptX ops st j) w0,Kept (ptE st) w0⟩
theorem z6f{ops:Array Oper}{st:List Pt}{j:Nat}(b k:Nat)(h:ptX ops st j b k):ptE st b k:=by
 obtain⟨p,h1,_,_,h2⟩:=h;exact⟨p,h1,h2⟩
def z7H(p:Pt)(V:VP):Prop:=∀v w w',zEM p w w'→V v w→V v w'
def zH2(ops:Array Oper)(st:List Pt):Nat→List VP→Prop
 |_,[]=>True
 |j,V::Vs=>(Stays V∧∀p∈st,p.i≠j→z15 ops j p.i=false→z7H p V)∧zH2 ops st (j+1) Vs
theorem allOk{st:List Pt}:∀ {Vs:List VP} {n:Nat},zH2 ops st n Vs→∀j,j<Vs.length→Stays (vAt Vs j)∧∀p∈st,p.i≠n+j→z15 ops (n+j) p.i=false→z7H p (vAt Vs j)
 |V::Vs,n,h,0,_=>h.1
 |V::Vs,n,h,j+1,hj=>by
  have:=allOk h.2 j (by simp only [List.length_cons]at hj;omega);rw [show n+1+j=n+(j+1)from by omega]at this;exact this
theorem zBY{st:List Pt}{i:Nat}{p:Pt}(h:st.find? (fun p=>p.i==i)=some p):p∈st∧p.i=i:=by
 have h1:=List.find?_some h;exact⟨List.mem_of_find?_eq_some h,by simpa using h1⟩
theorem ptR_ok{st:List Pt}{w0:World}(hlen:Vs.length=ops.size)(h:zH2 ops st 0 Vs):(ptR ops st w0).Ok ops Vs:=by
 refine⟨fun i j hi hj hne hwt x w w' hS hv=> ?_,fun i j hi hj hne hwt w w' hS hC=> ?_,fun i hi w w' hS hE=> ?_⟩
 ·have h1:=allOk h j (by omega);rw [Nat.zero_add]at h1;simp only [ptR,ptS]at hS
  split at hS
  ·rename_i p hp;obtain⟨hm,rfl⟩:=zBY hp;exact h1.2 p hm hne hwt x w w' hS hv
  ·exact h1.1 x w w' hS hv
 ·simp only [ptR,ptS]at hS hC ⊢
  split at hS
  ·rename_i p hp;obtain⟨hm,rfl⟩:=zBY hp;exact hC.puts hS fun k hk=>⟨p,hm,hne,hwt,hk⟩
  ·exact hC.later hS
 ·simp only [ptR,ptS]at hS hE ⊢
  split at hS
  ·rename_i p hp;obtain⟨hm,rfl⟩:=zBY hp;exact hE.puts hS fun k hk=>⟨p,hm,hk⟩
  ·exact hE.later hS
theorem z3p{id:Nat}{Q':Exit→Act→World→Prop}{w0:World}{l:List Oper}{a0:Act}(st:List Pt)(hm:P.follows .mixedOrders=true)(hg:z3C l.toArray=true)
 (h:∃Vs,z1d P l.toArray (ptR l.toArray st w0) (fun a w=>Q' .normal a w) l Vs [] a0∧zH2 l.toArray st 0 Vs∧Vs.length=l.length):(Code.region id l.toArray true).wp P Q' a0 w0:=by
 obtain⟨Vs,h0,hS,hlen⟩:=h;exact z3m l hm hg (ptR_ok (by simpa using hlen) hS) hlen (Kept.drew _ _) (fun _ _=>Kept.drew _ _) h0
section
variable {Q:Act→World→Prop} {a:Act} {o:Oper} {rest:List Oper} {Vs:List VP} {env:List (Value×VP)} {st:List Pt} {w0:World}
theorem z0m{c:Value}(hw:Region.wanted o (yielded ops a.tmps)=true)(hs:st.find? (fun p=>p.i==env.length)=none)
 (h1:∀w,Kept (ptX ops st env.length) w0 w→(∀e∈o.after,Region.binds .any e=true→∀ (x:Value) (W:VP),env[e.on]? =some (x,W)→W x w)→z06 P o a w (Is c))
 (h2:∀K:Act→Prop,(∀a',z1d P ops (ptR ops st w0) Q rest Vs (env++ [(c,Is c)]) a'→K a')→K (a.put o.dst c)):z1d P ops (ptR ops st w0) Q (o::rest) (Is c::Vs) env a:=by
 refine⟨?_,fun x ⟨w,_,hx⟩=> ?_⟩
 ·rw [if_pos hw];intro w hC hf;have h3:=h1 w hC hf;have eS:(ptR ops st w0).S env.length=fun w w'=>Below w.heap.size w w':=by funext w w';simp only [ptR,ptS,hs]
  rw [eS];unfold z06 at h3;unfold steps
  revert h3
  cases (execOp a.eval o).run P w with
  |ok n w'=>
   cases n<;>simp only [z0J,z0l]<;>first|exact fun h=>h|exact fun h=>h.2.mono fun e w'' ⟨v,he,hb,hv⟩=>⟨v,he,z1O h.1 hb,hv⟩
  |halt x w'=>simp only [z0J,z0l];exact fun h=>h
 ·obtain rfl:x=c:=hx;exact h2 _ fun _ h=>h
theorem z1p{V:VP}(hw:Region.wanted o (yielded ops a.tmps)=true)(hs:st.find? (fun p=>p.i==env.length)=none)
 (h1:∀w,Kept (ptX ops st env.length) w0 w→(∀e∈o.after,Region.binds .any e=true→∀ (x:Value) (W:VP),env[e.on]? =some (x,W)→W x w)→z06 P o a w V)
 (h2:∀x,(∃w,Kept (ptE st) w0 w∧V x w)→∀K:Act→Prop,(∀a',z1d P ops (ptR ops st w0) Q rest Vs (env++ [(x,V)]) a'→K a')→K (a.put o.dst x)):z1d P ops (ptR ops st w0) Q (o::rest) (V::Vs) env a:=by
 refine⟨?_,fun x hx=>h2 x hx _ fun _ h=>h⟩;rw [if_pos hw];intro w hC hf;have h3:=h1 w hC hf;have eS:(ptR ops st w0).S env.length=fun w w'=>Below w.heap.size w w':=by funext w w';simp only [ptR,ptS,hs]
 rw [eS];unfold z06 at h3;unfold steps
 revert h3
 cases (execOp a.eval o).run P w with
 |ok n w'=>
  cases n<;>simp only [z0J,z0l]<;>first|exact fun h=>h|exact fun h=>h.2.mono fun e w'' ⟨v,he,hb,hv⟩=>⟨v,he,z1O h.1 hb,hv⟩
 |halt x w'=>simp only [z0J,z0l];exact fun h=>h
theorem z7K(h:∀w,Kept (ptE st) w0 w→(∀ (j:Nat) (x:Value) (W:VP),env[j]? =some (x,W)→W x w)→Q a w):z1d P ops (ptR ops st w0) Q [] [] env a:=h
def HasV(g:Nat)(t:TypeId)(R:VP):VP:=fun v w=>v=undef∧∃cs,Blk w g t cs∧R (.agg cs) w
theorem HasV.stays{g:Nat}{t:TypeId}{R:VP}(h:Stays R):Stays (HasV g t R):=fun v w w' hb ⟨h1,cs,h2,h3⟩=>⟨h1,cs,h2.later hb,h _ _ _ hb h3⟩
theorem z1Y{i g n:Nat}{t:TypeId}{b:Nat}(h:b≠g)(k:Nat):¬ptE [⟨i,g,t,0,n⟩] b k:=by
 rintro⟨p,hp,e,_⟩;simp only [List.mem_cons,List.not_mem_nil,or_false]at hp;subst hp;exact h e.symm
theorem Is.pstays(c:Value)(p:Pt):z7H p (Is c):=fun _ _ _ _ h=>h
theorem okIs(ops:Array Oper)(st:List Pt)(j:Nat)(c:Value):Stays (Is c)∧∀p∈st,p.i≠j→z15 ops j p.i=false→z7H p (Is c):=⟨Stays.is c,fun p _ _ _=>Is.pstays c p⟩
end
end
end
section
open Go Go.RowKit
def SameK(ks:List (Option TypeId))(w w':World):Prop:=∀b t,t∈ks→z0H w b=some t→w'.heap[b]? =w.heap[b]?
section
variable {ks:List (Option TypeId)} {w w1 w2:World}
theorem SameK.refl(w:World):SameK ks w w:=fun _ _ _ _=>rfl
theorem zA8{w w':World}{b:Nat}{t:Option TypeId}(h:w'.heap[b]? =w.heap[b]?)(hk:z0H w b=some t):z0H w' b=some t:=by unfold z0H at hk ⊢;rw [h];exact hk
theorem SameK.trans(h:SameK ks w w1)(k:SameK ks w1 w2):SameK ks w w2:=fun b t ht hk=>
 (k b t ht (zA8 (h b t ht hk) hk)).trans (h b t ht hk)
theorem SameK.below(h:Below w.heap.size w w1):SameK ks w w1:=fun b t _ hk=>h.block b (z3B hk)
theorem SameK.not{b:Nat}{t t':Option TypeId}(hk:z0H w b=some t)(ht:t∉ks)(hk':z0H w b=some t'):t'∉ks:=by
 rw [hk]at hk';injection hk' with hk'
 subst hk';exact ht
theorem SameK.setCell{p:Addr}{t:TypeId}{cs:Array Value}(hb:Blk w p.block t cs)(ht:some t∉ks)(u:Value):SameK ks w (w.setCell p u):=fun b t' ht' hk=>
 Below.heap_setCell w p u b fun e=>by
  subst e;exact SameK.not (z0K hb) ht hk ht'
theorem SameK.less{ks':List (Option TypeId)}(h:SameK ks w w1)(hs:∀t∈ks',t∈ks):SameK ks' w w1:=fun b t ht hk=>h b t (hs t ht) hk
theorem KSl.same{e:TypeId}{size n:Nat}{v:Value}{xs:List Value}(h:KSl e size w v n xs)(hs:SameK ks w w1)(he:some e∈ks):KSl e size w1 v n xs:=h.keep fun b hb=>hs b _ he hb
theorem Blk.sameK{g:Nat}{t:TypeId}{cs:Array Value}(h:Blk w g t cs)(hs:SameK ks w w1)(ht:some t∈ks):Blk w1 g t cs:=(hs g _ ht (z0K h)).trans h
theorem MpV.sameK{P:Program}{k:TypeId}{b n:Nat}{f:Int→Option Value}(h:MpV P k w b f n)(hk:z0H w b=some none)(hs:SameK ks w w1)(ht:none∈ks):MpV P k w1 b f n:=h.at (hs b _ ht hk)
theorem Ow.same{e:TypeId}{B:Nat}{v:Value}{xs:List Value}(h:Ow e w B v xs)(hs:SameK ks w w1)(ht:some e∈ks):Ow e w1 B v xs:=by
 obtain⟨h1,h2⟩:=h;refine⟨h1,?_⟩;have hk:=fun b=>z1V (b:=b) (show w.ownsRow B e 1 v xs.length xs from⟨h1,h2⟩)
 rcases h2 with h2|⟨g,cap,cur,hv,hg,hh,r⟩
 ·exact .inl h2
 ·exact .inr ⟨g,cap,cur,hv,hg,(hs g _ ht (hk g (by rw [hv];rfl))).trans hh,r⟩
end
def rcs(rs:List (Nat×List UInt8)):List Value:=rs.flatMap fun r=> [.int .u64 (r.1:Int),.string (st r.2)]
theorem z5f(a b:List (Nat×List UInt8)):rcs (a++b)=rcs a++rcs b:=by simp [rcs]
theorem zBV(rs:List (Nat×List UInt8)):∀u∈rcs rs,u.oneCell'=true:=by
 intro u hu;obtain⟨r,_,hu⟩:=List.mem_flatMap.1 hu;simp at hu;rcases hu with rfl|rfl<;>rfl
theorem zBT:Elem Tryz.prog 127 131 (.agg #[.int .u64 0,.string ⟨#[]⟩]) 2 24:=Elem.mk' Tryz.underlying127 (by kernel_rfl) rfl (by omega)
def Ro(w:World)(B:Nat)(v:Value)(rs:List (Nat×List UInt8)):Prop:=w.ownsRow B 131 2 v rs.length (rcs rs)
theorem z3E{P:Program}{w:World}{ops:Array Oper}{o:Oper}{a:Act}{K:Act→World→Prop}{Q:Exit→Act→World→Prop}{F:Prop}(w0:World)(hd:zHg w0 w)(hgd:o.guard=none)(s x:Operand){t e:TypeId}{z:Value}{size bytes:Nat}
 (E:Elem P t e z size bytes) (ho:o.op= .call {callee:= .builtin .append,args:= #[s,x],argTypes:= #[t,t]})
 {base:Nat} {v:Value} {n:Nat} {xs:List Value} (hown:w0.ownsRow base e size v n xs)
 {S:Nat→Prop} {u:Value} {m:Nat} {news:List Value} (hr:Sl S w0 size u m news) (hs:a.eval s=v) (hx:a.eval x=u) (h1:∀y∈news,y.oneCell'=true)
 (hlen:n+m≤maxLen) (hbytes:(n+m)*bytes≤140737488355328) (hbase:base≤w0.heap.size)
 (h:∀A k c w',w'.ownsRow base e size (.slice A k c) (n+m) (xs++news)→w0.grownBy w' v.ownBlock→K (a.put o.dst (.slice A k c)) w'):
 if Region.wanted o (yielded ops a.tmps)=true then Oper.wp P o a w K Q else F:=by
 have hw:Region.wanted o (yielded ops a.tmps)=true:=by simp [Region.wanted,hgd]
 rw [if_pos hw];obtain⟨d,rfl⟩:=hd;obtain⟨v',w',hrun,h2,h3,h4⟩:=z1k (P:=P) (w0.drewN d) E o.type hown (Sl.drewN hr d) h1 hlen hbytes hbase;obtain⟨A,k,c,rfl⟩:=z0u h2;unfold Oper.wp execOp;simp only [ho,resolve,invoke,builtin,Sem.run_bind,Sem.run_pure,Result.andThen_ok,List.map_toArray,List.map_cons,List.map_nil,hs,hx,hrun];exact h A k c w' h2 ⟨h3.os,h3.tape,h3.output,h3.size,h3.block⟩
theorem Sl.newrec{S:Nat→Prop}(w:World)(r:Nat×List UInt8){g:Nat}(hg:g=w.heap.size)(hS:S g):
 Sl S (w.alloc (.cells #[.int .u64 (r.1:Int),.string (st r.2)] 131)) 2 (.slice (some ⟨g,0,none⟩) 1 1) 1 (rcs [r]):=by
 subst hg;refine⟨by simp [rcs],_,1,rfl,by simp,by simp [maxLen],(fun h=>by cases h),fun _=>⟨_,0,rfl,hS,fun j v hu=> ?_⟩⟩;rw [World.cell?_alloc_new];rw [Nat.zero_add];simpa [rcs]using hu
theorem ro_two{w:World}{B:Nat}{v:Value}{rs:List (Nat×List UInt8)}{r:Nat×List UInt8}{e:TypeId}{t u:TypeId}{b b':Nat}{cs cs':Array Value}(h:w.ownsRow B e 2 v (rs.length+1) (rcs rs++rcs [r]))(hb:Blk w b t cs)(hb':Blk w b' u cs')(h1:e≠t)(h2:e≠u)(hne:b≠b')(x y:Value):
 ((w.setCell ⟨b,0,none⟩ x).setCell ⟨b',0,none⟩ y).ownsRow B e 2 v (rs++ [r]).length (rcs (rs++ [r])):=by
 rw [z5f,List.length_append];exact z2c (z2c h hb h1 0 x) (hb'.far (p:=⟨b,0,none⟩) hne.symm x) h2 0 y
theorem zGU(bl ba B:Nat)(A:Option Addr)(k c:Nat)(rs:List (Nat×List UInt8))(r:Nat×List UInt8)(n a:Nat)(w:World)
 (hl:Blk w bl 127 #[.slice A k c]) (ha:Blk w ba 3 #[.int .i64 (a:Int)]) (hown:Ro w B (.slice A k c) rs) (hB:B≤w.heap.size) (hbl:B≤bl) (hba:B≤ba) (hrs:rs.length≤1099511627776) (hna:a+n≤1099511627776):
 Calls Tryz.prog 149 #[zCg r,.int .i64 n,.pointer (some ⟨bl,0,none⟩),.pointer (some ⟨ba,0,none⟩)] w fun e w'=>e= .returned (.tuple #[])∧∃A' k' c',
  Blk w' bl 127 #[.slice A' k' c']∧Blk w' ba 3 #[.int .i64 ((a+n:Nat):Int)]∧Ro w' B (.slice A' k' c') (rs++ [r])∧Below B w w':=by
 obtain⟨q,t⟩:=r;unfold zCg;have c0:(w.alloc (.cells #[.int .u64 (q:Int),.string (st t)] 131)).cell? ⟨bl,0,none⟩=some (.slice A k c):=(hl.alloc _).cell 0;have c1:(w.alloc (.cells #[.int .u64 (q:Int),.string (st t)] 131)).cell? ⟨ba,0,none⟩=some (.int .i64 (a:Int)):=(ha.alloc _).cell 0;have hwr:IntKind.i64.wrap ((a:Int)+(n:Int))=((a+n:Nat):Int):=by rw [IntWalk.i64_in _ (by omega)];omega
 simp only;have hown1:(w.alloc (.cells #[.int .u64 (q:Int),.string (st t)] 131)).ownsRow B 131 2 (.slice A k c) rs.length (rcs rs):=World.ownsRow.alloc hown _;have q1:Below B w (w.alloc (.cells #[.int .u64 (q:Int),.string (st t)] 131)):=(Below.refl _ _).alloc hB _;have hl1:=hl.alloc (.cells #[.int .u64 (q:Int),.string (st t)] 131);have ha1:=ha.alloc (.cells #[.int .u64 (q:Int),.string (st t)] 131);have hn:=Blk.new w 131 #[.int .u64 (q:Int),.string (st t)];have hsz:B≤(w.alloc (.cells #[.int .u64 (q:Int),.string (st t)] 131)).heap.size:=by simp;omega
 go_enter Tryz.func149,Tryz.ntmps149
 go_wp2_with fail
 generalize hw1:w.alloc (.cells #[.int .u64 (q:Int),.string (st t)] 131)=w1 at*;have d0:w1.cell? ⟨w.heap.size,0,none⟩=some (.int .u64 (q:Int)):=hn.cell 0;have d1:w1.cell? ⟨w.heap.size,1,none⟩=some (.string (st t)):=hn.cell 1;have a0:(w1.alloc (.cells #[.int .u64 (q:Int),.string (st t)] 131)).cell? ⟨bl,0,none⟩=some (.slice A k c):=(hl1.alloc _).cell 0;have a1:(w1.alloc (.cells #[.int .u64 (q:Int),.string (st t)] 131)).cell? ⟨ba,0,none⟩=some (.int .i64 (a:Int)):=(ha1.alloc _).cell 0;have a2:(w1.alloc (.cells #[.int .u64 (q:Int),.string (st t)] 131)).cell? ⟨w.heap.size,0,none⟩=some (.int .u64 (q:Int)):=(hn.alloc _).cell 0;have a3:(w1.alloc (.cells #[.int .u64 (q:Int),.string (st t)] 131)).cell? ⟨w.heap.size,1,none⟩=some (.string (st t)):=(hn.alloc _).cell 1;have f0:=hl1.free 0;have f1:=ha1.free 0;have HO:=zz hown1;have hne:bl≠ba:=Blk.ne hl ha (by decide);have hne2:ba≠bl:=hne.symm;clear hw1 hown hl ha hn hown1;go_region_law (refine z3E (w1.alloc (.cells #[.int .u64 (q:Int),.string (st t)] 131)) (by first|exact⟨0,rfl⟩|exact⟨1,rfl⟩|exact⟨2,rfl⟩|exact⟨3,rfl⟩) rfl (.tmp 6) (.tmp 8) zBT rfl (World.ownsRow.alloc HO.out _) (Sl.newrec (S:=fun _=>True) _ (q,t) rfl trivial) rfl rfl (zBV _) (by simp only [maxLen];omega) (by omega) (by simp;omega) ?_;intro A2 k2 c2 w2 hown2 hg2;have hl2:=(hl1.alloc _).kept (World.ownsRow.alloc HO.out _) hg2 (by decide);have ha2:=(ha1.alloc _).kept (World.ownsRow.alloc HO.out _) hg2 (by decide);have g0:=hl2.free 0;have g1:=ha2.free 0;have g2:=hl2.cell 0;have g3:=ha2.cell 0;simp at g2 g3)
 all_goals
  go_wp2_with fail
  go_end0
  exact⟨rfl,A2,k2,c2,(hl2.put1 _).far (p:=⟨ba,0,none⟩) hne _,by rw [Int.natCast_add];exact(ha2.far (p:=⟨bl,0,none⟩) hne2 _).put1 _,ro_two hown2 hl2 ha2 (by decide) (by decide) hne _ _,((z01 (q1.alloc hsz _) (World.ownsRow.alloc HO.out _) hg2 (by simp;omega)).setCell hbl _).setCell hba _⟩
end
end Go.Proofs.YthbhkdhljlganaaGreatDoor
