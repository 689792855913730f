/- Part 11. -/
import Derived.Test.YthnlcbamjehpdaaGreatDoorViewCollectsJ3
import Derived.Laws.CopyRow
import Derived.Lib.Overlaps
import Derived.Shelf.Spec.SlicesInsert
import Derived.Deep.Cut
import Derived.Deep.DeepCutAuto
import Derived.Laws.Externs
import Derived.ArgAppend
namespace Go.Proofs.YthnlcbamjehpdaaGreatDoor
set_option linter.unusedVariables false
set_option maxHeartbeats 16000000
set_option maxRecDepth 100000
section
open Go Go.RowKit Tryz
section
variable (P:Program)
theorem z1r(w:World)(dT sT ty elem:TypeId)(g o dLen dCap:Nat)(a:Addr)(sLen sCap sz:Nat)(cur:Array Value)(t:TypeId)(cs:List Value)
 (hu:P.underlying dT=some (.slice elem)) (hs:(P.info? elem).map (·.size)=some sz)
 (hg:w.heap[g]? =some (.cells cur t (0,0))) (hn:cs.length=Nat.min sLen dLen*sz)
 (hsrc:∀j v,cs[j]? =some v->w.cell? (a.add j)=some v) (hfit:o+cs.length<=cur.size) (h1:∀v∈cs,v.oneCell'=true):
 (Builtin.copy_ #[dT,sT] ty #[.slice (some ⟨g,o,none⟩) dLen dCap,.slice (some a) sLen sCap]).run P w=
   .ok (goInt (Nat.min sLen dLen)) (w.setRow g (cur.toList.take o++cs++cur.toList.drop (o+cs.length)).toArray):=by
 have hl:=run_loadCells_list (P:=P) w a cs hsrc;have hst:=run_storeCells_at P g o t cs 0 cur w hg (by simpa using hfit) h1;cases hq:P.info? elem with
 |none=>simp [hq]at hs
 |some i=>
  have hi:i.size=sz:=by simpa [hq]using hs
  simp [Builtin.copy_,run_underlying hu,Builtin.lenOf,Builtin.firstCells,sizeOf,typeInfo,hq,hi,<-hn,hl,hst]
theorem z48(w:World)(t tn ty e:TypeId)(i:TypeInfo)(z:Value)(k kn:IntKind)(ht:P.underlying t=some (.slice e))(htn:P.underlying tn=some (.int kn))(hi:P.info? e=some i)(hz:i.zero=some z)
 (base:Option Addr) (sLen sCap:Nat) (olds:List Value) (hold:(Builtin.firstCells i.size sLen (.slice base sLen sCap)).run P w.drew= .ok olds.toArray w.drew)
 (n:Nat) (h0:0<n) (hs:0<i.size) (hg:sCap<sLen+n) (h63:((sLen+n:Nat):Int)<=9223372036854775807) (h48:n*i.bytes<=281474976710656) (hfit:Builtin.nextslicecap (sLen+n) sCap*i.bytes<=281474976710656):
 (Builtin.append_ #[t,tn] ty #[.slice base sLen sCap,.int k n]).run P w=
   .ok (.slice (some ⟨w.heap.size,0,none⟩) (sLen+n) (grownCap w (sLen+n) sCap e))
     (w.drew.alloc (.cells (olds.toArray++Builtin.zeroCells z.cells n++Builtin.zeroCells z.cells (grownCap w (sLen+n) sCap e-(sLen+n))) e)):=by
 have hw:IntKind.i64.wrap (n:Int)=n:=by rw [Z7];omega
 have hn2:¬ (sLen+n<=sCap):=by omega
 have h63':¬ (9223372036854775807<((sLen:Int)+(n:Int))):=by omega
 have h48':¬ (281474976710656<Builtin.nextslicecap (sLen+n) sCap*i.bytes):=by omega
 have h48i:¬ (281474976710656<(n:Int)*(i.bytes:Int)):=by
  rw [<-Int.natCast_mul];omega
 have hneg:¬ ((n:Int)<0):=by omega
 have hns:¬ (n*i.size=0):=Nat.mul_ne_zero (by omega) (by omega);simp [Builtin.append_,run_underlying ht,run_underlying htn,sizeOf,typeInfo,zeroValue,hi,hz,asInt,asIntOf,hw,hn2,hneg,hns,h63',h48',h48i,Question.forced,hold,newRow,grownCap]
end
theorem zJz(R X Y:List Value)(o:Nat)(h:o+X.length+Y.length<=R.length):
 (((R.take o++X++R.drop (o+X.length)).take (o+X.length)++Y++(R.take o++X++R.drop (o+X.length)).drop (o+X.length+Y.length))).take (o+X.length+Y.length)=R.take o++X++Y:=by
 have h1:(R.take o++X++R.drop (o+X.length)).take (o+X.length)=R.take o++X:=by
  rw [ZG (by rw [y6,yC];omega)]
 rw [h1];rw [ZG (by simp only [y6,yC];omega)]
theorem zI0(R X Y:List Value)(o:Nat)(h:o+X.length+Y.length<=R.length):
 (((R.take (o+X.length)++Y++R.drop (o+X.length+Y.length)).take o++X++(R.take (o+X.length)++Y++R.drop (o+X.length+Y.length)).drop (o+X.length))).take (o+X.length+Y.length)=R.take o++X++Y:=by
 have h1:(R.take (o+X.length)++Y++R.drop (o+X.length+Y.length)).take o=R.take o:=by
  rw [yM,Yz (by rw [yC];omega),Q9,Ye (by omega)]
 have h2:(R.take (o+X.length)++Y++R.drop (o+X.length+Y.length)).drop (o+X.length)=Y++R.drop (o+X.length+Y.length):=by
  rw [yM,List.drop_left' (by rw [yC];omega)]
 rw [h1,h2];rw [show R.take o++X++(Y++R.drop (o+X.length+Y.length))=(R.take o++X++Y)++R.drop (o+X.length+Y.length) by simp only [yM],ZG (by simp only [y6,yC];omega)]
theorem z8u:(Tryz.prog.info? 94).map (·.size)=some 2:=by
 obtain⟨i0,hi,hz,hsz,hby⟩:=elemCel.info;rw [hi];simp [hsz]
theorem zBQ(x:Cel):∀y∈ccs [x],y.oneCell'=true:=z2b [x]
theorem Sl.celBlk{w:World}{vb:Nat}{x:Cel}(h:Blk w vb 94 #[.string (st x.1),.string (st x.2)]):Sl (fun b=>b=vb) w 2 (.slice (some ⟨vb,0,none⟩) 1 1) 1 (ccs [x]):=by
 refine⟨rfl,some ⟨vb,0,none⟩,1,rfl,by omega,by simp [maxLen],(fun h=>by cases h),fun _=>⟨vb,0,rfl,rfl,fun j u hu=> ?_⟩⟩;rcases j with _|_|j
 .cases hu;exact h.cell 0
 .cases hu;exact h.cell 1
 .simp [ccs]at hu
theorem zBX(B:Nat)(A:Option Addr)(c:Nat)(l:List Cel)(x:Cel)(vb:Nat)(w:World)(ho:Co w B (.slice A l.length c) l)(hx:Blk w vb 94 #[.string (st x.1),.string (st x.2)])(hl:l.length<=1000000)(hB:B<=w.heap.size):
 Calls prog 179 #[.slice A l.length c,.int .i64 (l.length:Int),.slice (some ⟨vb,0,none⟩) 1 1] w fun e w'=>∃A' c',e= .returned (.slice A' (l.length+1) c')/\Co w' B (.slice A' (l.length+1) c') (l++ [x])/\Below B w w':=by
 have HO:=zz ho;have HX:=zz (Sl.celBlk hx);obtain⟨_,A',c',hv,hlc,hcm,hA0,_⟩:=ho.cs;cases hv
 have hM1:Hid (l.length+1<=maxLen):=by simp only [Hid,maxLen];omega
 have hM2:Hid ((l.length+1)*32<=140737488355328):=by rw [Hid];omega
 have HB:=zz hB;clear ho hx hB hA0;go_enter func179,ntmps179
 go_wp2_with (at_builtin;refine z0A _ rfl (.tmp 23) (.tmp 24) elemCel rfl HO.out HX.out rfl rfl (zBQ x) hM1.out hM2.out HB.out ?_;intro A5 k5 c5 w5 hown5 hg5 hat5)
 all_goals
  obtain rfl:=z0h hown5;go_ret
  refine⟨A5,c5,rfl,?_,z01 (y7 _ _) HO.out hg5 HB.out⟩;unfold Co;rw [y6,Y7,z19];exact hown5
theorem zAY(B g cap:Nat)(cur:Array Value)(l:List Cel)(x:Cel)(i vb:Nat)(w:World)(hBg:B<=g)(hg:w.heap[g]? =some (.cells cur 94 (0,0)))(hcl:l.length<=cap)(hcm:cap<=maxLen)(hcs:cur.size=cap*2)(hct:cur.toList.take (l.length*2)=ccs l)
 (hx:Blk w vb 94 #[.string (st x.1),.string (st x.2)]) (hi:i<l.length) (hl:l.length<=1000000) (hB:B<=w.heap.size) (hroom:cap<l.length+1):
 Calls prog 179 #[.slice (some ⟨g,0,none⟩) l.length cap,.int .i64 (i:Int),.slice (some ⟨vb,0,none⟩) 1 1] w fun e w'=>∃A' c',e= .returned (.slice A' (l.length+1) c')/\Co w' B (.slice A' (l.length+1) c') (l.take i++x::l.drop i)/\Below B w w':=by
 obtain⟨n,hn⟩:∃n,l.length=n:=⟨_,rfl⟩;rw [hn]at hcl hct hi hl hroom ⊢;obtain⟨i0,hinf,hz,hsz,hby⟩:=elemCel.info;have hcelg:∀j v,(ccs l)[j]? =some v->w.cell? ⟨g,j,none⟩=some v:=fun j v hj=>by
  rw [<-hct]at hj;have h1:=(yg.1 hj).1;rw [yC,ye]at h1;rw [Yy (by omega),Zg]at hj;simp [World.cell?,hg,hj]
 have hold:(Builtin.firstCells i0.size i (.slice (some ⟨g,0,none⟩) i cap)).run prog w.drew= .ok (ccs (l.take i)).toArray w.drew:=by
  rw [hsz];refine run_firstCells_some w.drew 2 i ⟨g,0,none⟩ i cap (ccs (l.take i)) (by rw [z1c,yC];omega) (fun j v hj=> ?_);rw [Zt,Y4];refine hcelg j v ?_;rw [<-z53]at hj;have h1:=(yg.1 hj).1;rw [yC]at h1
  rwa [Yy (by omega)]at hj
 have hap:=fun ty=>z48 prog w 53 3 ty 94 i0 (.agg #[.string ⟨#[]⟩,.string ⟨#[]⟩]) .i64 .i64 underlying53 underlying3 hinf hz (some ⟨g,0,none⟩) i cap (ccs (l.take i)) hold (n+1-i) (by omega) (by omega) (by omega) (by omega) (by rw [hby];omega) (by rw [hby];exact growslice_fits (by omega) (by omega))
 have hni:(n:Int)+1-(i:Int)=((n+1-i:Nat):Int):=by omega
 have hin:i+(n+1-i)=n+1:=by omega
 rw [hin]at hap;obtain⟨cap',hcap'⟩:∃cap',grownCap w (n+1) cap 94=cap':=⟨_,rfl⟩;have hge:n+1<=cap':=by rw [<-hcap'];exact grownCap_ge w (n+1) cap 94
 have hlm:cap'<=maxLen:=by rw [<-hcap'];exact grownCap_le_maxLen w (n+1) cap 94 (by simp only [maxLen];omega)
 rw [hcap']at hap;obtain⟨row,hrow⟩:∃row,(ccs (l.take i)).toArray++Builtin.zeroCells (Value.agg #[.string ⟨#[]⟩,.string ⟨#[]⟩]).cells (n+1-i)++Builtin.zeroCells (Value.agg #[.string ⟨#[]⟩,.string ⟨#[]⟩]).cells (cap'-(n+1))=row:=⟨_,rfl⟩;have hrs:row.size=cap'*2:=by
  rw [<-hrow];simp only [Builtin.zeroCells,Array.size_append,Array.size_map,Array.size_range,Yo,z1c,yC,hn];show min i n*2+(n+1-i)*2+(cap'-(n+1))*2=cap'*2;rw [Ye (by omega)];omega
 have hrt:row.toList.take (i*2)=ccs (l.take i):=by
  rw [<-hrow,Array.toList_append,Array.toList_append,yM,Yz (by simp only [z1c,yC];omega),ya (by simp only [z1c,yC];omega)]
 rw [hrow]at hap;have hne1:¬ (cap=i):=by omega
 have hne2:¬ (cap'=i):=by omega
 have hne3:¬ (cap'=i+1):=by omega
 have hz2:¬ ((i:Int)=(n:Int)):=by omega
 have hw1:IntKind.i64.wrap ((n:Int)+1-(i:Int))=((n+1-i:Nat):Int):=by rw [hni,Z7];omega
 have hw2:IntKind.i64.wrap ((n:Int)+1)=(n:Int)+1:=by rw [Z7];omega
 have hw3:IntKind.i64.wrap ((i:Int)+1)=(i:Int)+1:=by rw [Z7];omega
 have hgi:(cap:Int)<(n:Int)+1:=by omega
 have hii:(i:Int)<=(cap:Int):=by omega
 have hij:(i:Int)<=(n:Int):=by omega
 have hx0:=hx.cell 0;have hvw:vb<w.heap.size:=hx.lt;have hgw:g<w.heap.size:=(YM.1 hg).1;obtain⟨row1,hrow1⟩:∃row1,(row.toList.take (i*2)++ccs [x]++row.toList.drop (i*2+(ccs [x]).length)).toArray=row1:=⟨_,rfl⟩;have hr1s:row1.size=cap'*2:=by
  rw [<-hrow1];simp only [Yo,y6,yC,yI,ye,z1c,Y7];omega
 obtain⟨W1,hW1⟩:∃W1,w.drew.alloc (.cells row 94)=W1:=⟨_,rfl⟩;have hb1:Below w.heap.size w W1:=by rw [<-hW1];exact(y7 _ _).drew.alloc (y5 _) _
 have hg1:W1.heap[w.heap.size]? =some (.cells row 94 (0,0)):=by rw [<-hW1];show(w.heap.push _)[w.heap.size]? =_;simp
 have hc1:=fun ty dc=>z1r prog W1 53 53 ty 94 w.heap.size (i*2) (n+1-i) dc ⟨vb,0,none⟩ 1 1 2 row 94 (ccs [x]) underlying53 z8u hg1 (by rw [show Nat.min 1 (n+1-i)=1 from Ye (by omega)];rfl)
  (fun j v hj=>by rw [Zt];obtain⟨_,_,_,hv,_,_,_,h6⟩:=Sl.celBlk (x:=x) (hx.later hb1);obtain⟨b',o',ha,_,hcell⟩:=h6 (by omega);cases hv;cases ha;exact hcell j v hj)
  (by rw [z1c,Y7,hrs];omega) (zBQ x)
 rw [hrow1,show Nat.min 1 (n+1-i)=1 from Ye (by omega)]at hc1;obtain⟨W2,hW2⟩:∃W2,W1.setRow w.heap.size row1=W2:=⟨_,rfl⟩;have hb2:Below w.heap.size w W2:=by rw [<-hW2];exact z0j hb1 (y5 _) _
 have hg2:W2.heap[w.heap.size]? =some (.cells row1 94 (0,0)):=by rw [<-hW2];exact setRow_heap _ _ _ _ _ _ hg1
 rw [hW2]at hc1;have HW1:=zz hW1;clear hx0;rw [hW1]at hap;have HAP:=zz hap;clear hap hold;go_enter func179,ntmps179
 go_wp2_with (at_builtin;refine Lib.wpList_append_run _ rfl (.tmp 34) (.tmp 39) _ _ rfl _ _ rfl rfl _ _ (HAP.out _) ?_)
 obtain⟨row2,hrow2⟩:∃row2,(row1.toList.take ((i+1)*2)++ccs (l.drop i)++row1.toList.drop ((i+1)*2+(ccs (l.drop i)).length)).toArray=row2:=⟨_,rfl⟩;have hdl:(ccs (l.drop i)).length=(n-i)*2:=by rw [z1c,yI,hn]
 have hc2:=fun ty dc sc=>z1r prog W2.drew 53 53 ty 94 w.heap.size ((i+1)*2) (n-i) dc ⟨g,i*2,none⟩ (n-i) sc 2 row1 94 (ccs (l.drop i)) underlying53 z8u (by show W2.heap[w.heap.size]? =_;exact hg2) (by rw [show Nat.min (n-i) (n-i)=n-i from Nat.min_self _];exact hdl)
  (fun j v hj=>by
    rw [Zt];have h9:w.cell? ⟨g,i*2+j,none⟩=some v:=hcelg _ v (by rw [<-z52,Yj]at hj;exact hj);exact yN hb2.drew h9)
  (by rw [hdl,hr1s];omega) (z2b _)
 rw [hrow2,show Nat.min (n-i) (n-i)=n-i from Nat.min_self _]at hc2;obtain⟨W3,hW3⟩:∃W3,W2.drew.setRow w.heap.size row2=W3:=⟨_,rfl⟩;have hb3:Below w.heap.size w W3:=by rw [<-hW3];exact z0j hb2.drew (y5 _) _
 have hg3:W3.heap[w.heap.size]? =some (.cells row2 94 (0,0)):=by rw [<-hW3];exact setRow_heap W2.drew _ _ _ _ _ (by show W2.heap[w.heap.size]? =_;exact hg2)
 rw [hW3]at hc2;have hb0:(0:Int)<=(i:Int)+1:=by omega
 have hbn:(i:Int)+1<=(n:Int)+1:=by omega
 have htn:((i:Int)+1).toNat=i+1:=by omega
 have hbk:i+1<=n+1:=by omega
 clear hcelg;go_region_law (fail)
 go_wp2_with fail
 go_ret
 have hlen:(l.take i++x::l.drop i).length=n+1:=by rw [y6,y8,yC,yI];omega
 have hsp:ccs (l.take i++x::l.drop i)=ccs (l.take i)++ccs [x]++ccs (l.drop i):=by rw [show l.take i++x::l.drop i=l.take i++([x]++l.drop i)from rfl,z19,z19,yM]
 refine⟨some ⟨w.heap.size,0,none⟩,cap',rfl,?_,hb3.mono hB⟩;unfold Co;rw [hlen];refine⟨by rw [z1c,hlen],.inr ⟨w.heap.size,cap',row2,rfl,hB,hg3,hge,hlm,?_,?_⟩⟩
 .rw [<-hrow2];simp only [Yo,y6,yC,yI,ye,hdl];omega
 .have hX:(ccs [x]).length=2:=rfl;have h2:=zJz row.toList (ccs [x]) (ccs (l.drop i)) (i*2) (by rw [hX,hdl,ye,hrs];omega);rw [hX,hdl,show i*2+2=(i+1)*2 by omega,show(i+1)*2+(n-i)*2=(n+1)*2 by omega]at h2;rw [hsp,<-hrt,<-h2,<-hrow2,<-hrow1,hdl,hX];simp only [show i*2+2=(i+1)*2 by omega,show(i+1)*2+(n-i)*2=(n+1)*2 by omega]
theorem zAZ(B g cap:Nat)(cur:Array Value)(l:List Cel)(x:Cel)(i vb:Nat)(w:World)(hBg:B<=g)(hg:w.heap[g]? =some (.cells cur 94 (0,0)))(hcm:cap<=maxLen)(hcs:cur.size=cap*2)(hct:cur.toList.take (l.length*2)=ccs l)
 (hx:Blk w vb 94 #[.string (st x.1),.string (st x.2)]) (hne:vb≠g) (hi:i<l.length) (hl:l.length<=1000000) (hroom:l.length+1<=cap):
 Calls prog 179 #[.slice (some ⟨g,0,none⟩) l.length cap,.int .i64 (i:Int),.slice (some ⟨vb,0,none⟩) 1 1] w fun e w'=>∃A' c',e= .returned (.slice A' (l.length+1) c')/\Co w' B (.slice A' (l.length+1) c') (l.take i++x::l.drop i)/\Below B w w':=by
 obtain⟨n,hn⟩:∃n,l.length=n:=⟨_,rfl⟩;rw [hn]at hct hi hl hroom ⊢;have hcelg:∀j v,(ccs l)[j]? =some v->w.cell? ⟨g,j,none⟩=some v:=fun j v hj=>by
  rw [<-hct]at hj;have h1:=(yg.1 hj).1;rw [yC,ye]at h1;rw [Yy (by omega),Zg]at hj;simp [World.cell?,hg,hj]
 have hov:∀lb cb,(callFunc 192 #[.slice (some ⟨vb,0,none⟩) 1 1,.slice (some ⟨g,(i+1)*2,none⟩) lb cb]).run prog w= .ok (.value (.bool false)) w:=fun lb cb=>by
  rw [run_callFunc_extern func192 (by kernel_rfl) (by kernel_rfl) (by kernel_rfl) (e:=Extern.SlicesOverlaps.overlaps #[53,53] #[4]) (by kernel_rfl),
   Lib.run_overlaps_apart w 53 4 94 underlying53 2 (fun _=>by rfl) ⟨vb,0,none⟩ ⟨g,(i+1)*2,none⟩ 1 1 lb cb hne 94 94 2 cur.size (by unfold Blk at hx;simp [World.shape?,hx]) (by simp [World.shape?,hg]) (by rw [hcs];omega) (hx.free 0) (by unfold Blk at hx;simp [World.frozen?,hx])]
  rfl
 have hdl:(ccs (l.drop i)).length=(n-i)*2:=by rw [z1c,yI,hn]
 have hX:(ccs [x]).length=2:=rfl;obtain⟨row1,hrow1⟩:∃row1,(cur.toList.take ((i+1)*2)++ccs (l.drop i)++cur.toList.drop ((i+1)*2+(ccs (l.drop i)).length)).toArray=row1:=⟨_,rfl⟩;have hr1s:row1.size=cap*2:=by
  rw [<-hrow1];simp only [Yo,y6,yC,yI,ye,hdl];omega
 have hc1:=fun ty dc sc=>z1r prog w.drew 53 53 ty 94 g ((i+1)*2) (n-i) dc ⟨g,i*2,none⟩ (n+1-i) sc 2 cur 94 (ccs (l.drop i)) underlying53 z8u (by show w.heap[g]? =_;exact hg) (by rw [show Nat.min (n+1-i) (n-i)=n-i from Nat.min_eq_right (by omega)];exact hdl)
  (fun j v hj=>by
    rw [Zt];exact hcelg (i*2+j) v (by rw [<-z52,Yj]at hj;exact hj))
  (by rw [hdl,hcs];omega) (z2b _)
 rw [hrow1,show Nat.min (n+1-i) (n-i)=n-i from Nat.min_eq_right (by omega)]at hc1;obtain⟨W2,hW2⟩:∃W2,w.drew.setRow g row1=W2:=⟨_,rfl⟩;have hb2:Below B w W2:=by rw [<-hW2];exact z0j (y7 _ _).drew hBg _
 have hg2:W2.heap[g]? =some (.cells row1 94 (0,0)):=by rw [<-hW2];exact setRow_heap w.drew _ _ _ _ _ (by show w.heap[g]? =_;exact hg)
 have hx2:Blk W2 vb 94 #[.string (st x.1),.string (st x.2)]:=by
  rw [<-hW2];unfold Blk at hx ⊢;show(w.heap.modify g _)[vb]? =_;rw [ZD,yA (Ne.symm hne)];exact hx
 rw [hW2]at hc1;obtain⟨row2,hrow2⟩:∃row2,(row1.toList.take (i*2)++ccs [x]++row1.toList.drop (i*2+(ccs [x]).length)).toArray=row2:=⟨_,rfl⟩;have hc2:=fun ty dc=>z1r prog W2 53 53 ty 94 g (i*2) (n+1-i) dc ⟨vb,0,none⟩ 1 1 2 row1 94 (ccs [x]) underlying53 z8u hg2 (by rw [show Nat.min 1 (n+1-i)=1 from Ye (by omega)];rfl)
  (fun j v hj=>by rw [Zt];obtain⟨_,_,_,hv,_,_,_,h6⟩:=Sl.celBlk (x:=x) hx2;obtain⟨b',o',ha,_,hcell⟩:=h6 (by omega);cases hv;cases ha;exact hcell j v hj)
  (by rw [hX,hr1s];omega) (zBQ x)
 rw [hrow2,show Nat.min 1 (n+1-i)=1 from Ye (by omega)]at hc2;obtain⟨W3,hW3⟩:∃W3,W2.setRow g row2=W3:=⟨_,rfl⟩;have hb3:Below B w W3:=by rw [<-hW3];exact z0j hb2 hBg _
 have hg3:W3.heap[g]? =some (.cells row2 94 (0,0)):=by rw [<-hW3];exact setRow_heap W2 _ _ _ _ _ hg2
 rw [hW3]at hc2;have hne1:¬ (cap=i):=by omega
 have hne3:¬ (cap=i+1):=by omega
 have hz2:¬ ((i:Int)=(n:Int)):=by omega
 have hw2:IntKind.i64.wrap ((n:Int)+1)=(n:Int)+1:=by rw [Z7];omega
 have hw3:IntKind.i64.wrap ((i:Int)+1)=(i:Int)+1:=by rw [Z7];omega
 have hgi:¬ (cap:Int)<(n:Int)+1:=by omega
 have hgj:(n:Int)+1<=(cap:Int):=by omega
 have hnn:(0:Int)<=(n:Int)+1:=by omega
 have htm:((n:Int)+1).toNat=n+1:=by omega
 have hii:(i:Int)<=(cap:Int):=by omega
 have hij:(i:Int)<=(n:Int):=by omega
 have hik:(i:Int)<=(n:Int)+1:=by omega
 have hb0:(0:Int)<=(i:Int)+1:=by omega
 have hbn:(i:Int)+1<=(n:Int)+1:=by omega
 have htn:((i:Int)+1).toNat=i+1:=by omega
 have hbk:i+1<=n+1:=by omega
 have hbi:i<=n+1:=by omega
 clear hcelg;go_enter func179,ntmps179
 go_wp2_with (simp only [hov])
 go_region_law (fail)
 go_wp2_with fail
 go_ret
 have hlen:(l.take i++x::l.drop i).length=n+1:=by rw [y6,y8,yC,yI];omega
 have hsp:ccs (l.take i++x::l.drop i)=ccs (l.take i)++ccs [x]++ccs (l.drop i):=by rw [show l.take i++x::l.drop i=l.take i++([x]++l.drop i)from rfl,z19,z19,yM]
 refine⟨some ⟨g,0,none⟩,cap,rfl,?_,hb3⟩;unfold Co;rw [hlen];refine⟨by rw [z1c,hlen],.inr ⟨g,cap,row2,rfl,hBg,hg3,hroom,hcm,?_,?_⟩⟩
 .rw [<-hrow2];simp only [Yo,y6,yC,yI,ye,hX];omega
 .have hrt:cur.toList.take (i*2)=ccs (l.take i):=by
   have h9:=congrArg (List.take (i*2)) hct;rw [Q9,Ye (by omega),z53]at h9;exact h9
  have h2:=zI0 cur.toList (ccs [x]) (ccs (l.drop i)) (i*2) (by rw [hX,hdl,ye,hcs];omega);rw [hX,hdl,show i*2+2=(i+1)*2 by omega,show(i+1)*2+(n-i)*2=(n+1)*2 by omega]at h2;rw [hsp,<-hrt,<-h2,<-hrow2,<-hrow1,hdl,hX];simp only [show i*2+2=(i+1)*2 by omega,show(i+1)*2+(n-i)*2=(n+1)*2 by omega]
theorem zBW(B:Nat)(A:Option Addr)(c:Nat)(l:List Cel)(x:Cel)(i vb:Nat)(w:World)(ho:Co w B (.slice A l.length c) l)(hx:Blk w vb 94 #[.string (st x.1),.string (st x.2)])(hne:∀g,A=some ⟨g,0,none⟩->vb≠g)(hi:i<=l.length)(hl:l.length<=1000000)(hB:B<=w.heap.size):
 Calls prog 179 #[.slice A l.length c,.int .i64 (i:Int),.slice (some ⟨vb,0,none⟩) 1 1] w fun e w'=>∃A' c',e= .returned (.slice A' (l.length+1) c')/\Co w' B (.slice A' (l.length+1) c') (l.take i++x::l.drop i)/\Below B w w':=by
 by_cases he:i=l.length
 .subst he;rw [YG,Zr];exact zBX B A c l x vb w ho hx hl hB
 .rcases ho.2 with⟨h2,h3⟩|⟨g,cap,cur,h2,hBg,hg,hnc,hcm,hcs,hct⟩
  .omega
  .injection h2 with h4 _ h5
   subst h4 h5;by_cases hr:c<l.length+1
   .exact zAY B g c cur l x i vb w hBg hg hnc hcm hcs hct hx (by omega) hl hB hr
   .exact zAZ B g c cur l x i vb w hBg hg hcm hcs hct hx (hne g rfl) (by omega) hl (by omega)
theorem zEV:∀ (cs:List Cel) (i:Nat) (x:Cel),ccs (cs.set i x)=((ccs cs).set (i*2) (.string (st x.1))).set (i*2+1) (.string (st x.2))
 | [],i,x=>by simp [ccs]
 |c::cs,0,x=>by simp [ccs]
 |c::cs,i+1,x=>by
  have ih:=zEV cs i x;unfold ccs at ih ⊢;rw [List.set_cons_succ,yb,yb,ih,show(i+1)*2=i*2+1+1 by omega];rfl
theorem Co.set{w:World}{B g cap:Nat}{cs:List Cel}(h:Co w B (.slice (some ⟨g,0,none⟩) cs.length cap) cs){i:Nat}(hi:i<cs.length)(x:Cel):
 Co ((w.setCell ⟨g,i*2,none⟩ (.string (st x.1))).setCell ⟨g,i*2+1,none⟩ (.string (st x.2))) B (.slice (some ⟨g,0,none⟩) cs.length cap) (cs.set i x):=by
 obtain⟨h1,h2⟩:=h;rcases h2 with⟨h2,h3⟩|⟨g',cap',cur,hv,hBg,hg,hnc,hcm,hcs,hct⟩
 .cases h2
 .injection hv with h4 _ h5
  injection h4 with h4
  injection h4 with h4
  subst h4 h5;unfold Co;rw [Qn];refine⟨by rw [z1c,Qn],.inr ⟨g,cap,(cur.setIfInBounds (i*2) (.string (st x.1))).setIfInBounds (i*2+1) (.string (st x.2)),rfl,hBg,?_,hnc,hcm,by simp [hcs],?_⟩⟩
  .exact heap_setCell_same _ g (i*2+1) _ _ _ (heap_setCell_same w g (i*2) cur _ _ hg)
  .rw [Zp,Zp,List.take_set,List.take_set,hct,zEV]
theorem Co.at{w:World}{B:Nat}{v:Value}{cs:List Cel}(h:Co w B v cs)(h0:0<cs.length):∃g cap,v= .slice (some ⟨g,0,none⟩) cs.length cap/\B<=g/\cs.length<=cap/\(∀i:Nat,i<cs.length->(∃y,w.cell? ⟨g,i*2,none⟩=some y)/\(∃y,w.cell? ⟨g,i*2+1,none⟩=some y))/\∀o,w.frozen? ⟨g,o,none⟩=false:=by
 obtain⟨h1,h2⟩:=h;rcases h2 with⟨h2,h3⟩|⟨g,cap,cur,hv,hBg,hg,hnc,hcm,hcs,hct⟩
 .omega
 .refine⟨g,cap,hv,hBg,hnc,fun i hi=>⟨?_,?_⟩,fun o=>by simp [World.frozen?,hg]⟩
  .exact⟨cur[i*2]'(by omega),by simp only [World.cell?,hg];exact yG _⟩
  .exact⟨cur[i*2+1]'(by omega),by simp only [World.cell?,hg];exact yG _⟩
theorem zFm(S:Nat->Prop)(leaf:Bool)(next:Int)(v0:Value)(cs:List Cel)(k v:List UInt8)(w:World)(hr:Cs S w v0 cs)(hk:k.length<=65536)(hv:v.length<=65536)(hlong:480<k.length+v.length):
 Calls prog 153 #[.agg #[.bool leaf,.int .i64 next,v0],.agg #[.string (st k),.string (st v)]] w fun e w'=>e= .returned (.tuple #[.agg #[.bool false,.int .i64 0,.slice none 0 0],.int .i64 100])/\Below w.heap.size w w':=by
 obtain⟨A,c,rfl,hlc,hcm,hA0,_⟩:=hr.at;clear hr;have hb2:Blk (((w.alloc (.cells #[.bool leaf,.int .i64 next,.slice A cs.length c] 175)).alloc (.cells #[.string (st k),.string (st v)] 94)).alloc (.cells #[.bool false,.int .i64 0,.slice none 0 0] 175)) (w.heap.size+1+1) 175 #[.bool false,.int .i64 0,.slice none 0 0]:=by
  have:=Blk.new1 (w.alloc (.cells #[.bool leaf,.int .i64 next,.slice A cs.length c] 175)) (.cells #[.string (st k),.string (st v)] 94) 175 #[.bool false,.int .i64 0,.slice none 0 0];simpa using this
 have hq:Below w.heap.size w (((w.alloc (.cells #[.bool leaf,.int .i64 next,.slice A cs.length c] 175)).alloc (.cells #[.string (st k),.string (st v)] 94)).alloc (.cells #[.bool false,.int .i64 0,.slice none 0 0] 175)):=(((y7 _ _).alloc (y5 _) _).alloc (by simp) _).alloc (by simp;omega) _;go_enter func153,ntmps153
 go_wp2_with fail
 generalize hW:(((w.alloc (.cells #[.bool leaf,.int .i64 next,.slice A cs.length c] 175)).alloc (.cells #[.string (st k),.string (st v)] 94)).alloc (.cells #[.bool false,.int .i64 0,.slice none 0 0] 175))=W at*;clear hW;refine(z6y k v W hk hv).mono ?_;rintro e w1 ⟨rfl,hbl⟩;rw [yq hlong];have hq2:=hq.trans (hbl.mono hq.size);have hb:=hb2.later hbl;have d0:(w1).cell? ⟨w.heap.size+1+1,0,none⟩=some (.bool false):=hb.cell 0;have d1:(w1).cell? ⟨w.heap.size+1+1,1,none⟩=some (.int .i64 0):=hb.cell 1;have d2:(w1).cell? ⟨w.heap.size+1+1,2,none⟩=some (.slice none 0 0):=hb.cell 2;have df0:(w1).frozen? ⟨w.heap.size+1+1,0,none⟩=false:=hb.free 0;have df1:(w1).frozen? ⟨w.heap.size+1+1,1,none⟩=false:=hb.free 1;have df2:(w1).frozen? ⟨w.heap.size+1+1,2,none⟩=false:=hb.free 2;have HB:=zz (hb.put3 (.bool false) (.int .i64 0) (.slice none 0 0));have HQ:=zz (z0Y hq2 (show w.heap.size<=w.heap.size+1+1 by omega) (.bool false) (.int .i64 0) (.slice none 0 0));clear hb2 hbl hb hq hq2;go_wp2_with fail
 exact bodyPost_ret (z0L rfl _ _ (w.heap.size+1+1) rfl HB.out z1Q) rfl ⟨rfl,HQ.out⟩
theorem z6M(S:Nat->Prop)(leaf:Bool)(next:Int)(v0:Value)(cs:List Cel)(k v:List UInt8)(w:World)(hl:cs.length<=100000)(hr:Cs S w v0 cs)(hri:RisesP cs)(hs:k.length+v.length<=480):
 Calls prog 153 #[.agg #[.bool leaf,.int .i64 next,v0],.agg #[.string (st k),.string (st v)]] w fun e w'=>∃vq,e= .returned (.tuple #[vq,.int .i64 0])/\PgIs w.heap.size w' vq leaf next (putC cs (k,v))/\Below w.heap.size w w':=by
 have HR:=zz hr.lt;obtain⟨A,c,rfl,hlc,hcm,hA0,_⟩:=hr.at;clear hr;have hb0:Blk (((w.alloc (.cells #[.bool leaf,.int .i64 next,.slice A cs.length c] 175)).alloc (.cells #[.string (st k),.string (st v)] 94)).alloc (.cells #[.bool false,.int .i64 0,.slice none 0 0] 175)) w.heap.size 175 #[.bool leaf,.int .i64 next,.slice A cs.length c]:=((Blk.new _ _ _).alloc _).alloc _;have hb1:Blk (((w.alloc (.cells #[.bool leaf,.int .i64 next,.slice A cs.length c] 175)).alloc (.cells #[.string (st k),.string (st v)] 94)).alloc (.cells #[.bool false,.int .i64 0,.slice none 0 0] 175)) (w.heap.size+1) 94 #[.string (st k),.string (st v)]:=(Blk.new1 _ _ _ _).alloc _;have hb2:Blk (((w.alloc (.cells #[.bool leaf,.int .i64 next,.slice A cs.length c] 175)).alloc (.cells #[.string (st k),.string (st v)] 94)).alloc (.cells #[.bool false,.int .i64 0,.slice none 0 0] 175)) (w.heap.size+1+1) 175 #[.bool false,.int .i64 0,.slice none 0 0]:=by
  have:=Blk.new1 (w.alloc (.cells #[.bool leaf,.int .i64 next,.slice A cs.length c] 175)) (.cells #[.string (st k),.string (st v)] 94) 175 #[.bool false,.int .i64 0,.slice none 0 0];simpa using this
 have hq:Below w.heap.size w (((w.alloc (.cells #[.bool leaf,.int .i64 next,.slice A cs.length c] 175)).alloc (.cells #[.string (st k),.string (st v)] 94)).alloc (.cells #[.bool false,.int .i64 0,.slice none 0 0] 175)):=(((y7 _ _).alloc (y5 _) _).alloc (by simp) _).alloc (by simp;omega) _;go_enter func153,ntmps153
 go_wp2_with fail
 generalize hW:(((w.alloc (.cells #[.bool leaf,.int .i64 next,.slice A cs.length c] 175)).alloc (.cells #[.string (st k),.string (st v)] 94)).alloc (.cells #[.bool false,.int .i64 0,.slice none 0 0] 175))=W at*;clear hW;have hszW:=hq.size;refine(z6y k v W (by omega) (by omega)).mono ?_;rintro e w1 ⟨rfl,hbl⟩;rw [yZ (by omega)];have HR1:=zz (HR.out.up (hq.trans (hbl.mono hq.size)));have HQ1:=zz (hq.trans (hbl.mono hq.size));have b0:=hb0.later hbl;have b1:=hb1.later hbl;have B2:=zz (hb2.later hbl);clear hb0 hb1 hb2 hbl hq HR;have p0:(w1).cell? ⟨w.heap.size,0,none⟩=some (.bool leaf):=b0.cell 0;have p1:(w1).cell? ⟨w.heap.size,1,none⟩=some (.int .i64 next):=b0.cell 1;have p2:(w1).cell? ⟨w.heap.size,2,none⟩=some (.slice A cs.length c):=b0.cell 2;have q0:(w1).cell? ⟨w.heap.size+1,0,none⟩=some (.string (st k)):=b1.cell 0;have q1:(w1).cell? ⟨w.heap.size+1,1,none⟩=some (.string (st v)):=b1.cell 1;go_wp2_with fail
 refine(z46 _ leaf next _ cs k w1 (by omega) HR1.out hri).mono ?_;rintro e w2 ⟨rfl,hbl⟩;have HR2:=zz (HR1.out.up hbl);have HQ2:=zz (HQ1.out.trans (hbl.mono HQ1.out.size));have b0:=b0.later hbl;have b1:=b1.later hbl;have B2:=zz (B2.out.later hbl);have p0:=yN hbl p0;have p1:=yN hbl p1;have p2:=yN hbl p2;have q0:=yN hbl q0;have q1:=yN hbl q1;have B0:=zz b0;have hsz2:w.heap.size+1+1<w2.heap.size:=B2.out.lt;have HY:Hid (isK cs k=true->z05 cs k<cs.length/\putC cs (k,v)=cs.set (z05 cs k) (k,v)):=fun h=>⟨z8N h,zHu (c:=(k,v)) h⟩
 have HN:Hid (isK cs k=false->putC cs (k,v)=cs.take (z05 cs k)++(k,v)::cs.drop (z05 cs k)):=fun h=>zFp (c:=(k,v)) h
 have HPL:Hid ((putC cs (k,v)).length<=cs.length+1):=by have:=z3h cs (k,v);rw [Hid];omega
 have hK:=z1o cs k;generalize z05 cs k=K at*;generalize isK cs k=Y at*;generalize hOut:putC cs (k,v)=out at*;have HPC:=zz hOut;clear hOut;clear hbl HR1 HQ1 hri;go_wp2_with fail
 refine(z2a _ _ cs w2 (by omega) HR2.out).mono ?_;rintro e w3 ⟨A3,c3,rfl,hco,hbl⟩;have HC:=zz hco;have HB3:=zz hbl;have b0:=b0.later hbl;have b1:=b1.later hbl;have p0:=yN hbl p0;have p1:=yN hbl p1;have p2:=yN hbl p2;have q0:=yN hbl q0;have q1:=yN hbl q1;have h32:=hbl.size;clear hbl hco;go_upto_if 22 with(fail)
 go_cut [8] (fun lv wx=>Hid (Co wx w2.heap.size lv out)/\Hid (Below w2.heap.size w2 wx))
 case first=>
  cases Y with
  |true=>
   obtain⟨hKl,ho⟩:=HY.out rfl;obtain⟨g,cap,hv3,hBg,hlc3,hcell,hfz⟩:=HC.out.at (by omega);injection hv3 with hA3 _ hc3
   subst hA3 hc3;obtain⟨⟨y1,hy1⟩,⟨y2,hy2⟩⟩:=hcell K hKl;have hf1:=hfz (K*2);have hf2:=hfz (K*2+1);have HS:Hid (Co ((w3.setCell ⟨g,K*2,none⟩ (.string (st k))).setCell ⟨g,K*2+1,none⟩ (.string (st v))) w2.heap.size (.slice (some ⟨g,0,none⟩) cs.length c3) out):=by rw [Hid,ho];exact HC.out.set hKl (k,v)
   have HBS:=zz ((HB3.out.setCell (p:=⟨g,K*2,none⟩) hBg (.string (st k))).setCell (p:=⟨g,K*2+1,none⟩) hBg (.string (st v)));have hk0:(0:Int)<=(K:Int):=by omega
   have hk1:(K:Int)<(cs.length:Int):=by omega
   have hgn:¬w.heap.size+1=g:=by omega
   clear hcell hfz ho HC HB3;go_wp2_with fail
   go_meet
   exact⟨HS,HBS⟩
  |false=>
   have ho:=HN.out rfl;have HNB:=zz (Blk.new w3 94 #[.string (st k),.string (st v)]);have HI:=zBW w2.heap.size A3 c3 cs (k,v) K w3.heap.size (w3.alloc (.cells #[.string (st k),.string (st v)] 94)) (HC.out.later ((y7 _ _).alloc (y5 _) _)) HNB.out (fun g hg=>by
    obtain⟨-,hd⟩:=HC.out;rcases hd with⟨h2,h3⟩|⟨g',cap',cur,hv,hBg,hgg,-⟩
    .injection h2 with h2;rw [h2]at hg;cases hg
    .injection hv with h4
     rw [h4]at hg;injection hg with hg
     injection hg with hg
     have:=lt_of_block hgg;omega) hK (by omega) (by simp;omega)
   have HIH:=zz HI;have HOE:=zz ho;have HBA:=zz (HB3.out.alloc h32 (.cells #[.string (st k),.string (st v)] 94));clear HI ho;go_wp2_with fail
   refine HIH.out.mono ?_;rintro e w4 ⟨A4,c4,rfl,hco4,hbl4⟩;have HC4:Hid (Co w4 w2.heap.size (.slice A4 (cs.length+1) c4) out):=by rw [Hid,HOE.out];exact hco4
   have HB4:=zz (HBA.out.trans hbl4);clear hco4 hbl4;go_wp2_with fail
   go_meet
   exact⟨HC4,HB4⟩
 case rest=>
  obtain⟨HC,HB⟩:=hcut;have hcs:=HC.out.cs;obtain⟨A5,c5,rfl,-⟩:=hcs.at;have HCS:=zz hcs;clear hcs;generalize wc=w5 at*;have hb:=HB.out;clear p0 p1 p2 q0 q1 b0 b1 HC;have b0:=B0.out.later hb;have B2:=zz (B2.out.later hb);have HQ:=zz (HQ2.out.trans (hb.mono HQ2.out.size));have p0:(w5).cell? ⟨w.heap.size,0,none⟩=some (.bool leaf):=b0.cell 0;have p1:(w5).cell? ⟨w.heap.size,1,none⟩=some (.int .i64 next):=b0.cell 1;have p2:(w5).cell? ⟨w.heap.size,2,none⟩=some (.slice A cs.length c):=b0.cell 2;clear hb;go_wp2_with fail
  refine(z3m _ leaf next _ _ out w5 HCS.out).mono ?_;rintro e w6 ⟨A6,c6,rfl,hcs6,hbl⟩;have HQ6:=zz (HQ.out.trans (hbl.mono HQ.out.size));have hb:=B2.out.later hbl;have d0:(w6).cell? ⟨w.heap.size+1+1,0,none⟩=some (.bool false):=hb.cell 0;have d1:(w6).cell? ⟨w.heap.size+1+1,1,none⟩=some (.int .i64 0):=hb.cell 1;have d2:(w6).cell? ⟨w.heap.size+1+1,2,none⟩=some (.slice none 0 0):=hb.cell 2;have df0:(w6).frozen? ⟨w.heap.size+1+1,0,none⟩=false:=hb.free 0;have df1:(w6).frozen? ⟨w.heap.size+1+1,1,none⟩=false:=hb.free 1;have df2:(w6).frozen? ⟨w.heap.size+1+1,2,none⟩=false:=hb.free 2;have HE:=zz (hb.put3 (.bool leaf) (.int .i64 next) (.slice A6 out.length c6));have HQ7:=zz (z0Y HQ6.out (show w.heap.size<=w.heap.size+1+1 by omega) (.bool leaf) (.int .i64 next) (.slice A6 out.length c6));have h62:=hbl.size;have h52:=HB.out.size;have HP:Hid (Cs (fun b=>w.heap.size<=b/\b<w6.heap.size) (((w6.setCell ⟨w.heap.size+1+1,0,none⟩ (.bool leaf)).setCell ⟨w.heap.size+1+1,1,none⟩ (.int .i64 next)).setCell ⟨w.heap.size+1+1,2,none⟩ (.slice A6 out.length c6)) (.slice A6 out.length c6) out):=by
   have hn:∀b,((w2.heap.size<=b/\b<w5.heap.size)/\b<w5.heap.size)->w.heap.size+1+1<b:=fun b hb=>by omega
   refine Sl.more (Sl.setCell (Sl.setCell (Sl.setCell hcs6 (p:=⟨w.heap.size+1+1,0,none⟩) (fun h=>Yi _ (hn _ h)) _) (p:=⟨w.heap.size+1+1,1,none⟩) (fun h=>Yi _ (hn _ h)) _) (p:=⟨w.heap.size+1+1,2,none⟩) (fun h=>Yi _ (hn _ h)) _) fun b hb=> ?_
   have:=hn b hb;omega
  clear hbl hb hcs6 B2;go_wp2_with fail
  exact bodyPost_ret (z0L rfl _ _ (w.heap.size+1+1) rfl HE.out z1Q) rfl ⟨_,rfl,by rw [HPC.out];exact⟨A6,c6,rfl,Sl.more HP.out fun b hb=>⟨hb.1,by simpa using hb.2⟩⟩,HQ7.out⟩
section
variable (P:Program)
theorem z7y(w:World)(t e ty:TypeId)(z:Value)(ht:P.underlying t=some (.slice e))(hv:∀w,(zeroValue e).run P w= .ok z w)(g o n c:Nat)(cur:Array Value)(e':TypeId)(hn:0<n)(zs:List Value)(hz:(Builtin.zeroCells z.cells n).toList=zs)(h1:∀u∈zs,u.oneCell'=true)
 (hg:w.heap[g]? =some (.cells cur e' (0,0))) (hfit:o+zs.length<=cur.size):
 (Builtin.clear_ #[t] ty #[.slice (some ⟨g,o,none⟩) n c]).run P w= .ok (.tuple #[]) (w.setRow g (cur.toList.take o++zs++cur.toList.drop (o+zs.length)).toArray):=by
 have hst:=run_storeCells_at P g o e' zs 0 cur w hg (by simpa using hfit) h1;simp only [YQ]at hst;obtain⟨m,rfl⟩:∃m,n=m+1:=⟨n-1,by omega⟩;simp [Builtin.clear_,run_underlying ht,hv,hz,hst]
end
theorem zKM:(Builtin.zeroCells (Value.agg #[.string ⟨#[]⟩,.string ⟨#[]⟩]).cells 1).toList= [.string ⟨#[]⟩,.string ⟨#[]⟩]:=by kernel_rfl
theorem zKL(w:World):(zeroValue 94).run prog w= .ok (.agg #[.string ⟨#[]⟩,.string ⟨#[]⟩]) w:=by kernel_rfl
theorem zBU(B g cap:Nat)(cur:Array Value)(l:List Cel)(i:Nat)(w:World)(hBg:B<=g)(hg:w.heap[g]? =some (.cells cur 94 (0,0)))(hcm:cap<=maxLen)(hcs:cur.size=cap*2)(hct:cur.toList.take (l.length*2)=ccs l)
 (hlc:l.length<=cap) (hi:i<l.length) (hl:l.length<=1000000):
 Calls prog 173 #[.slice (some ⟨g,0,none⟩) l.length cap,.int .i64 (i:Int),.int .i64 ((i:Int)+1)] w fun e w'=>e= .returned (.slice (some ⟨g,0,none⟩) (l.length-1) cap)/\Co w' B (.slice (some ⟨g,0,none⟩) (l.length-1) cap) (l.take i++l.drop (i+1))/\Below B w w':=by
 obtain⟨m,hn⟩:∃m,l.length=m+1:=⟨l.length-1,by omega⟩;rw [hn]at hct hlc hi hl ⊢;rw [YS];obtain⟨i0,hinf,hz,hsz,hby⟩:=elemCel.info;have hcelg:∀j v,(ccs l)[j]? =some v->w.cell? ⟨g,j,none⟩=some v:=fun j v hj=>by
  rw [<-hct]at hj;have h1:=(yg.1 hj).1;rw [yC,ye]at h1;rw [Yy (by omega),Zg]at hj;simp [World.cell?,hg,hj]
 have hdl:(ccs (l.drop (i+1))).length=(m-i)*2:=by rw [z1c,yI,hn];congr 1;omega
 obtain⟨row1,hrow1⟩:∃row1,(cur.toList.take (0+i*i0.size)++ccs (l.drop (i+1))++cur.toList.drop (0+i*i0.size+(ccs (l.drop (i+1))).length)).toArray=row1:=⟨_,rfl⟩;have hlo:=fun(a:Addr) (ha:0<m-i->a=⟨g,(i+1)*2,none⟩)=>run_loadCells_list (P:=prog) w.drew a (ccs (l.drop (i+1)))
  (fun j v hj=>by
    have h1:=(yg.1 hj).1;rw [hdl]at h1;rw [ha (by omega),Zt];exact hcelg ((i+1)*2+j) v (by rw [<-z52,Yj]at hj;exact hj))
 rw [hdl]at hlo;unfold loadCells at hlo;have hap:=run_storeCells_at prog g (0+i*i0.size) 94 (ccs (l.drop (i+1))) 0 cur w.drew (by show w.heap[g]? =_;exact hg) (by rw [hdl,hcs,hsz];omega) (z2b _);simp only [YQ]at hap;have hroom:i+(m-i)<=cap:=by omega
 have hsum:i+(m-i)=m:=by omega
 rw [hrow1]at hap;rw [hsz,Y4]at hap;rw [hsz,Y4,hdl]at hrow1;have hr1s:row1.size=cap*2:=by
  rw [<-hrow1];simp only [Yo,y6,yC,yI,ye,hdl];omega
 obtain⟨W2,hW2⟩:∃W2,w.drew.setRow g row1=W2:=⟨_,rfl⟩;have hb2:Below B w W2:=by rw [<-hW2];exact z0j (y7 _ _).drew hBg _
 have hg2:W2.heap[g]? =some (.cells row1 94 (0,0)):=by rw [<-hW2];exact setRow_heap w.drew _ _ _ _ _ (by show w.heap[g]? =_;exact hg)
 rw [hW2]at hap;obtain⟨row2,hrow2⟩:∃row2,(row1.toList.take (m*2)++ [Value.string ⟨#[]⟩,Value.string ⟨#[]⟩]++row1.toList.drop (m*2+2)).toArray=row2:=⟨_,rfl⟩;have hcl:=fun(W:World) (hg2:W.heap[g]? =some (.cells row1 94 (0,0))) (ty:TypeId) (c:Nat)=>z7y prog W 53 94 ty _ underlying53 zKL g (m*2) 1 c row1 94 (by omega) [.string ⟨#[]⟩,.string ⟨#[]⟩] zKM (by simp [Value.oneCell']) hg2 (by show _+2<=_;omega)
 simp only [y8,yW,Y4,Nat.reduceAdd]at hcl;rw [hrow2]at hcl;have hcl1:=fun(ty:TypeId) (c:Nat)=>hcl W2 hg2 ty c
 have hcl2:=fun(ty:TypeId) (c:Nat)=>hcl W2.drew (by show W2.heap[g]? =_;exact hg2) ty c
 clear hcl;have hw2:IntKind.i64.wrap ((i:Int)+1)=(i:Int)+1:=by rw [Z7];omega
 have hii:(i:Int)<=(cap:Int):=by omega
 have hij:(i:Int)+1<=(cap:Int):=by omega
 have hik:(i:Int)+1<=(m:Int)+1:=by omega
 have hil:(i:Int)<=(m:Int)+1:=by omega
 have him:(i:Int)<=(i:Int)+1:=by omega
 have hb0:(0:Int)<=(i:Int)+1:=by omega
 have htn:((i:Int)+1).toNat=i+1:=by omega
 have htm:((m:Int)+1).toNat=m+1:=by omega
 have hmc:(m:Int)<=(cap:Int):=by omega
 have hmd:(m:Int)+1<=(cap:Int):=by omega
 have hm0:(0:Int)<=(m:Int)+1:=by omega
 have hnm:¬cap=m:=by omega
 have hni:¬cap=i:=by omega
 have hne:((i:Int)==(i:Int)+1)=false:=by rw [yV];omega
 have hne2:¬ ((i:Int)=(i:Int)+1):=by omega
 have hmm:(m:Int)<=(m:Int)+1:=by omega
 have hmN:m<=cap:=by omega
 have hsub:m+1-(i+1)=m-i:=by omega
 have hsub2:m+1-m=1:=by omega
 have hfin:Co (W2.setRow g row2) B (.slice (some ⟨g,0,none⟩) m cap) (l.take i++l.drop (i+1))/\Co (W2.drew.setRow g row2) B (.slice (some ⟨g,0,none⟩) m cap) (l.take i++l.drop (i+1)):=by
  have hlen:(l.take i++l.drop (i+1)).length=m:=by rw [y6,yC,yI];omega
  have h3:row2.size=cap*2:=by
   rw [<-hrow2];simp only [Yo,y6,yC,yI,ye,y8,yW];omega
  have h4:row2.toList.take (m*2)=ccs (l.take i++l.drop (i+1)):=by
   have hrt:cur.toList.take (i*2)=ccs (l.take i):=by
    have h9:=congrArg (List.take (i*2)) hct;rw [Q9,Ye (by omega),z53]at h9;exact h9
   rw [<-hrow2];simp only;rw [yM,ZG (by rw [yC,ye];omega),<-hrow1,hrt,z19];simp only;rw [ZG (by rw [y6,hdl,z1c,yC];omega)]
  unfold Co;rw [hlen];refine⟨⟨by rw [z1c,hlen],.inr ⟨g,cap,row2,rfl,hBg,setRow_heap _ _ _ _ _ _ hg2,by omega,hcm,h3,?_⟩⟩,⟨by rw [z1c,hlen],.inr ⟨g,cap,row2,rfl,hBg,setRow_heap _ _ _ _ _ _ (by show W2.heap[g]? =_;exact hg2),by omega,hcm,h3,?_⟩⟩⟩
  .exact h4
  .exact h4
 have HE:Hid (m-i=0->W2=w.drew):=fun h0=>by
  have h1:ccs (l.drop (i+1))= []:=yX (by rw [hdl,h0,ZY]);rw [<-hW2,<-hrow1,h1,h0,ZY,YQ,yf,yT,Array.toArray_toList];exact setRow_self w.drew g cur _ _ (by show w.heap[g]? =_;exact hg)
 have HF:=zz hfin;have HB2:=zz hb2;have HGB:=zz hBg;clear hfin hrow1 hrow2 hct hcelg hW2 hdl hsz hby;by_cases hcap:cap=i+1
 .obtain rfl:m=i:=by omega
  subst hcap;obtain rfl:=HE.out (Zs m);clear hlo hap hroom hsum;go_enter func173,ntmps173
  go_wp2_with fail
  go_region_law (fail)
  go_wp2_with fail
  go_ret
  first
   |exact⟨rfl,HF.out.1,z0j HB2.out HGB.out _⟩
   |exact⟨rfl,HF.out.2,z0j HB2.out.drew HGB.out _⟩
 .have hlo1:=hlo ⟨g,(i+1)*2,none⟩ (fun _=>rfl);clear hlo;have hcap2:¬cap=i+1:=hcap;go_enter func173,ntmps173
  go_wp2_with fail
  go_region_law (fail)
  go_wp2_with fail
  go_ret
  first
   |exact⟨rfl,HF.out.1,z0j HB2.out HGB.out _⟩
   |exact⟨rfl,HF.out.2,z0j HB2.out.drew HGB.out _⟩
theorem z8X(S:Nat->Prop)(v0:Value)(cs:List Cel)(w:World)(hl:cs.length<=1000000)(hr:Cs S w v0 cs)(h0:0<cs.length):
 Calls prog 174 #[v0] w fun e w'=>∃g cap cur,e= .returned (.slice (some ⟨g,0,none⟩) cs.length cap)/\w.heap.size<=g/\w'.heap[g]? =some (.cells cur 94 (0,0))/\cs.length<=cap/\cap<=maxLen/\cur.size=cap*2/\cur.toList.take (cs.length*2)=ccs cs/\Below w.heap.size w w':=by
 refine(z2a S v0 cs w hl hr).mono ?_;rintro e w' ⟨A,c,rfl,⟨h1,h2⟩,hb⟩;rcases h2 with⟨h2,h3⟩|⟨g,cap,cur,hv,hBg,hg,hnc,hcm,hcs,hct⟩
 .omega
 .injection hv with h4 _ h5
  subst h4 h5;exact⟨g,c,cur,rfl,hBg,hg,hnc,hcm,hcs,hct,hb⟩
theorem zDq(S:Nat->Prop)(leaf:Bool)(next:Int)(v0:Value)(cs:List Cel)(k:List UInt8)(w:World)(hl:cs.length<=100000)(hr:Cs S w v0 cs)(hri:RisesP cs)(hk:isK cs k=false):
 Calls prog 151 #[.agg #[.bool leaf,.int .i64 next,v0],.string (st k)] w fun e w'=>e= .returned (.tuple #[.agg #[.bool false,.int .i64 0,.slice none 0 0],.int .i64 102])/\Below w.heap.size w w':=by
 have HR:=zz hr.lt;obtain⟨A,c,rfl,hlc,hcm,hA0,_⟩:=hr.at;have HKI:=zz hk;clear hr hk;have hb1:Blk ((w.alloc (.cells #[.bool leaf,.int .i64 next,.slice A cs.length c] 175)).alloc (.cells #[.bool false,.int .i64 0,.slice none 0 0] 175)) (w.heap.size+1) 175 #[.bool false,.int .i64 0,.slice none 0 0]:=Blk.new1 _ _ _ _;have hq:Below w.heap.size w ((w.alloc (.cells #[.bool leaf,.int .i64 next,.slice A cs.length c] 175)).alloc (.cells #[.bool false,.int .i64 0,.slice none 0 0] 175)):=((y7 _ _).alloc (y5 _) _).alloc (by simp) _;go_enter func151,ntmps151
 go_wp2_with fail
 generalize hW:((w.alloc (.cells #[.bool leaf,.int .i64 next,.slice A cs.length c] 175)).alloc (.cells #[.bool false,.int .i64 0,.slice none 0 0] 175))=W at*;clear hW;refine(z46 _ leaf next _ cs k W (by omega) (HR.out.up hq) hri).mono ?_;rintro e w1 ⟨rfl,hbl⟩;rw [HKI.out];have hq2:=hq.trans (hbl.mono hq.size);have hb:=hb1.later hbl;have d0:(w1).cell? ⟨w.heap.size+1,0,none⟩=some (.bool false):=hb.cell 0;have d1:(w1).cell? ⟨w.heap.size+1,1,none⟩=some (.int .i64 0):=hb.cell 1;have d2:(w1).cell? ⟨w.heap.size+1,2,none⟩=some (.slice none 0 0):=hb.cell 2;have df0:(w1).frozen? ⟨w.heap.size+1,0,none⟩=false:=hb.free 0;have df1:(w1).frozen? ⟨w.heap.size+1,1,none⟩=false:=hb.free 1;have df2:(w1).frozen? ⟨w.heap.size+1,2,none⟩=false:=hb.free 2;have HB:=zz (hb.put3 (.bool false) (.int .i64 0) (.slice none 0 0));have HQ:=zz (z0Y hq2 (show w.heap.size<=w.heap.size+1 by omega) (.bool false) (.int .i64 0) (.slice none 0 0));clear hb1 hbl hb hq hq2;generalize z05 cs k=K at*;go_wp2_with fail
 exact bodyPost_ret (z0L rfl _ _ (w.heap.size+1) rfl HB.out z1Q) rfl ⟨rfl,HQ.out⟩
theorem z7J(S:Nat->Prop)(leaf:Bool)(next:Int)(v0:Value)(cs:List Cel)(k:List UInt8)(w:World)(hl:cs.length<=100000)(hr:Cs S w v0 cs)(hri:RisesP cs)(hk:isK cs k=true):
 Calls prog 151 #[.agg #[.bool leaf,.int .i64 next,v0],.string (st k)] w fun e w'=>∃vq,e= .returned (.tuple #[vq,.int .i64 0])/\PgIs w.heap.size w' vq leaf next (delC cs k)/\Below w.heap.size w w':=by
 have HR:=zz hr.lt;obtain⟨A,c,rfl,hlc,hcm,hA0,_⟩:=hr.at;have HKI:=zz hk;have HDL:Hid (delC cs k=cs.take (z05 cs k)++cs.drop (z05 cs k+1)):=zCM hk;have hKl:=z8N hk;clear hr hk;have hb0:Blk ((w.alloc (.cells #[.bool leaf,.int .i64 next,.slice A cs.length c] 175)).alloc (.cells #[.bool false,.int .i64 0,.slice none 0 0] 175)) w.heap.size 175 #[.bool leaf,.int .i64 next,.slice A cs.length c]:=(Blk.new _ _ _).alloc _;have hb1:Blk ((w.alloc (.cells #[.bool leaf,.int .i64 next,.slice A cs.length c] 175)).alloc (.cells #[.bool false,.int .i64 0,.slice none 0 0] 175)) (w.heap.size+1) 175 #[.bool false,.int .i64 0,.slice none 0 0]:=Blk.new1 _ _ _ _;have hq:Below w.heap.size w ((w.alloc (.cells #[.bool leaf,.int .i64 next,.slice A cs.length c] 175)).alloc (.cells #[.bool false,.int .i64 0,.slice none 0 0] 175)):=((y7 _ _).alloc (y5 _) _).alloc (by simp) _;go_enter func151,ntmps151
 go_wp2_with fail
 generalize hW:((w.alloc (.cells #[.bool leaf,.int .i64 next,.slice A cs.length c] 175)).alloc (.cells #[.bool false,.int .i64 0,.slice none 0 0] 175))=W at*;clear hW;refine(z46 _ leaf next _ cs k W (by omega) (HR.out.up hq) hri).mono ?_;rintro e wf ⟨rfl,hbl⟩;rw [HKI.out];have HQ:=zz (hq.trans (hbl.mono hq.size));have HRf:=zz (HR.out.up HQ.out);have b0:=hb0.later hbl;have HB1:=zz (hb1.later hbl);have hbp:w.heap.size+1<wf.heap.size:=HB1.out.lt;have p0:(wf).cell? ⟨w.heap.size,0,none⟩=some (.bool leaf):=b0.cell 0;have p1:(wf).cell? ⟨w.heap.size,1,none⟩=some (.int .i64 next):=b0.cell 1;have p2:(wf).cell? ⟨w.heap.size,2,none⟩=some (.slice A cs.length c):=b0.cell 2;clear hb0 hb1 hbl hq b0 hri HR;generalize hKe:z05 cs k=K at*;have HKE:=zz hKe;clear hKe;have hw1:IntKind.i64.wrap ((K:Int)+1)=(K:Int)+1:=YB _ (by omega);obtain⟨out,hout⟩:∃out,cs.take K++cs.drop (K+1)=out:=⟨_,rfl⟩;have HO:=zz hout;clear hout;go_upto_region 4 with(fail)
 go_region_held3 (fun w'=>w'.cell? ⟨w.heap.size,0,none⟩=some (.bool leaf)/\w'.cell? ⟨w.heap.size,1,none⟩=some (.int .i64 next)/\w'.cell? ⟨w.heap.size,2,none⟩=some (.slice A cs.length c))
  (first
    |go_keep
    |(go_split_ands
      refine⟨?_,?_,?_⟩<;>(refine(hbz _).trans ?_;assumption)))
  ((first
    |(go_at_call 174;refine(z8X (fun b=>b<wf.heap.size) _ cs _ (by omega) (by exact HRf.out) (by omega)).mono ?_;rintro e w6 ⟨g,cap,cur,rfl,hBg,hg,hnc,hcm6,hcs6,hct6,hb6⟩;have hq6:Below wf.heap.size wf w6:=⟨hb6.os,hb6.tape,hb6.output,hb6.size,hb6.block⟩;have hbz:∀o,w6.cell? ⟨w.heap.size,o,none⟩=wf.cell? ⟨w.heap.size,o,none⟩:=fun o=>hq6.cell (p:=⟨w.heap.size,o,none⟩) (Qd hbp))
    |(go_at_call 173;refine(zBU wf.heap.size g cap cur cs K _ hBg (by exact hg) hcm6 hcs6 hct6 hnc hKl (by omega)).mono ?_;rintro e w7 ⟨rfl,hco7,hb7⟩;rw [HO.out]at hco7;have hz7:Below wf.heap.size w6 w7:=⟨hb7.os,hb7.tape,hb7.output,hb7.size,hb7.block⟩;have hq7:Below wf.heap.size wf w7:=hq6.trans hz7;have hbz:∀o,w7.cell? ⟨w.heap.size,o,none⟩=w6.cell? ⟨w.heap.size,o,none⟩:=fun o=>hz7.cell (p:=⟨w.heap.size,o,none⟩) (Qd hbp))
    |(go_at_call 172;refine(z3m (fun b=>wf.heap.size<=b/\b<w7.heap.size) leaf next _ _ out _ (by exact hco7.cs)).mono ?_;rintro e w9 ⟨A9,c9,rfl,hcs9,hb9⟩;have hz9:Below w7.heap.size w7 w9:=⟨hb9.os,hb9.tape,hb9.output,hb9.size,hb9.block⟩;have hq9:Below wf.heap.size wf w9:=hq7.trans (hz9.mono hq7.size);have hbz:∀o,w9.cell? ⟨w.heap.size,o,none⟩=w7.cell? ⟨w.heap.size,o,none⟩:=fun o=>hz9.cell (p:=⟨w.heap.size,o,none⟩) (yE (Qd hbp) hq7.size);have k1:=HB1.out.later hq9;have d0:w9.cell? ⟨w.heap.size+1,0,none⟩=some (.bool false):=k1.cell 0;have d1:w9.cell? ⟨w.heap.size+1,1,none⟩=some (.int .i64 0):=k1.cell 1;have d2:w9.cell? ⟨w.heap.size+1,2,none⟩=some (.slice none 0 0):=k1.cell 2;have f0:=k1.free 0;have f1:=k1.free 1;have f2:=k1.free 2)))
 go_wp2_with fail
 have HBL:=k1.put3 (.bool leaf) (.int .i64 next) (.slice A9 out.length c9);have hqw:=HQ.out.trans (hq9.mono HQ.out.size);have HQ7:=z0Y hqw (show w.heap.size<=w.heap.size+1 by omega) (.bool leaf) (.int .i64 next) (.slice A9 out.length c9);have h97:=hz9.size;have HP:Cs (fun b=>w.heap.size<=b/\b<w9.heap.size) (((w9.setCell ⟨w.heap.size+1,0,none⟩ (.bool leaf)).setCell ⟨w.heap.size+1,1,none⟩ (.int .i64 next)).setCell ⟨w.heap.size+1,2,none⟩ (.slice A9 out.length c9)) (.slice A9 out.length c9) out:=by
  have hn:∀b,((wf.heap.size<=b/\b<w7.heap.size)/\b<w7.heap.size)->w.heap.size+1<b:=fun b hb=>by omega
  refine Sl.more (Sl.setCell (Sl.setCell (Sl.setCell hcs9 (p:=⟨w.heap.size+1,0,none⟩) (fun h=>Yi _ (hn _ h)) _) (p:=⟨w.heap.size+1,1,none⟩) (fun h=>Yi _ (hn _ h)) _) (p:=⟨w.heap.size+1,2,none⟩) (fun h=>Yi _ (hn _ h)) _) fun b hb=> ?_
  have:=hn b hb;omega
 exact bodyPost_ret (z0L rfl _ _ (w.heap.size+1) rfl HBL z1Q) rfl ⟨_,rfl,by rw [HDL.out,HO.out];exact⟨A9,c9,rfl,Sl.more HP fun b hb=>⟨hb.1,by simpa using hb.2⟩⟩,HQ7⟩
theorem PgIs.later{B:Nat}{w w':World}{v:Value}{leaf:Bool}{next:Int}{cs:List Cel}(h:PgIs B w v leaf next cs)(hb:Below w.heap.size w w'):PgIs B w' v leaf next cs:=by
 obtain⟨A,c,rfl,hc⟩:=h;exact⟨A,c,rfl,Sl.more (Sl.below hc hb fun _ h=>h.2) fun b h=>⟨h.1,yE h.2 hb.size⟩⟩
def VPg(leaf:Bool)(next:Int)(cs:List Cel):VP:=fun v w=>PgIs 0 w v leaf next cs
theorem Stays.pg(leaf:Bool)(next:Int)(cs:List Cel):Stays (VPg leaf next cs):=fun _ _ _ hb h=>PgIs.later h hb
set_option linter.unusedSimpArgs false
section
variable {P:Program} {ops:Array Oper}
def z0i(P:Program)(w:World)(S:World->World->Prop)(V:VP):Result Next->Prop
 | .ok (.value u) w'=>S w w'/\V u w'
 | .ok .skip w'=>S w w'/\V undef w'
 | .ok (.enter f args) w'=>Calls P f args w' (fun e w''=>∃v,e= .returned v/\S w w''/\V v w'')
 |_=>False
def steps(P:Program)(o:Oper)(a:Act)(w:World)(S:World->World->Prop)(V:VP):Prop:=z0i P w S V ((execOp a.eval o).run P w)
theorem z7n{o:Oper}{a:Act}{w:World}{S:World->World->Prop}{V:VP}{K:Act->World->Prop}{Q:Exit->Act->World->Prop}(h:steps P o a w S V)
 (hK:∀v w',S w w'->V v w'->K (a.put o.dst v) w'):o.wp P a w K Q:=by
 unfold steps at h;unfold Oper.wp;generalize (execOp a.eval o).run P w=r at*;cases r with
 |ok n w'=>
  cases n<;>simp only [z0i]at h<;>simp only [Oper.upon]
  case value u=>exact hK _ _ h.1 h.2
  case skip=>exact hK _ _ h.1 h.2
  case enter f args=>exact h.mono fun e w'' ⟨v,he,hb,hv⟩=>by subst he;exact hK _ _ hb hv
 |halt x w'=>simp only [z0i]at h
theorem z41{o:Oper}{a:Act}{w:World}{S:World->World->Prop}{V:VP}(h:steps P o a w S V):∃v w',S w w'/\V v w':=by
 unfold steps at h;generalize (execOp a.eval o).run P w=r at*;cases r with
 |ok n w'=>
  cases n<;>simp only [z0i]at h
  case value u=>exact⟨u,w',h⟩
  case skip=>exact⟨_,w',h⟩
  case enter f args=>
   obtain⟨e,w'',fr,⟨v,_,hb,hv⟩,_⟩:=h [];exact⟨v,w'',hb,hv⟩
 |halt x w'=>simp only [z0i]at h
structure RegFr where
 S:Nat->World->World->Prop
 C:Nat->World->Prop
 E:World->Prop
def z1R(P:Program)(ops:Array Oper)(R:RegFr)(Q:Act->World->Prop):List Oper->List VP->List (Value×VP)->Act->Prop
 |o::rest,V::Vs,env,a=>
  (if Region.wanted o (yielded ops a.tmps)then ∀w,R.C env.length w->(∀e∈o.after,Region.binds .any e=true->∀ (x:Value) (W:VP),env[e.on]? =some (x,W)->W x w)->steps P o a w (R.S env.length) V else ∀w,R.C env.length w->V undef w)/\
  ∀x,(∃w,R.E w/\V x w)->z1R P ops R Q rest Vs (env++ [(x,V)]) (a.put o.dst x)
 | [],[],env,a=>∀w,R.E w->(∀ (j:Nat) (x:Value) (W:VP),env[j]? =some (x,W)->W x w)->Q a w
 |_,_,_,_=>False
structure RegFr.Ok(R:RegFr)(ops:Array Oper)(Vs:List VP):Prop where
 V:∀i j,i<ops.size->j<ops.size->i≠j->z0t ops j i=false->∀x w w',R.S i w w'->vAt Vs j x w->vAt Vs j x w'
 C:∀i j,i<ops.size->j<ops.size->i≠j->z0t ops i j=false->∀w w',R.S i w w'->R.C j w->R.C j w'
 E:∀i,i<ops.size->∀w w',R.S i w w'->R.E w->R.E w'
theorem zA9(Vs:List VP)(y:Nat->Value)(k:Nat):(z5C Vs y k).length=k:=by simp [z5C]
variable {R:RegFr} {Q:Act->World->Prop} {Vs:List VP} {a0:Act}
theorem z6V(hlen:Vs.length=ops.size)(h0:z1R P ops R Q ops.toList Vs [] a0)(y:Nat->Value):∀k,k<=ops.size->(∀j,j<k->∃w,R.E w/\vAt Vs j (y j) w)->
 z1R P ops R Q (ops.toList.drop k) (Vs.drop k) (z5C Vs y k) (z5b ops a0 y k)
 |0,_,_=>by simpa [z5C,z5b]using h0
 |k+1,hk,hy=>by
  have ih:=z6V hlen h0 y k (by omega) fun j hj=>hy j (by omega)
  have hk1:k<ops.toList.length:=by rw [ye];omega
  have hk2:k<Vs.length:=by omega
  rw [yL (l:=ops.toList) hk1,yL (l:=Vs) hk2]at ih;have h2:=ih.2 (y k) (by
   obtain⟨w,hw,hv⟩:=hy k (by omega);refine⟨w,hw,?_⟩;have e:vAt Vs k=Vs[k]'(by omega):=by simp [vAt,List.getD,yK (show k<Vs.length by omega)]
   rw [e]at hv;exact hv)
  have e1:z5C Vs y (k+1)=z5C Vs y k++ [(y k,Vs[k]'(by omega))]:=by
   simp [z5C,Zb,vAt,List.getD,yK (show k<Vs.length by omega)]
  have e2:z5b ops a0 y (k+1)=(z5b ops a0 y k).put (ops.toList[k]'(by rw [ye];omega)).dst (y k):=by
   rw [z5b]
   congr 1
   simp [z2J,yG (show k<ops.size by omega)]
  rw [e1,e2];exact h2
theorem z3l(hg:z3C ops=true){i j:Nat}(hi:i<ops.size)(h:z0t ops i j=true):j<i:=by
 obtain⟨e,he,rfl,hb⟩:=(z0z (yG hi)).1 h;exact(z3J hg).1 i _ (yG hi) e he hb
theorem z8d(hg:z3C ops=true)(hR:R.Ok ops Vs)(hlen:Vs.length=ops.size)
 (h0:z1R P ops R Q ops.toList Vs [] a0) {w:World} (hE:R.E w) {L:Nat->Bool} {x:Nat->Value} (hx:∀j,j<ops.size->L j=true->vAt Vs j (x j) w) (hcl:∀ (i:Nat) (o:Oper),ops[i]? =some o->L i=true->∀e∈o.after,Region.binds .any e=true->L e.on=true) (hC:∀j,j<ops.size->L j=false->R.C j w):
 ∀k,k<=ops.size->∃ (y:Nat->Value) (w':World),R.E w'/\(∀j,L j=true->y j=x j)/\(∀j,j<ops.size->L j=true∨j<k->vAt Vs j (y j) w')/\∀j,j<ops.size->L j=false->k<=j->R.C j w'
 |0,_=>⟨x,w,hE,fun _ _=>rfl,fun j hj h=>h.elim (hx j hj) (fun h=>by omega),fun j hj hl _=>hC j hj hl⟩
 |k+1,hk=>by
  obtain⟨y,w',hE',hyx,hy,hC'⟩:=z8d hg hR hlen h0 hE hx hcl hC k (by omega);by_cases hL:L k=true
  .refine⟨y,w',hE',hyx,fun j hj h=>hy j hj ?_,fun j hj hl hkj=>hC' j hj hl (by omega)⟩;rcases h with h|h
   .exact .inl h
   .by_cases hjk:j=k
    .subst hjk;exact .inl hL
    .exact .inr (by omega)
  .have hL':L k=false:=by simpa using hL
   have hcw:=hC' k (by omega) hL' (y5 _);have hat:=z6V hlen h0 y k (by omega) fun j hj=>⟨w',hE',hy j (by omega) (.inr hj)⟩
   have hk1:k<ops.toList.length:=by rw [ye];omega
   have hk2:k<Vs.length:=by omega
   rw [yL (l:=ops.toList) hk1,yL (l:=Vs) hk2]at hat;have e:vAt Vs k=Vs[k]'(by omega):=by simp [vAt,List.getD,yK (show k<Vs.length by omega)]
   have hex:∃v w'',(w''=w'∨R.S k w' w'')/\vAt Vs k v w'':=by
    have h1:=hat.1;rw [zA9]at h1
    split at h1
    .obtain⟨v,w'',hbb,hv⟩:=z41 (h1 w' hcw fun e he hbd x W hxW=>by
      obtain⟨hlt,rfl,rfl⟩:=z3H hxW;exact hy _ (by omega) (.inr hlt))
     exact⟨v,w'',.inr hbb,by rw [e];exact hv⟩
    .exact⟨undef,w',.inl rfl,by rw [e];exact h1 w' hcw⟩
   obtain⟨v,w'',hst,hv⟩:=hex;refine⟨fun j=>if j=k then v else y j,w'',?_,fun j hj=> ?_,fun j hj h=> ?_,fun j hj hl hkj=> ?_⟩
   .rcases hst with rfl|hst
    .exact hE'
    .exact hR.E k (by omega) _ _ hst hE'
   .have hne:j≠k:=by rintro rfl;exact hL hj
    simp only [hne,yv];exact hyx j hj
   .by_cases hjk:j=k
    .subst hjk;simpa using hv
    .simp only [hjk,yv];have h4:=hy j hj (h.elim .inl fun h=> .inr (by omega));rcases hst with rfl|hst
     .exact h4
     .refine hR.V k j (by omega) hj (fun e=>hjk e.symm) ?_ _ _ _ hst h4;cases hwt:z0t ops j k with
      |false=>rfl
      |true=>
       have hkj:=z3l hg hj hwt;rcases h with h|h
       .obtain⟨e,he,he2,hbd⟩:=(z0z (yG hj)).1 hwt;have:=hcl j _ (yG hj) h e he hbd;rw [he2,hL']at this;cases this
       .omega
   .have h4:=hC' j hj hl (by omega);rcases hst with rfl|hst
    .exact h4
    .refine hR.C k j (by omega) hj (by omega) ?_ _ _ hst h4;cases hwt:z0t ops k j with
     |false=>rfl
     |true=>exact absurd (z3l hg (by omega) hwt) (by omega)
theorem zGs(hg:z3C ops=true)(hR:R.Ok ops Vs)(hlen:Vs.length=ops.size)
 (h0:z1R P ops R Q ops.toList Vs [] a0) {Q':Exit->Act->World->Prop} (hQ:∀a w,Q a w->Q' .normal a w):
 ∀ (fuel:Nat) (listed:Array Bool) (a:Act) (w:World) (x:Nat->Value),listed.size=ops.size->R.E w->(∀j,j<ops.size->listed.getD j false=false->R.C j w)->Laid ops a0 (fun j=>if listed.getD j false then some (x j)else none) a->
   (∀j,j<ops.size->listed.getD j false=true->vAt Vs j (x j) w)->(∀ (i:Nat) (o:Oper),ops[i]? =some o->listed.getD i false=true->∀e∈o.after,Region.binds .any e=true->listed.getD e.on false=true)->
   unl ops.size listed<=fuel->wpAny P .any ops Q' fuel listed a w:=by
 obtain⟨hs1,hs2,hs3,hs4⟩:=z3J hg;have hlt:∀ {i:Nat} {o:Oper},ops[i]? =some o->i<ops.size:=fun ho=>(YM.1 ho).1
 have hend:∀ (listed:Array Bool) (a:Act) (w:World) (x:Nat->Value),listed.size=ops.size->R.E w->Laid ops a0 (fun j=>if listed.getD j false then some (x j)else none) a->
  (∀j,j<ops.size->listed.getD j false=true->vAt Vs j (x j) w)->Region.ready .any ops listed= []->Q' .normal a w:=by
  intro listed a w x hsz hw hL hx hr;have hall:∀n,∀j,j<n->j<ops.size->listed.getD j false=true:=by
   intro n
   induction n with
   |zero=>intro j hj;omega
   |succ n ih=>
    intro j hj hjs;rcases Y5 j n with hjn|hjn
    .exact ih j hjn hjs
    .obtain rfl:j=n:=by omega
     cases hlj:listed.getD j false with
     |true=>rfl
     |false=>
      exfalso;have:j∈Region.ready .any ops listed:=mem_ready.2 ⟨by
       have hj':j<listed.size:=by omega
       simpa [Array.getD,hj']using hlj,ops[j],yG hjs,fun e he hb=>ih e.on (hs1 j _ (yG hjs) e he hb) (by have:=hs1 j _ (yG hjs) e he hb;omega)⟩
      rw [hr]at this;cases this
  have hat:=z6V hlen h0 x ops.size (y5 _) fun j hj=>⟨w,hw,hx j hj (hall _ j hj hj)⟩
  rw [Yg (by simp),Yg (by omega)]at hat;have hq:=hat w hw fun j x' W hxW=>by
   obtain⟨hj,rfl,rfl⟩:=z3H hxW;exact hx j hj (hall _ j hj hj)
  have he:a=z5b ops a0 x ops.size:=Laid.same hL ((z2i hg a0 x ops.size (y5 _)).congr fun j hj=>by simp only [hj,YN,hall _ j hj hj]);rw [he];exact hQ _ _ hq
 intro fuel
 induction fuel with
 |zero=>
  intro listed a w x hsz hw hC hL hx hcl hf;have hr:Region.ready .any ops listed= []:=by
   rw [ZP];intro i hi;obtain⟨h1,o,ho,_⟩:=mem_ready.1 hi;have:i∈(List.range ops.size).filter fun j=> !listed.getD j true:=YD.2 ⟨yt.2 (hlt ho),by rw [h1];rfl⟩
   have hz:((List.range ops.size).filter fun j=> !listed.getD j true)= []:=yX (by unfold unl at hf;omega);rw [hz]at this;cases this
  exact⟨hr,hend listed a w x hsz hw hL hx hr⟩
 |succ fuel ih=>
  intro listed a w x hsz hw hC hL hx hcl hf;refine⟨fun hr=>hend listed a w x hsz hw hL hx hr,fun i hi=> ?_⟩;obtain⟨hi1,o,ho,hdeps⟩:=mem_ready.1 hi;have hin:=hlt ho;have hi2:=zBJ hi1;have eV:vAt Vs i=Vs[i]'(by omega):=by simp [vAt,List.getD,yK (show i<Vs.length by omega)]
  obtain⟨y,w',hE',hyx,hy,_⟩:=z8d hg hR hlen h0 hw (L:=fun j=>listed.getD j false) hx hcl hC i (by omega);have hat:=z6V hlen h0 y i (by omega) fun j hj=>⟨w',hE',hy j (by omega) (.inr hj)⟩
  have hk1:i<ops.toList.length:=by rw [ye];omega
  have hk2:i<Vs.length:=by omega
  rw [yL (l:=ops.toList) hk1,yL (l:=Vs) hk2]at hat;have eo:ops.toList[i]'(by simpa using hin)=o:=by
   have:=yG hin;rw [ho]at this;simpa using (YF this).symm
  rw [eo,<-eV]at hat;have hlex:=z2i hg a0 y i (by omega);have hag:∀t∈o.looksAt ops,a.tmps[t]? =(z5b ops a0 y i).tmps[t]? :=by
   intro t ht;by_cases hj:∃j,j<ops.size/\z2J ops j=some t
   .obtain⟨j,hjn,hjd⟩:=hj;have only:∀j',j'<ops.size->z2J ops j'=some t->j'=j:=fun j' h1 h2=>hs2 j' j t h1 hjn h2 hjd
    have hother:(listed.getD j false=false)->i<=j->a.tmps[t]? =(z5b ops a0 y i).tmps[t]? :=fun h1 h2=>by
     rw [hL.off t fun j' hj' hd'=>by rw [only j' hj' hd',h1];rfl,hlex.off t fun j' hj' hd'=>by
      rw [only j' hj' hd'];have:¬j<i:=by omega
      simp [this]]
    rcases hs3 i j o t ho hjn hjd ht with h|h|h
    .obtain⟨e,he,rfl,hbd⟩:=(z0z ho).1 h;have hl:=hdeps e he hbd;have hji:=hs1 i o ho e he hbd;rw [hL.put e.on t (x e.on) hjn hjd (by rw [hl];rfl),hlex.put e.on t (y e.on) hjn hjd (by simp [hji]),hyx e.on hl]
    .obtain⟨e,he,rfl,hbd⟩:=(z0z (yG hjn)).1 h;have hlt2:=hs1 j _ (yG hjn) e he hbd;refine hother ?_ (by omega);cases hlj:listed.getD j false with
     |false=>rfl
     |true=>
      have:=hcl j _ (yG hjn) hlj e he hbd;rw [hi2]at this;cases this
    .subst h;exact hother hi2 (y5 _)
   .rw [hL.off t fun j hjn hjd=>absurd ⟨j,hjn,hjd⟩ hj,hlex.off t fun j hjn hjd=>absurd ⟨j,hjn,hjd⟩ hj]
  obtain⟨hex,hwant⟩:=z5Z (ops:=ops) (hs4 i o · · ho) hag;have hnext:∀v w2,(w2=w∨R.S i w w2)->vAt Vs i v w2->wpAny P .any ops Q' fuel (listed.setIfInBounds i true) (a.put o.dst v) w2:=by
   intro v w2 hst hv;have hset:∀j,(listed.setIfInBounds i true).getD j false=if j=i then true else listed.getD j false:=fun j=>by
    by_cases hji:j=i
    .subst hji;have:j<listed.size:=by omega
     simp [Array.getD,this]
    .rw [getD_set_ne false (fun e=>hji e.symm)];simp [hji]
   refine ih _ _ _ (fun j=>if j=i then v else x j) (by simpa using hsz) ?_ ?_ ?_ ?_ ?_ ?_
   .rcases hst with rfl|hst
    .exact hw
    .exact hR.E i hin _ _ hst hw
   .intro j hj hlj;rw [hset]at hlj;by_cases hji:j=i
    .simp [hji]at hlj
    .simp only [hji,yv]at hlj;have h4:=hC j hj hlj;rcases hst with rfl|hst
     .exact h4
     .refine hR.C i j hin hj (fun e=>hji e.symm) ?_ _ _ hst h4;cases hwt:z0t ops i j with
      |false=>rfl
      |true=>
       obtain⟨e,he,rfl,hbd⟩:=(z0z ho).1 hwt;have:=hdeps e he hbd;rw [hlj]at this;cases this
   .refine(hL.next hg ho (by rw [hi2];rfl) v).congr fun j hj=> ?_
    rw [hset];by_cases hji:j=i<;>simp [hji]
   .intro j hj hlj;rw [hset]at hlj;by_cases hji:j=i
    .subst hji;simpa using hv
    .simp only [hji,yv]at hlj ⊢;have h4:=hx j hj hlj;rcases hst with rfl|hst
     .exact h4
     .refine hR.V i j hin hj (fun e=>hji e.symm) ?_ _ _ _ hst h4;cases hwt:z0t ops j i with
      |false=>rfl
      |true=>
       obtain⟨e,he,he2,hbd⟩:=(z0z (yG hj)).1 hwt;have:=hcl j _ (yG hj) hlj e he hbd;rw [he2,hi2]at this;cases this
   .intro k ok hok hlk e he hbd;rw [hset]at hlk ⊢;by_cases hki:k=i
    .subst hki;obtain rfl:ok=o:=by rw [ho]at hok;exact(YF hok).symm
     have:=hdeps e he hbd;by_cases h':e.on=k<;>simp [h',this]
    .simp only [hki,yv]at hlk;have:=hcl k ok hok hlk e he hbd;by_cases h':e.on=i<;>simp [h',this]
   .have:unl ops.size (listed.setIfInBounds i true)<unl ops.size listed:=by
     refine z2U (List.range ops.size) (fun j _ hq=> ?_) i (yt.2 hin) (by rw [hi1];rfl) ?_
     .by_cases hji:j=i
      .subst hji;rw [hi1];rfl
      .rwa [getD_set_ne true (fun e=>hji e.symm)]at hq
     .have:i<listed.size:=by omega
      simp [Array.getD,this]
    omega
  unfold wpOp;simp only [ho];rw [hwant];have h1:=hat.1;rw [zA9]at h1;have hci:=hC i hin hi2
  split
  .rename_i hwt;rw [yB hwt]at h1;refine .inl (z7n (S:=R.S i) (V:=vAt Vs i) ?_ fun v w2 hb2 hv=>hnext v w2 (.inr hb2) hv);unfold steps;rw [hex];exact h1 w hci fun e he hbd x' W hxW=>by
    obtain⟨hlt2,rfl,rfl⟩:=z3H hxW;have hl:=hdeps e he hbd;rw [hyx _ hl];exact hx _ (by omega) hl
  .rename_i hwt;rw [yA hwt]at h1;exact hnext undef w (.inl rfl) (h1 w hci)
theorem z3o{id:Nat}{Q':Exit->Act->World->Prop}{w0:World}(l:List Oper)(hm:P.follows .mixedOrders=true)(hg:z3C l.toArray=true)(hR:R.Ok l.toArray Vs)(hlen:Vs.length=l.length)
 (hE:R.E w0.drew) (hC:∀j,j<l.toArray.size->R.C j w0.drew)
 (h0:z1R P l.toArray R (fun a w=>Q' .normal a w) l Vs [] a0):(Code.region id l.toArray true).wp P Q' a0 w0:=by
 have hno:∀j,(Array.replicate l.toArray.size false).getD j false=false:=fun j=>by unfold Array.getD;split<;>simp
 refine wp_region_any hm (zGs (Q:=fun a w=>Q' .normal a w) hg hR (by simpa using hlen) (by simpa using h0) (fun a w h=>h) _ _ _ _ (fun _=>undef) (by simp) hE (fun j hj _=>hC j hj) ?_ ?_ ?_ ?_)
 .refine(Laid.start a0).congr fun j hj=> ?_
  rw [hno];rfl
 .intro j hj h;rw [hno]at h;cases h
 .intro i o ho h;rw [hno]at h;cases h
 .unfold unl;exact yD (YI _ _) (by simp)
structure Pt where
 i:Nat
 g:Nat
 t:TypeId
 o:Nat
 n:Nat
def Pt.hits(p:Pt)(b k:Nat):Prop:=p.g=b/\p.o<=k/\k<p.o+p.n
def zDB(p:Pt)(w w':World):Prop:=∃cs cs',Blk w p.g p.t cs/\cs'.size=cs.size/\(∀k,¬p.hits p.g k->cs'[k]? =cs[k]?)/\w'=w.setRow p.g cs'
theorem z1T(w:World)(g:Nat)(cs:Array Value)(b:Nat)(hb:b≠g):(w.setRow g cs).heap[b]? =w.heap[b]? :=by
 unfold World.setRow;simp only [ZD]
 split
 .rename_i h;exact absurd h.symm hb
 .rfl
theorem z2k(w:World)(g:Nat)(cs:Array Value):(w.setRow g cs).heap.size=w.heap.size:=by simp [World.setRow]
theorem Blk.same{w:World}{g:Nat}{t t':TypeId}{cs cs':Array Value}(h:Blk w g t cs)(h':Blk w g t' cs'):t=t'/\cs=cs':=by
 unfold Blk at h h';rw [h]at h';injection h' with h'
 injection h' with h1 h2
 exact⟨h2,h1⟩
structure Kept(X:Nat->Nat->Prop)(w w':World):Prop where
 os:w'.os=w.os
 tape:w'.tape=w.tape
 output:w'.output=w.output
 size:w.heap.size<=w'.heap.size
 blk:∀b t cs,Blk w b t cs->∃cs',Blk w' b t cs'/\cs'.size=cs.size/\∀k,¬X b k->cs'[k]? =cs[k]?
 rest:∀b,b<w.heap.size->(∀t cs,¬Blk w b t cs)->w'.heap[b]? =w.heap[b]?
theorem Kept.drew(X:Nat->Nat->Prop)(w:World):Kept X w w.drew:=⟨rfl,rfl,rfl,y5 _,fun _ _ cs h=>⟨cs,h,rfl,fun _ _=>rfl⟩,fun _ _ _=>rfl⟩
section
variable {X Y:Nat->Nat->Prop} {w w1 w2:World}
theorem Kept.mono(h:Kept X w w1)(hX:∀b k,X b k->Y b k):Kept Y w w1:=⟨h.os,h.tape,h.output,h.size,fun b t cs hb=>by
 obtain⟨cs',h1,h2,h3⟩:=h.blk b t cs hb;exact⟨cs',h1,h2,fun k hk=>h3 k fun e=>hk (hX b k e)⟩,h.rest⟩
theorem Kept.later(h:Kept X w w1)(k:Below w1.heap.size w1 w2):Kept X w w2:=⟨k.os.trans h.os,k.tape.trans h.tape,k.output.trans h.output,yD h.size k.size,fun b t cs hb=>by
 obtain⟨cs',h1,h2,h3⟩:=h.blk b t cs hb;exact⟨cs',h1.later k,h2,h3⟩,fun b hb hn=>(k.block b (yE hb h.size)).trans (h.rest b hb hn)⟩
theorem Kept.puts(h:Kept X w w1){p:Pt}(k:zDB p w1 w2)(hX:∀k,p.hits p.g k->X p.g k):Kept X w w2:=by
 obtain⟨cs,cs',h1,h2,h3,rfl⟩:=k;refine⟨h.os,h.tape,h.output,by rw [z2k];exact h.size,fun b t ds hb=> ?_,fun b hb hn=> ?_⟩
 .obtain⟨ds',g1,g2,g3⟩:=h.blk b t ds hb;by_cases hbg:b=p.g
  .subst hbg;obtain⟨rfl,rfl⟩:=g1.same h1;exact⟨cs',g1.setRow cs',h2.trans g2,fun k hk=>(h3 k fun e=>hk (hX k e)).trans (g3 k hk)⟩
  .exact⟨ds',(z1T w1 p.g cs' b hbg).trans g1,g2,g3⟩
 .by_cases hbg:b=p.g
  .subst hbg;have:=h.rest _ hb hn;refine absurd ?_ (hn p.t cs);unfold Blk at h1 ⊢;rw [<-this];exact h1
  .exact(z1T w1 p.g cs' b hbg).trans (h.rest b hb hn)
theorem Kept.at(h:Kept X w w1){g:Nat}{t:TypeId}{cs:Array Value}(hb:Blk w g t cs)(hX:∀k,¬X g k):Blk w1 g t cs:=by
 obtain⟨cs',h1,h2,h3⟩:=h.blk g t cs hb;obtain rfl:cs'=cs:=Array.ext_getElem? fun k=>h3 k (hX k)
 exact h1
theorem Kept.heap(h:Kept X w w1){b:Nat}(hb:b<w.heap.size)(hX:∀k,¬X b k):w1.heap[b]? =w.heap[b]? :=by
 by_cases hn:∃t cs,Blk w b t cs
 .obtain⟨t,cs,hbk⟩:=hn;have:=h.at hbk hX;unfold Blk at this hbk;rw [this,hbk]
 .exact h.rest b hb fun t cs e=>hn ⟨t,cs,e⟩
theorem Kept.below(h:Kept X w w1){B:Nat}(hB:B<=w.heap.size)(hX:∀b k,X b k->B<=b):Below B w w1:=
 ⟨h.os,h.tape,h.output,h.size,fun b hb=>h.heap (yE hb hB) fun k e=>by have:=hX b k e;omega⟩
theorem Kept.cell(h:Kept X w w1){b k:Nat}{v:Value}(hc:w.cell? ⟨b,k,none⟩=some v)(hX:¬X b k):w1.cell? ⟨b,k,none⟩=some v:=by
 by_cases hn:∃t cs,Blk w b t cs
 .obtain⟨t,cs,hbk⟩:=hn;obtain⟨cs',h1,_,h3⟩:=h.blk b t cs hbk;rw [hbk.cell]at hc;rw [h1.cell,h3 k hX];exact hc
 .have hlt:b<w.heap.size:=by
   rcases Y5 b w.heap.size with h1|h1
   .exact h1
   .simp [World.cell?,YK h1]at hc
  have:=h.rest b hlt fun t cs e=>hn ⟨t,cs,e⟩
  rw [yR (a:=⟨b,k,none⟩) this];exact hc
end
def ptS(st:List Pt)(i:Nat):World->World->Prop:=fun w w'=>match st.find? (fun p=>p.i==i)with
 |some p=>zDB p w w'
 |none=>Below w.heap.size w w'
def ptX(ops:Array Oper)(st:List Pt)(j:Nat):Nat->Nat->Prop:=fun b k=>∃p∈st,p.i≠j/\z0t ops p.i j=false/\p.hits b k
def ptE(st:List Pt):Nat->Nat->Prop:=fun b k=>∃p∈st,p.hits b k
def ptR(ops:Array Oper)(st:List Pt)(w0:World):RegFr:=⟨ptS st,fun j=>Kept (ptX ops st j) w0,Kept (ptE st) w0⟩
theorem z4a{ops:Array Oper}{st:List Pt}{j:Nat}(b k:Nat)(h:ptX ops st j b k):ptE st b k:=by
 obtain⟨p,h1,_,_,h2⟩:=h;exact⟨p,h1,h2⟩
def z3u(p:Pt)(V:VP):Prop:=∀v w w',zDB p w w'->V v w->V v w'
def zH4(ops:Array Oper)(st:List Pt):Nat->List VP->Prop
 |_,[]=>True
 |j,V::Vs=>(Stays V/\∀p∈st,p.i≠j->z0t ops j p.i=false->z3u p V)/\zH4 ops st (j+1) Vs
theorem allOk{st:List Pt}:∀ {Vs:List VP} {n:Nat},zH4 ops st n Vs->∀j,j<Vs.length->Stays (vAt Vs j)/\∀p∈st,p.i≠n+j->z0t ops (n+j) p.i=false->z3u p (vAt Vs j)
 |V::Vs,n,h,0,_=>h.1
 |V::Vs,n,h,j+1,hj=>by
  have:=allOk h.2 j (by simp only [y8]at hj;omega);rw [show n+1+j=n+(j+1)from by omega]at this;exact this
theorem zBc{st:List Pt}{i:Nat}{p:Pt}(h:st.find? (fun p=>p.i==i)=some p):p∈st/\p.i=i:=by
 have h1:=Yu h;exact⟨yr h,by simpa using h1⟩
theorem ptR_ok{st:List Pt}{w0:World}(hlen:Vs.length=ops.size)(h:zH4 ops st 0 Vs):(ptR ops st w0).Ok ops Vs:=by
 refine⟨fun i j hi hj hne hwt x w w' hS hv=> ?_,fun i j hi hj hne hwt w w' hS hC=> ?_,fun i hi w w' hS hE=> ?_⟩
 .have h1:=allOk h j (by omega);rw [Y4]at h1;simp only [ptR,ptS]at hS
  split at hS
  .rename_i p hp;obtain⟨hm,rfl⟩:=zBc hp;exact h1.2 p hm hne hwt x w w' hS hv
  .exact h1.1 x w w' hS hv
 .simp only [ptR,ptS]at hS hC ⊢
  split at hS
  .rename_i p hp;obtain⟨hm,rfl⟩:=zBc hp;exact hC.puts hS fun k hk=>⟨p,hm,hne,hwt,hk⟩
  .exact hC.later hS
 .simp only [ptR,ptS]at hS hE ⊢
  split at hS
  .rename_i p hp;obtain⟨hm,rfl⟩:=zBc hp;exact hE.puts hS fun k hk=>⟨p,hm,hk⟩
  .exact hE.later hS
theorem z1z{id:Nat}{Q':Exit->Act->World->Prop}{w0:World}{l:List Oper}{a0:Act}(st:List Pt)(hm:P.follows .mixedOrders=true)(hg:z3C l.toArray=true)
 (h:∃Vs,z1R P l.toArray (ptR l.toArray st w0) (fun a w=>Q' .normal a w) l Vs [] a0/\zH4 l.toArray st 0 Vs/\Vs.length=l.length):(Code.region id l.toArray true).wp P Q' a0 w0:=by
 obtain⟨Vs,h0,hS,hlen⟩:=h;exact z3o l hm hg (ptR_ok (by simpa using hlen) hS) hlen (Kept.drew _ _) (fun _ _=>Kept.drew _ _) h0
section
variable {Q:Act->World->Prop} {a:Act} {o:Oper} {rest:List Oper} {Vs:List VP} {env:List (Value×VP)} {st:List Pt} {w0:World}
theorem z0X{c:Value}(hw:Region.wanted o (yielded ops a.tmps)=true)(hs:st.find? (fun p=>p.i==env.length)=none)
 (h1:∀w,Kept (ptX ops st env.length) w0 w->(∀e∈o.after,Region.binds .any e=true->∀ (x:Value) (W:VP),env[e.on]? =some (x,W)->W x w)->z03 P o a w (Is c))
 (h2:∀K:Act->Prop,(∀a',z1R P ops (ptR ops st w0) Q rest Vs (env++ [(c,Is c)]) a'->K a')->K (a.put o.dst c)):z1R P ops (ptR ops st w0) Q (o::rest) (Is c::Vs) env a:=by
 refine⟨?_,fun x ⟨w,_,hx⟩=> ?_⟩
 .rw [yB hw];intro w hC hf;have h3:=h1 w hC hf;have eS:(ptR ops st w0).S env.length=fun w w'=>Below w.heap.size w w':=by funext w w';simp only [ptR,ptS,hs]
  rw [eS];unfold z03 at h3;unfold steps
  revert h3
  cases (execOp a.eval o).run P w with
  |ok n w'=>
   cases n<;>simp only [z0H,z0i]<;>first|exact fun h=>h|exact fun h=>h.2.mono fun e w'' ⟨v,he,hb,hv⟩=>⟨v,he,z1M h.1 hb,hv⟩
  |halt x w'=>simp only [z0H,z0i];exact fun h=>h
 .obtain rfl:x=c:=hx;exact h2 _ fun _ h=>h
theorem z1w{V:VP}(hw:Region.wanted o (yielded ops a.tmps)=true)(hs:st.find? (fun p=>p.i==env.length)=none)
 (h1:∀w,Kept (ptX ops st env.length) w0 w->(∀e∈o.after,Region.binds .any e=true->∀ (x:Value) (W:VP),env[e.on]? =some (x,W)->W x w)->z03 P o a w V)
 (h2:∀x,(∃w,Kept (ptE st) w0 w/\V x w)->∀K:Act->Prop,(∀a',z1R P ops (ptR ops st w0) Q rest Vs (env++ [(x,V)]) a'->K a')->K (a.put o.dst x)):z1R P ops (ptR ops st w0) Q (o::rest) (V::Vs) env a:=by
 refine⟨?_,fun x hx=>h2 x hx _ fun _ h=>h⟩;rw [yB hw];intro w hC hf;have h3:=h1 w hC hf;have eS:(ptR ops st w0).S env.length=fun w w'=>Below w.heap.size w w':=by funext w w';simp only [ptR,ptS,hs]
 rw [eS];unfold z03 at h3;unfold steps
 revert h3
 cases (execOp a.eval o).run P w with
 |ok n w'=>
  cases n<;>simp only [z0H,z0i]<;>first|exact fun h=>h|exact fun h=>h.2.mono fun e w'' ⟨v,he,hb,hv⟩=>⟨v,he,z1M h.1 hb,hv⟩
 |halt x w'=>simp only [z0H,z0i];exact fun h=>h
theorem z4X(hw:Region.wanted o (yielded ops a.tmps)=false)(h2:∀K:Act->Prop,(∀a',z1R P ops (ptR ops st w0) Q rest Vs (env++ [(undef,Is undef)]) a'->K a')->K (a.put o.dst undef)):z1R P ops (ptR ops st w0) Q (o::rest) (Is undef::Vs) env a:=by
 refine⟨by rw [yA (by rw [hw];simp)];exact fun _ _=>rfl,fun x ⟨w,_,hx⟩=> ?_⟩;obtain rfl:x=undef:=hx;exact h2 _ fun _ h=>h
theorem z4D(h:∀w,Kept (ptE st) w0 w->(∀ (j:Nat) (x:Value) (W:VP),env[j]? =some (x,W)->W x w)->Q a w):z1R P ops (ptR ops st w0) Q [] [] env a:=h
def HasV(g:Nat)(t:TypeId)(R:VP):VP:=fun v w=>v=undef/\∃cs,Blk w g t cs/\R (.agg cs) w
theorem HasV.stays{g:Nat}{t:TypeId}{R:VP}(h:Stays R):Stays (HasV g t R):=fun v w w' hb ⟨h1,cs,h2,h3⟩=>⟨h1,cs,h2.later hb,h _ _ _ hb h3⟩
theorem HasV.pstays{g:Nat}{t:TypeId}{R:VP}{p:Pt}(hne:g≠p.g)(h:z3u p R):z3u p (HasV g t R):=fun v w w' hp ⟨h1,cs,h2,h3⟩=>by
 refine⟨h1,cs,?_,h _ _ _ hp h3⟩;obtain⟨ds,ds',_,_,_,rfl⟩:=hp;exact(z1T w p.g ds' g hne).trans h2
theorem z0q{i g n:Nat}{t:TypeId}{b:Nat}(h:b≠g)(k:Nat):¬ptE [⟨i,g,t,0,n⟩] b k:=by
 rintro⟨p,hp,e,_⟩;simp only [y9,yH,yp]at hp;subst hp;exact h e.symm
theorem zAT{ops:Array Oper}{i g n:Nat}{t u:TypeId}{j b:Nat}{c:Value}(h:j=i∨b≠g):Stays (HasV b u (Is c))/\∀p∈ [(⟨i,g,t,0,n⟩:Pt)],p.i≠j->z0t ops j p.i=false->z3u p (HasV b u (Is c)):=
 ⟨HasV.stays (Stays.is c),fun p hp hj _=>HasV.pstays (by
   simp only [y9,yH,yp]at hp;subst hp;rcases h with h|h
   .exact absurd h.symm hj
   .exact h) (fun _ _ _ _ h=>h)⟩
theorem Is.pstays(c:Value)(p:Pt):z3u p (Is c):=fun _ _ _ _ h=>h
theorem z7l(R:VP)(cs:Array Value){t:TypeId}(hw:Region.wanted o (yielded ops a.tmps)=true)(ty:TypeId)(x y:Operand)(ho:o.op= .store ty x y)(g:Nat)(hx:a.eval x= .pointer (some ⟨g,0,none⟩))(hy:a.eval y= .agg cs)
 (hi:(P.info? ty).map (·.size)=some cs.size) (h1:cs.all (·.oneCell')=true) {old:Array Value} (hb:Blk w0 g t old) (hold:old.size=cs.size)
 (hs:st.find? (fun p=>p.i==env.length)=some ⟨env.length,g,t,0,cs.size⟩)
 (hv:∀w,Kept (ptE st) w0 w->(∀e∈o.after,Region.binds .any e=true->∀ (x:Value) (W:VP),env[e.on]? =some (x,W)->W x w)->R (.agg cs) w) (hps:∀p:Pt,p.t=t->z3u p R)
 (h2:∀K:Act->Prop,(∀a',z1R P ops (ptR ops st w0) Q rest Vs (env++ [(undef,HasV g t R)]) a'->K a')->K (a.put o.dst undef)):z1R P ops (ptR ops st w0) Q (o::rest) (HasV g t R::Vs) env a:=by
 refine⟨?_,fun x ⟨w,_,hx⟩=> ?_⟩
 .rw [yB hw];intro w hC hf;obtain⟨ds,h3,h4,_⟩:=hC.blk g t old hb;have eS:(ptR ops st w0).S env.length=zDB ⟨env.length,g,t,0,cs.size⟩:=by funext w w';simp only [ptR,ptS,hs]
  rw [eS];have hrun:(execOp a.eval o).run P w= .ok .skip (w.setRow g cs):=by
   unfold execOp;simp only [ho,hx,hy,Instr.storeAt,Instr.sureAddr,ZV,ZW,Ym,run_storeVar_row w g t ty ds cs h3 hi (h4.trans hold) h1]
  have hpt:zDB ⟨env.length,g,t,0,cs.size⟩ w (w.setRow g cs):=⟨ds,cs,h3,(h4.trans hold).symm,fun k hk=>by
   have:cs.size<=k:=by
    rcases Y5 k cs.size with h5|h5
    .exact absurd ⟨rfl,yU _,by simpa using h5⟩ hk
    .exact h5
   rw [YK this,YK (by omega)],rfl⟩
  unfold steps;rw [hrun];exact⟨hpt,rfl,cs,h3.setRow cs,hps _ rfl _ _ _ hpt (hv w (Kept.mono hC z4a) hf)⟩
 .obtain⟨rfl,_⟩:=hx;exact h2 _ fun _ h=>h
theorem okIs(ops:Array Oper)(st:List Pt)(j:Nat)(c:Value):Stays (Is c)/\∀p∈st,p.i≠j->z0t ops j p.i=false->z3u p (Is c):=⟨Stays.is c,fun p _ _ _=>Is.pstays c p⟩
end
end
end
end Go.Proofs.YthnlcbamjehpdaaGreatDoor
