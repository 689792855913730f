/- Part 3. -/
import Derived.Test.YthbhkdhljlganaaGreatDoorStoreWholeJ2
import Derived.Deep.RegionLaw
import Derived.Maps.OwnSet
import Derived.Maps.RangeWalk
namespace Go.Proofs.YthbhkdhljlganaaGreatDoor
set_option linter.unusedVariables false
set_option maxHeartbeats 16000000
set_option maxRecDepth 100000
section
open Go Go.RowKit
theorem Cs.put3{S:Nat→Prop}{w:World}{sl:Value}{cs:List Cel}{g1 L B:Nat}(h:Cs S w sl cs)(hS:∀b,S b→L≤b∧b<w.heap.size)(h1:g1<L)(hB:B≤L)(x y z:Value):
 Cs (fun b=>B≤b∧b<(((w.setCell ⟨g1,0,none⟩ x).setCell ⟨g1,1,none⟩ y).setCell ⟨g1,2,none⟩ z).heap.size)
  (((w.setCell ⟨g1,0,none⟩ x).setCell ⟨g1,1,none⟩ y).setCell ⟨g1,2,none⟩ z) sl cs:=by
 have n1:¬S g1:=fun e=>by have:=(hS _ e).1;omega
 refine Sl.more (((Sl.setCell h (p:=⟨g1,0,none⟩) n1 x).setCell (p:=⟨g1,1,none⟩) n1 y).setCell (p:=⟨g1,2,none⟩) n1 z) fun b hb=> ?_
 have:=hS b hb;exact⟨by omega,by simpa using this.2⟩
theorem zDk{w:World}{B B':Nat}{v:Value}{cs:List Cel}(h:Co w B v cs)(hB:B'≤B):Co w B' v cs:=by
 obtain⟨h1,h2⟩:=h;refine⟨h1,?_⟩;rcases h2 with h2|⟨g,cap,cur,hv,hg,r⟩
 ·exact .inl h2
 ·exact .inr ⟨g,cap,cur,hv,Nat.le_trans hB hg,r⟩
theorem zEV(S S':Nat→Prop)(l1 l2:Bool)(n1 n2:Int)(va vb:Value)(us vs:List Cel)(w:World)(hu:us.length≤1000000)(hv:vs.length≤1000000)(ha:Cs S w va us)(hb:Cs S' w vb vs):
 Calls Tryz.prog 142 #[.agg #[.bool l1,.int .i64 n1,va],.agg #[.bool l2,.int .i64 n2,vb]] w fun e w'=>∃v,e= .returned v∧PgIs w.heap.size w' v l1 n2 (us++vs)∧Below w.heap.size w w':=by
 have HA:=zz ha.lt;have HB:=zz hb.lt;obtain⟨A,c,rfl,_⟩:=ha.at;obtain⟨B,d,rfl,_⟩:=hb.at;clear ha hb;have b1:Blk (((w.alloc (.cells #[.bool l1,.int .i64 n2,.slice A us.length c] 36)).alloc (.cells #[.bool l2,.int .i64 n2,.slice B vs.length d] 36)).alloc (.cells #[.bool false,.int .i64 0,.slice none 0 0] 36)) w.heap.size 36 #[.bool l1,.int .i64 n2,.slice A us.length c]:=((Blk.new _ _ _).alloc _).alloc _;have b2:Blk (((w.alloc (.cells #[.bool l1,.int .i64 n2,.slice A us.length c] 36)).alloc (.cells #[.bool l2,.int .i64 n2,.slice B vs.length d] 36)).alloc (.cells #[.bool false,.int .i64 0,.slice none 0 0] 36)) (w.heap.size+1) 36 #[.bool l2,.int .i64 n2,.slice B vs.length d]:=(Blk.new1 _ _ _ _).alloc _;have b3:Blk (((w.alloc (.cells #[.bool l1,.int .i64 n2,.slice A us.length c] 36)).alloc (.cells #[.bool l2,.int .i64 n2,.slice B vs.length d] 36)).alloc (.cells #[.bool false,.int .i64 0,.slice none 0 0] 36)) (w.heap.size+1+1) 36 #[.bool false,.int .i64 0,.slice none 0 0]:=by
  have:=Blk.new1 (w.alloc (.cells #[.bool l1,.int .i64 n2,.slice A us.length c] 36)) (.cells #[.bool l2,.int .i64 n2,.slice B vs.length d] 36) 36 #[.bool false,.int .i64 0,.slice none 0 0];simpa using this
 have q0:Below w.heap.size w (((w.alloc (.cells #[.bool l1,.int .i64 n2,.slice A us.length c] 36)).alloc (.cells #[.bool l2,.int .i64 n2,.slice B vs.length d] 36)).alloc (.cells #[.bool false,.int .i64 0,.slice none 0 0] 36)):=(((Below.refl _ _).alloc (Nat.le_refl _) _).alloc (by simp) _).alloc (by simp;omega) _;go_enter Tryz.func142,Tryz.ntmps142
 go_wp2_with fail
 generalize hW:(((w.alloc (.cells #[.bool l1,.int .i64 n2,.slice A us.length c] 36)).alloc (.cells #[.bool l2,.int .i64 n2,.slice B vs.length d] 36)).alloc (.cells #[.bool false,.int .i64 0,.slice none 0 0] 36))=W at*;clear hW;have d0:W.cell? ⟨w.heap.size,0,none⟩=some (.bool l1):=b1.cell 0;have d1:W.cell? ⟨w.heap.size,1,none⟩=some (.int .i64 n2):=b1.cell 1;have d2:W.cell? ⟨w.heap.size,2,none⟩=some (.slice A us.length c):=b1.cell 2;have d3:W.cell? ⟨w.heap.size+1,2,none⟩=some (.slice B vs.length d):=b2.cell 2;have hWs:=b3.lt;have HB3:=zz b3;have q1:Below W.heap.size W (W.alloc (.cells #[.slice A us.length c,.slice B vs.length d] 34)):=(Below.refl _ _).alloc (Nat.le_refl _) _;have HC:=zz (z6s W.heap.size (.slice A us.length c) (.slice B vs.length d) us vs (W.alloc (.cells #[.slice A us.length c,.slice B vs.length d] 34)) hu hv (Blk.new _ _ _) ((HA.out.up q0).up q1) ((HB.out.up q0).up q1));have HCd:=zz (z6s W.heap.size (.slice A us.length c) (.slice B vs.length d) us vs (W.alloc (.cells #[.slice A us.length c,.slice B vs.length d] 34)).drew hu hv (Blk.new _ _ _) ((HA.out.up q0).up q1.drew) ((HB.out.up q0).up q1.drew));obtain⟨cs,hcs⟩:∃cs,us++vs=cs:=⟨_,rfl⟩;have HCS:=zz hcs;rw [hcs]at HC HCd;clear hcs b1 b2 b3;have n1':¬w.heap.size=w.heap.size+1+1:=by omega
 have n2':¬w.heap.size+1+1=w.heap.size:=by omega
 have n5:¬w.heap.size+1=w.heap.size+1+1:=by omega
 have n6:¬w.heap.size+1+1=w.heap.size+1:=by omega
 have l0:¬w.heap.size=W.heap.size:=by omega
 have l1':¬w.heap.size+1=W.heap.size:=by omega
 go_region_held3 (fun w'=>w'.cell? ⟨w.heap.size,0,none⟩=some (.bool l1)∧w'.cell? ⟨w.heap.size,1,none⟩=some (.int .i64 n2)∧w'.cell? ⟨w.heap.size,2,none⟩=some (.slice A us.length c)∧w'.cell? ⟨w.heap.size+1,2,none⟩=some (.slice B vs.length d))
  (first
    |go_keep
    |(go_split_ands
      refine⟨?_,?_,?_,?_⟩<;>(apply cell_later hbz;assumption))
    |(go_split_ands
      refine⟨?_,?_,?_,?_⟩<;>(rw [World.cell?_alloc_lt _ _ _ (by simp;omega)];assumption)))
  ((first
    |(go_at_call 151;(first|refine HC.out.mono ?_|refine HCd.out.mono ?_);rintro e w6 ⟨A6,c6,rfl,hco6,hbz⟩;have hz6:Below (W.alloc (.cells #[.slice A us.length c,.slice B vs.length d] 34)).heap.size (W.alloc (.cells #[.slice A us.length c,.slice B vs.length d] 34)) w6:=⟨hbz.os,hbz.tape,hbz.output,hbz.size,hbz.block⟩;have hq6:=q1.trans (hz6.mono q1.size);have hco6':Co w6 W.heap.size (.slice A6 cs.length c6) cs:=zDk hco6 (by simp))
    |(go_at_call 109;refine(z3g (fun b=>W.heap.size≤b∧b<w6.heap.size) l1 n2 _ _ cs _ (by exact hco6'.cs)).mono ?_;rintro e w7 ⟨A7,c7,rfl,hcs7,hbz⟩;have hz7:Below w6.heap.size w6 w7:=⟨hbz.os,hbz.tape,hbz.output,hbz.size,hbz.block⟩;have hq7:Below W.heap.size W w7:=hq6.trans (hz7.mono hq6.size);have k2:=HB3.out.later hq7;have k20:w7.cell? ⟨w.heap.size+1+1,0,none⟩=some (.bool false):=k2.cell 0;have k21:w7.cell? ⟨w.heap.size+1+1,1,none⟩=some (.int .i64 0):=k2.cell 1;have k22:w7.cell? ⟨w.heap.size+1+1,2,none⟩=some (.slice none 0 0):=k2.cell 2;have j20:=k2.free 0;have j21:=k2.free 1;have j22:=k2.free 2)))
 all_goals
  go_wp2_with fail
  exact bodyPost_ret (z0W rfl _ _ (w.heap.size+1+1) rfl (k2.put3 _ _ _) z1I) rfl ⟨_,rfl,by rw [HCS.out];exact⟨A7,c7,rfl,Cs.put3 (L:=W.heap.size) hcs7 (fun b h=>⟨h.1.1,Nat.lt_of_lt_of_le h.2 hz7.size⟩) hWs (by omega) _ _ _⟩,z0Y (q0.trans (hq7.mono q0.size)) (by omega) _ _ _⟩
theorem zCA(f:FuncId)(cb:Array Value)(n K:Nat)(w:World)(hn:n≤1000000)(hK:K≤n)(eg:∀args w,(callFunc f args).run Tryz.prog w= .ok (.enter f args) w)
 (hf:∀i m,i<n→Calls Tryz.prog f (#[.int .i64 (i:Int)]++cb) (w.drewN m) fun e w'=>e= .returned (.bool (decide (K≤i)))∧∃m',w'=w.drewN m'):
 Calls Tryz.prog 117 #[.int .i64 (n:Int),.func (Fn.func f) #[] cb] w fun e w'=>e= .returned (.int .i64 (K:Int))∧∃m,w'=w.drewN m:=by
 have HF:=zz hf;clear hf;go_enter Tryz.func117,Tryz.ntmps117
 go_wp2_with fail
 go_loopw [5,6] (fun lv hv wr=>∃lo hi m:Nat,lv= .int .i64 (lo:Int)∧hv= .int .i64 (hi:Int)∧lo≤K∧K≤hi∧hi≤n∧wr=w.drewN m) (fun lv hv _=>(intOf hv).toNat-(intOf lv).toNat)
 case atStart=>exact⟨0,n,0,rfl,rfl,by omega,hK,by omega,rfl⟩
 case round=>
  obtain⟨lo,hi,m,rfl,rfl,h1,h2,h3,rfl⟩:=hrel;by_cases hlt:lo<hi
  ·have hc:=HF.out ((lo+hi) / 2) m (by omega);have hd:(((lo+hi) / 2:Nat):Int)=((lo:Int)+(hi:Int)) / 2:=by omega
   rw [hd]at hc;have HC:=zz hc;have hw1:IntKind.i64.wrap ((lo:Int)+(hi:Int))=(lo:Int)+(hi:Int):=IntWalk.i64_in _ (by omega);have hw2:IntKind.u64.wrap ((lo:Int)+(hi:Int))=(lo:Int)+(hi:Int):=z1e (by omega) (by unfold U64;omega);have hw3:IntKind.i64.wrap (((lo:Int)+(hi:Int)) / 2)=((lo:Int)+(hi:Int)) / 2:=IntWalk.i64_in _ (by omega);clear hc hd;go_wp2_with fail
   refine HC.out.mono ?_;rintro e w1 ⟨rfl,m',rfl⟩;by_cases hKh:K≤(lo+hi) / 2
   ·rw [decide_eq_true hKh];go_wp2_with fail
    go_roundw
    case rel=>exact⟨lo,(lo+hi) / 2,_,rfl,by go_num,by omega,hKh,by omega,rfl⟩
    case measure=>simp [intOf];omega
   ·rw [decide_eq_false hKh];have hw4:IntKind.i64.wrap (((lo:Int)+(hi:Int)) / 2+1)=((lo:Int)+(hi:Int)) / 2+1:=IntWalk.i64_in _ (by omega);go_wp2_with fail
    go_roundw
    case rel=>exact⟨(lo+hi) / 2+1,hi,_,by go_num,rfl,by omega,by omega,by omega,rfl⟩
    case measure=>simp [intOf];omega
  ·obtain rfl:lo=hi:=by omega
   obtain rfl:lo=K:=by omega
   go_wp2_with fail
   go_ret
   exact⟨rfl,m,rfl⟩
end
section
open Go
theorem z4W:∀a b c:List UInt8,z40 a b<0→z40 b c<0→z40 a c<0
 | [],[],c,h,_=>by simp [z40]at h
 | [],b::bs,[],_,h=>by simp [z40]at h
 | [],b::bs,c::cs,_,_=>by simp [z40]
 |a::as',[],c,h,_=>by simp [z40]at h
 |a::as',b::bs,[],_,h=>by simp [z40]at h
 |a::as',b::bs,c::cs,h1,h2=>by
  have ih:=z4W as' bs cs;unfold z40 at h1 h2 ⊢
  split at h1
  ·split at h2
   ·rw [if_pos (by omega)];decide
   ·split at h2
    ·omega
    ·have e:b.toNat=c.toNat:=by omega
     rw [if_pos (by omega)];decide
  ·split at h1
   ·omega
   ·split at h2
    ·rw [if_pos (by omega)];decide
    ·split at h2
     ·omega
     ·rw [if_neg (by omega),if_neg (by omega)];exact ih h1 h2
def RisesP(cs:List Cel):Prop:=∀i,(h:i+1<cs.length)→Op.bytesLess (cs[i]'(by omega)).1 cs[i+1].1=true
theorem zCk{cs:List Cel}(h:RisesP cs):∀ (d i:Nat),(hd:i+d+1<cs.length)→z40 (cs[i]'(by omega)).1 (cs[i+d+1]'hd).1<0
 |0,i,hd=>by
  have:=h i (by omega);rw [z3I,decide_eq_true_eq]at this;exact this
 |d+1,i,hd=>by
  have h1:=zCk h d i (by omega);have h2:=h (i+d+1) (by omega);rw [z3I,decide_eq_true_eq]at h2;exact z4W _ _ _ h1 h2
theorem zAN{cs:List Cel}(h:RisesP cs){i j:Nat}(hij:i<j)(hj:j<cs.length):z40 (cs[i]'(by omega)).1 cs[j].1<0:=by
 obtain⟨d,rfl⟩:∃d,j=i+d+1:=⟨j-i-1,by omega⟩;exact zCk h d i hj
def z03(cs:List Cel)(k:List UInt8):Nat:=(cs.takeWhile fun c=>Op.bytesLess c.1 k).length
theorem z1W(cs:List Cel)(k:List UInt8):z03 cs k≤cs.length:=by
 unfold z03;have:=List.takeWhile_append_dropWhile (p:=fun c:Cel=>Op.bytesLess c.1 k) (l:=cs);have h:=congrArg List.length this;rw [List.length_append]at h;omega
theorem z6Q:∀ {cs:List Cel} {k:List UInt8} {i:Nat},(h:i<z03 cs k)→Op.bytesLess (cs[i]'(by have:=z1W cs k;omega)).1 k=true
 | [],k,i,h=>by simp [z03]at h
 |c::cs,k,i,h=>by
  unfold z03 at h;rw [List.takeWhile_cons]at h
  split at h
  ·rename_i hc;rcases i with _|i
   ·exact hc
   ·have:=z6Q (cs:=cs) (k:=k) (i:=i) (by unfold z03;simpa using h);simpa using this
  ·simp at h
theorem zCh:∀ {cs:List Cel} {k:List UInt8},(h:z03 cs k<cs.length)→Op.bytesLess cs[z03 cs k].1 k=false
 | [],k,h=>by simp at h
 |c::cs,k,h=>by
  by_cases hc:Op.bytesLess c.1 k=true
  ·have e:z03 (c::cs) k=z03 cs k+1:=by unfold z03;rw [List.takeWhile_cons,if_pos hc];rfl
   have h':z03 cs k<cs.length:=by rw [e]at h;simpa using h
   have:=zCh h';simp only [e,List.getElem_cons_succ];exact this
  ·have e:z03 (c::cs) k=0:=by unfold z03;rw [List.takeWhile_cons,if_neg hc];rfl
   simp only [e,List.getElem_cons_zero];simpa using hc
theorem zA6{cs:List Cel}(hr:RisesP cs)(k:List UInt8){i:Nat}(hi:i<cs.length):(!Op.bytesLess cs[i].1 k)=decide (z03 cs k≤i):=by
 rcases Nat.lt_or_ge i (z03 cs k)with h|h
 ·rw [z6Q h];simp;omega
 ·have hK:z03 cs k<cs.length:=by omega
  have h0:=zCh hK;have hb:Op.bytesLess cs[i].1 k=false:=by
   rcases Nat.lt_or_ge (z03 cs k) i with hl|hl
   ·rw [z3I,decide_eq_false_iff_not]at h0 ⊢;have h1:=zAN hr hl hi;intro h2;exact h0 (z4W _ _ _ h1 h2)
   ·obtain rfl:i=z03 cs k:=by omega
    exact h0
  rw [hb];simp [h]
def isK(cs:List Cel)(k:List UInt8):Bool:=match cs[z03 cs k]? with
 |some c=>c.1==k
 |none=>false
end
section
open Go Go.RowKit
theorem zDD(bp bk:Nat)(S:Nat→Prop)(leaf:Bool)(next:Int)(v0:Value)(cs:List Cel)(key:List UInt8)(i:Nat)(w:World)(hp:Blk w bp 36 #[.bool leaf,.int .i64 next,v0])(hk:Blk w bk 9 #[.string (st key)])(hr:Cs S w v0 cs)(hi:i<cs.length)(hl:cs.length≤1000000):
 Calls Tryz.prog 118 (#[.int .i64 (i:Int)]++ #[.pointer (some ⟨bp,0,none⟩),.pointer (some ⟨bk,0,none⟩)]) w fun e w'=>e= .returned (.bool (!Op.bytesLess cs[i].1 key))∧∃m,w'=w.drewN m:=by
 obtain⟨A,c,rfl,hlc,hcm,_,hA⟩:=hr.at;obtain⟨b,o,rfl,_,hc⟩:=hA (by omega);have c0:=(hc i hi).1;have p2:w.cell? ⟨bp,2,none⟩=some (.slice (some ⟨b,o,none⟩) cs.length c):=hp.cell 2;have k0:w.cell? ⟨bk,0,none⟩=some (.string (st key)):=hk.cell 0;generalize cs[i]=x at*;clear hA hc hp hk hr;show Calls _ _ #[.int .i64 (i:Int),.pointer (some ⟨bp,0,none⟩),.pointer (some ⟨bk,0,none⟩)] _ _;go_enter Tryz.func118,Tryz.ntmps118
 go_wp2_with fail
 go_quiet (fail)
 go_wp2_with fail
 go_ret
 exact⟨rfl,_,rfl⟩
theorem z4L(S:Nat→Prop)(leaf:Bool)(next:Int)(v0:Value)(cs:List Cel)(key:List UInt8)(w:World)(hl:cs.length≤1000000)(hr:Cs S w v0 cs)(hri:RisesP cs):
 Calls Tryz.prog 71 #[.agg #[.bool leaf,.int .i64 next,v0],.string (st key)] w fun e w'=>e= .returned (.tuple #[.int .i64 (z03 cs key:Int),.bool (isK cs key)])∧Below w.heap.size w w':=by
 have HR:=zz hr.lt;have hlt:=hr.lt;obtain⟨A,c,rfl,hlc,hcm,hA0,hA⟩:=hlt.at;have HA:=zz hA;have b1:Blk ((w.alloc (.cells #[.bool leaf,.int .i64 next,.slice A cs.length c] 36)).alloc (.cells #[.string (st key)] 9)) w.heap.size 36 #[.bool leaf,.int .i64 next,.slice A cs.length c]:=(Blk.new _ _ _).alloc _;have b2:Blk ((w.alloc (.cells #[.bool leaf,.int .i64 next,.slice A cs.length c] 36)).alloc (.cells #[.string (st key)] 9)) (w.heap.size+1) 9 #[.string (st key)]:=Blk.new1 _ _ _ _;have q0:Below w.heap.size w ((w.alloc (.cells #[.bool leaf,.int .i64 next,.slice A cs.length c] 36)).alloc (.cells #[.string (st key)] 9)):=((Below.refl _ _).alloc (Nat.le_refl _) _).alloc (by simp) _;have hmf:=z0R Tryz.prog;have hK:=z1W cs key;have HI:=zz (fun i (h:i<cs.length)=>zA6 hri key h);clear hA hr hlt hri;go_enter Tryz.func71,Tryz.ntmps71
 go_wp2_with fail
 generalize hW:((w.alloc (.cells #[.bool leaf,.int .i64 next,.slice A cs.length c] 36)).alloc (.cells #[.string (st key)] 9))=W at*;clear hW;have HRW:=zz (HR.out.up q0);refine(zCA 118 #[.pointer (some ⟨w.heap.size,0,none⟩),.pointer (some ⟨w.heap.size+1,0,none⟩)] cs.length (z03 cs key) W hl hK (fun args w=>by rfl) (fun i m hi=> ?_)).mono ?_
 ·have h:=zDD w.heap.size (w.heap.size+1) (fun b=>b<W.heap.size) leaf next _ cs key i (W.drewN m) b1 b2 HRW.out hi hl;rw [HI.out i hi]at h;refine h.mono ?_;rintro e w' ⟨rfl,m',rfl⟩;exact⟨rfl,_,World.drewN_drewN _ _ _⟩
 rintro e w1 ⟨rfl,m,rfl⟩;have d2:W.cell? ⟨w.heap.size,2,none⟩=some (.slice A cs.length c):=b1.cell 2;have d3:W.cell? ⟨w.heap.size+1,0,none⟩=some (.string (st key)):=b2.cell 0;have HIS:Hid (isK cs key=match cs[z03 cs key]? with|some c=>c.1==key|none=>false):=rfl;generalize hKe:z03 cs key=K at*;have HKE:=zz hKe;clear hKe;rcases Nat.lt_or_ge K cs.length with hlt|hge
 ·obtain⟨b,o,rfl,hbs,hc⟩:=HA.out (by omega);have c0:W.cell? ⟨b,o+K*2,none⟩=some (.string (st cs[K].1)):=(q0.cell (p:=⟨b,o+K*2,none⟩) hbs).trans (hc K hlt).1;have HE:Hid (isK cs key=(cs[K].1==key)):=by rw [Hid,HIS.out,List.getElem?_eq_getElem hlt]
  generalize cs[K].1=kk at*;clear hc b1 b2;go_wp2_with fail
  go_quiet (fail)
  go_wp2_with fail
  go_ret2
  rw [HE.out,HKE.out];exact⟨by simp,below_drewN (below_drewN q0 _) _⟩
 ·obtain rfl:K=cs.length:=by omega
  have HE:Hid (isK cs key=false):=by rw [Hid,HIS.out,List.getElem?_eq_none (Nat.le_refl _)]
  clear b1 b2;go_wp2_with fail
  go_quiet (fail)
  go_wp2_with fail
  go_ret2
  rw [HE.out,HKE.out];exact⟨by simp,below_drewN (below_drewN q0 _) _⟩
def UbS(w:World)(B b:Nat):Prop:=B≤b∧∃cs fz,w.heap[b]? =some (.cells cs 5 fz)
def Ub(w:World)(B:Nat)(v:Value)(l:List UInt8):Prop:=Bs (UbS w B) w v l
theorem Ub.of_own{w:World}{B:Nat}{v:Value}{l:List UInt8}(h:Ob 5 w B v l):Ub w B v l:=by
 have hs:=h.bs;rcases h.2 with⟨rfl,hn⟩|⟨g,cap,cur,rfl,hB,hh,_⟩
 ·obtain⟨h1,A,c,h2,h3,h4,h5,h6⟩:=hs;exact⟨h1,A,c,h2,h3,h4,h5,fun hl=>by omega⟩
 ·obtain⟨h1,A,c,h2,h3,h4,h5,h6⟩:=hs;refine⟨h1,A,c,h2,h3,h4,h5,fun hl=> ?_⟩;obtain⟨b,o,hA,_,hc⟩:=h6 hl;injection h2 with hA2
  rw [hA]at hA2;injection hA2 with hA2
  injection hA2 with hb
  subst hb;exact⟨g,o,hA,⟨hB,_,_,hh⟩,hc⟩
theorem Ub.bs{w:World}{B:Nat}{v:Value}{l:List UInt8}(h:Ub w B v l):Bs (fun _=>True) w v l:=Sl.more h fun _ _=>trivial
theorem Ub.len{w:World}{B:Nat}{A:Option Addr}{k c:Nat}{l:List UInt8}(h:Ub w B (.slice A k c) l):k=l.length:=by
 obtain⟨_,A',c',hv,_⟩:=h;injection hv
theorem Ub.keep{w w':World}{B:Nat}{v:Value}{l:List UInt8}(h:Ub w B v l)(hk:∀b,UbS w B b→w'.heap[b]? =w.heap[b]?):Ub w' B v l:=by
 obtain⟨h1,A,c,h2,h3,h4,h5,h6⟩:=h;refine⟨h1,A,c,h2,h3,h4,h5,fun hl=> ?_⟩;obtain⟨b,o,hA,hs,hc⟩:=h6 hl;have hb:=hk b hs;obtain⟨hB,cs,fz,hh⟩:=hs;refine⟨b,o,hA,⟨hB,cs,fz,hb.trans hh⟩,fun j u hu=> ?_⟩;rw [World.cell?_of_block (a:=⟨b,o+j,none⟩) hb];exact hc j u hu
theorem Ub.later{w w':World}{B:Nat}{v:Value}{l:List UInt8}(h:Ub w B v l)(hb:Below w.heap.size w w'):Ub w' B v l:=
 h.keep fun b ⟨_,cs,fz,hh⟩=>hb.block b (lt_of_block hh)
theorem Ub.lower{w:World}{B B':Nat}{v:Value}{l:List UInt8}(h:Ub w B v l)(hB:B'≤B):Ub w B' v l:=Sl.more h fun b ⟨h1,h2⟩=>⟨Nat.le_trans hB h1,h2⟩
theorem Ub.beside{w w':World}{B:Nat}{v:Value}{l:List UInt8}(h:Ub w B v l){g:Nat}{t:TypeId}{cs:Array Value}(hb:Blk w g t cs)(hne:5≠t)(hg:w.grownBy w' (some g)):Ub w' B v l:=
 h.keep fun b ⟨_,cs',fz,hh⟩=>hg.block b (lt_of_block hh) (fun e=>by
  injection e with e
  subst e;unfold Blk at hb;rw [hh]at hb;injection hb with hb
  injection hb with _ hb
  exact hne hb)
def Rd(w:World)(g B:Nat)(l:List UInt8)(err:Nat):Prop:=∃A k c,Blk w g 210 #[.slice A k c,.int .i64 (err:Int)]∧Ub w B (.slice A k c) l
theorem Rd.later{w w':World}{g B:Nat}{l:List UInt8}{err:Nat}(h:Rd w g B l err)(hb:Below w.heap.size w w'):Rd w' g B l err:=by
 obtain⟨A,k,c,h1,h2⟩:=h;exact⟨A,k,c,h1.later hb,h2.later hb⟩
theorem Rd.lt{w:World}{g B:Nat}{l:List UInt8}{err:Nat}(h:Rd w g B l err):g<w.heap.size:=by
 obtain⟨A,k,c,h1,h2⟩:=h;exact h1.lt
theorem Rd.far{w:World}{g B:Nat}{l:List UInt8}{err:Nat}(h:Rd w g B l err){g':Nat}{t:TypeId}{cs:Array Value}(hb:Blk w g' t cs)(h1:t≠210)(h2:5≠t)(i:Nat)(u:Value):Rd (w.setCell ⟨g',i,none⟩ u) g B l err:=by
 obtain⟨A,k,c,h3,h4⟩:=h;exact⟨A,k,c,h3.far (p:=⟨g',i,none⟩) (fun e=>Blk.ne h3 hb (fun h=>h1 h.symm) e) _,h4.beside hb h2 (z0o _ _ _ _)⟩
theorem z9Q(S:Nat→Prop)(v0:Value)(l:List UInt8)(w:World)(hl:l.length≤1099511627776)(hr:Bs S w v0 l):
 Calls Tryz.prog 76 #[v0] w fun e w'=>∃g,e= .returned (.pointer (some ⟨g,0,none⟩))∧w.heap.size≤g∧Rd w' g w.heap.size l 0∧Below w.heap.size w w':=by
 have HR:=zz hr;obtain⟨A,c,rfl,hlc,hcm,hA0,hA⟩:=hr.at;clear hA hr hA0;go_enter Tryz.func76,Tryz.ntmps76
 go_wp2_with (at_builtin;(refine z04 _ rfl (.tmp 3) (.tmp 4) z10 rfl (Ob.made _ _ w.heap.size (Nat.le_refl _) (by simp)) (Sl.alloc1 HR.out _) rfl rfl (by simp;omega) (by simp) ?_);intro A1 k1 c1 w1 hown1 hg1 hat1)
 have hbl1:Below w.heap.size w w1:=z01 ((Below.refl _ _).alloc (Nat.le_refl _) _) (Ob.made _ _ w.heap.size (Nat.le_refl _) (by simp)) hg1 (by simp);have hs1:=hbl1.size;go_ret
 refine⟨w1.heap.size,rfl,hs1,⟨A1,k1,c1,Blk.new _ _ _,?_⟩,hbl1.alloc hs1 _⟩;exact(Ub.of_own (by simpa using hown1)).later ((Below.refl _ _).alloc (Nat.le_refl _) _)
theorem z4P(g B:Nat)(l:List UInt8)(err e0:Nat)(w:World)(hr:Rd w g B l err)(he:e0≤1000)(he2:err≤1000):
 Calls Tryz.prog 130 #[.pointer (some ⟨g,0,none⟩),.int .i64 e0] w fun e w'=>e= .returned (.bool false)∧Rd w' g B l (if err=0 then e0 else err)∧w.grownBy w' (some g):=by
 have HR:=zz hr;obtain⟨A,k,c,hb,hown⟩:=hr;have d1:w.cell? ⟨g,1,none⟩=some (.int .i64 (err:Int)):=hb.cell 1;have f1:=hb.free 1;by_cases h0:err=0
 ·subst h0;go_enter Tryz.func130,Tryz.ntmps130
  go_wp2_with fail
  go_ret
  exact⟨rfl,⟨A,k,c,hb.put 1 _,hown.beside hb (by decide) (z0o _ _ _ _)⟩,z0o _ _ _ _⟩
 ·have t0:((err:Int)==0)=false:=by rw [beq_eq_false_iff_ne];omega
  go_enter Tryz.func130,Tryz.ntmps130
  go_wp2_with fail
  go_ret
  exact⟨rfl,HR.out,World.grownBy.refl _ _⟩
def zBr(e:Nat):Nat:=if e=10 then 30 else e
theorem z6b:∀ (l:List UInt8) (i v er:Nat),z7r i v l= .error er→er=10∨er=12
 | [],i,v,er,h=>by rw [z7r]at h;cases h;exact .inl rfl
 |b::l,i,v,er,h=>by
  rw [z7r]at h
  split at h
  ·cases h;exact .inr rfl
  ·split at h
   ·cases h
   ·exact z6b l _ _ er h
theorem z79(g B:Nat)(l:List UInt8)(err:Nat)(w:World)(hr:Rd w g B l err)(h0:err≠0):
 Calls Tryz.prog 121 #[.pointer (some ⟨g,0,none⟩)] w fun e w'=>e= .returned (.tuple #[.int .u64 0,.slice none 0 0,.bool false])∧w=w':=by
 obtain⟨A,k,c,hb,hown⟩:=hr;have d1:w.cell? ⟨g,1,none⟩=some (.int .i64 (err:Int)):=hb.cell 1;have t0:((err:Int) != 0)=true:=by rw [bne_iff_ne];omega
 clear hb hown;go_enter Tryz.func121,Tryz.ntmps121
 go_wp2_with fail
 go_ret3
 exact⟨rfl,rfl⟩
theorem z9A(g B:Nat)(l:List UInt8)(x n:Nat)(w:World)(hr:Rd w g B l 0)(hl:l.length≤1099511627776)(hg:z0q l= .ok (x,n)):
 Calls Tryz.prog 121 #[.pointer (some ⟨g,0,none⟩)] w fun e w'=>∃A k c,e= .returned (.tuple #[.int .u64 x,.slice A k c,.bool true])∧Ob 5 w' w.heap.size (.slice A k c) (l.drop n)∧Below w.heap.size w w':=by
 obtain⟨A,k,c,hb,hown⟩:=hr;have d0:w.cell? ⟨g,0,none⟩=some (.slice A k c):=hb.cell 0;have d1:w.cell? ⟨g,1,none⟩=some (.int .i64 0):=hb.cell 1;have HO:=zz hown;clear hb hown;go_enter Tryz.func121,Tryz.ntmps121
 go_wp2_with fail
 refine(z4Y _ _ l w hl HO.out.bs).mono ?_;rintro e w1 ⟨hok,_⟩;obtain⟨A1,k1,c1,rfl,hown1,hbl1⟩:=hok x n hg;clear hok;go_wp2_with fail
 go_ret3
 exact⟨A1,k1,c1,rfl,hown1,hbl1⟩
theorem z75(g B:Nat)(l:List UInt8)(er:Nat)(w:World)(hr:Rd w g B l 0)(hl:l.length≤1099511627776)(hg:z0q l= .error er):
 Calls Tryz.prog 121 #[.pointer (some ⟨g,0,none⟩)] w fun e w'=>e= .returned (.tuple #[.int .u64 0,.slice none 0 0,.bool false])∧Rd w' g B l (zBr er)∧w.grownBy w' (some g):=by
 have HR:=zz hr;obtain⟨A,k,c,hb,hown⟩:=hr;have d0:w.cell? ⟨g,0,none⟩=some (.slice A k c):=hb.cell 0;have d1:w.cell? ⟨g,1,none⟩=some (.int .i64 0):=hb.cell 1;have HO:=zz hown;have hcase:=z6b l 0 0 er hg;clear hb hown;rcases hcase with rfl|rfl
 ·go_enter Tryz.func121,Tryz.ntmps121
  go_wp2_with fail
  refine(z4Y _ _ l w hl HO.out.bs).mono ?_;rintro e w1 ⟨_,herr⟩;obtain⟨rfl,hbl1⟩:=herr _ hg;have HR1:=zz (HR.out.later hbl1);clear herr;go_wp2_with fail
  refine(z4P g B l 0 30 w1 HR1.out (by omega) (by omega)).mono ?_;rintro e w2 ⟨rfl,hr2,hg2⟩;go_wp2_with fail
  go_ret3
  exact⟨rfl,hr2,(z0T hbl1 _).trans hg2⟩
 ·go_enter Tryz.func121,Tryz.ntmps121
  go_wp2_with fail
  refine(z4Y _ _ l w hl HO.out.bs).mono ?_;rintro e w1 ⟨_,herr⟩;obtain⟨rfl,hbl1⟩:=herr _ hg;have HR1:=zz (HR.out.later hbl1);clear herr;go_wp2_with fail
  refine(z4P g B l 0 12 w1 HR1.out (by omega) (by omega)).mono ?_;rintro e w2 ⟨rfl,hr2,hg2⟩;go_wp2_with fail
  go_ret3
  exact⟨rfl,hr2,(z0T hbl1 _).trans hg2⟩
def z0U(l:List UInt8)(err:Nat)(most:Int):Nat×List UInt8×Nat:=
 if err≠0 then(0,l,err)else match z0q l with
  | .error er=>(0,l,zBr er)
  | .ok (x,n)=>if most<(x:Int)then(0,l,32)else(x,l.drop n,0)
theorem z6I{l:List UInt8}{er:Nat}(h:z0q l= .error er):zBr er≤1000∧zBr er≠0:=by
 rcases z6b l 0 0 er h with rfl|rfl<;>decide
def z64(g:Nat):Value:= .func (Fn.func 121) #[.pointer (some ⟨g,0,none⟩)] #[]
theorem z9m(g B:Nat)(l:List UInt8)(x n:Nat)(most:Int)(w:World)(hr:Rd w g B l 0)(hl:l.length≤1099511627776)(hg:z0q l= .ok (x,n))(hm:most≤9223372036854775807)(hx:(x:Int)≤most):
 Calls Tryz.prog 122 #[.pointer (some ⟨g,0,none⟩),z64 g,.int .i64 most] w fun e w'=>∃A k c,e= .returned (.tuple #[.int .i64 x,.slice A k c,.bool true])∧Ob 5 w' w.heap.size (.slice A k c) (l.drop n)∧Below w.heap.size w w':=by
 obtain⟨m,rfl⟩:∃m:Nat,most=(m:Int):=⟨most.toNat,by omega⟩;have hxm:x≤m:=by omega
 unfold z64;have HT:=zz (z9A g B l x n w hr hl hg);clear hr hg;go_enter Tryz.func122,Tryz.ntmps122
 go_wp2_with fail
 refine HT.out.mono ?_;rintro e w1 ⟨A1,k1,c1,rfl,hown1,hbl1⟩;have t0:decide (m<x)=false:=by rw [decide_eq_false_iff_not];omega
 go_wp2_with fail
 go_ret3
 exact⟨A1,k1,c1,rfl,hown1,hbl1⟩
theorem zA0(g B:Nat)(l:List UInt8)(x n:Nat)(most:Int)(w:World)(hr:Rd w g B l 0)(hl:l.length≤1099511627776)(hg:z0q l= .ok (x,n))(hm:most≤9223372036854775807)(hm2: -9223372036854775808≤most)(hx:most<(x:Int)):
 Calls Tryz.prog 122 #[.pointer (some ⟨g,0,none⟩),z64 g,.int .i64 most] w fun e w'=>e= .returned (.tuple #[.int .i64 0,.slice none 0 0,.bool false])∧Rd w' g B l 32∧w.grownBy w' (some g):=by
 unfold z64;have HT:=zz (z9A g B l x n w hr hl hg);have HR:=zz hr;have hx64:=(z2J hg).1;clear hr hg;by_cases h0:most<0
 ·go_enter Tryz.func122,Tryz.ntmps122
  go_wp2_with fail
  refine HT.out.mono ?_;rintro e w1 ⟨A1,k1,c1,rfl,hown1,hbl1⟩;have HR1:=zz (HR.out.later hbl1);go_wp2_with fail
  refine(z4P g B l 0 32 w1 HR1.out (by omega) (by omega)).mono ?_;rintro e w2 ⟨rfl,hr2,hg2⟩;go_wp2_with fail
  go_ret3
  exact⟨rfl,hr2,(z0T hbl1 _).trans hg2⟩
 ·obtain⟨m,rfl⟩:∃m:Nat,most=(m:Int):=⟨most.toNat,by omega⟩;have hxm:m<x:=by omega
  go_enter Tryz.func122,Tryz.ntmps122
  go_wp2_with fail
  refine HT.out.mono ?_;rintro e w1 ⟨A1,k1,c1,rfl,hown1,hbl1⟩;have t0:decide (m<x)=true:=by rw [decide_eq_true_eq];omega
  have HR1:=zz (HR.out.later hbl1);go_wp2_with fail
  refine(z4P g B l 0 32 w1 HR1.out (by omega) (by omega)).mono ?_;rintro e w2 ⟨rfl,hr2,hg2⟩;go_wp2_with fail
  go_ret3
  exact⟨rfl,hr2,(z0T hbl1 _).trans hg2⟩
theorem z6S(g B:Nat)(l:List UInt8)(most:Int)(w:World)(err err':Nat)
 (ht:Calls Tryz.prog 121 #[.pointer (some ⟨g,0,none⟩)] w fun e w'=>e= .returned (.tuple #[.int .u64 0,.slice none 0 0,.bool false])∧Rd w' g B l err'∧w.grownBy w' (some g)):
 Calls Tryz.prog 122 #[.pointer (some ⟨g,0,none⟩),z64 g,.int .i64 most] w fun e w'=>e= .returned (.tuple #[.int .i64 0,.slice none 0 0,.bool false])∧Rd w' g B l err'∧w.grownBy w' (some g):=by
 unfold z64;have HT:=zz ht;clear ht;go_enter Tryz.func122,Tryz.ntmps122
 go_wp2_with fail
 refine HT.out.mono ?_;rintro e w1 ⟨rfl,hr1,hg1⟩;go_wp2_with fail
 go_ret3
 exact⟨rfl,hr1,hg1⟩
theorem z7I(g B:Nat)(l:List UInt8)(err:Nat)(most:Int)(w:World)(hr:Rd w g B l err)(hB:B≤w.heap.size)(hl:l.length≤1099511627776)(hm:most≤9223372036854775807)(hm2: -9223372036854775808≤most):
 Calls Tryz.prog 79 #[.pointer (some ⟨g,0,none⟩),.int .i64 most] w fun e w'=>e= .returned (.int .i64 ((z0U l err most).1:Int))∧Rd w' g B (z0U l err most).2.1 (z0U l err most).2.2∧w.grownBy w' (some g):=by
 have hmf:=z0R Tryz.prog;have no:∀err',z0U l err most=(0,l,err')→(Calls Tryz.prog 122 #[.pointer (some ⟨g,0,none⟩),z64 g,.int .i64 most] w fun e w'=>e= .returned (.tuple #[.int .i64 0,.slice none 0 0,.bool false])∧Rd w' g B l err'∧w.grownBy w' (some g))→
  Calls Tryz.prog 79 #[.pointer (some ⟨g,0,none⟩),.int .i64 most] w fun e w'=>e= .returned (.int .i64 ((z0U l err most).1:Int))∧Rd w' g B (z0U l err most).2.1 (z0U l err most).2.2∧w.grownBy w' (some g):=by
  intro err' hrc hb;have HRC:=zz hrc;have HBL:=zz hb;clear hrc hb;go_enter Tryz.func79,Tryz.ntmps79
  go_wp2_with fail
  refine HBL.out.mono ?_;rintro e w1 ⟨rfl,hr1,hg1⟩;go_wp2_with fail
  go_ret
  rw [HRC.out];exact⟨rfl,hr1,hg1⟩
 by_cases h0:err=0
 ·subst h0;cases hgv:z0q l with
  |error er=>
   refine no (zBr er) (by unfold z0U;rw [if_neg (by simp),hgv]) ?_;exact z6S g B l most w 0 _ (z75 g B l er w hr hl hgv)
  |ok xn=>
   obtain⟨x,n⟩:=xn;by_cases hx:most<(x:Int)
   ·refine no 32 (by unfold z0U;rw [if_neg (by simp),hgv];simp only;rw [if_pos hx]) ?_;exact zA0 g B l x n most w hr hl hgv hm hm2 hx
   ·have HRC:Hid (z0U l 0 most=(x,l.drop n,0)):=by unfold z0U;rw [if_neg (by simp),hgv];simp only;rw [if_neg hx];rfl
    have HBL:=zz (z9m g B l x n most w hr hl hgv hm (by omega));have HR:=zz hr;clear no hr;go_enter Tryz.func79,Tryz.ntmps79
    go_wp2_with fail
    refine HBL.out.mono ?_;rintro e w1 ⟨A1,k1,c1,rfl,hown1,hbl1⟩;obtain⟨A,k,c,hb1,_⟩:=HR.out.later hbl1;have d0:w1.cell? ⟨g,0,none⟩=some (.slice A k c):=hb1.cell 0;have f0:=hb1.free 0;go_wp2_with fail
    go_ret
    rw [HRC.out];exact⟨rfl,⟨A1,k1,c1,hb1.put 0 _,(Ub.of_own (hown1.lower hB)).beside hb1 (by decide) (z0o _ _ _ _)⟩,(z0T hbl1 _).trans (z0o _ _ _ _)⟩
 ·refine no err (by unfold z0U;rw [if_pos h0]) ?_;refine z6S g B l most w err err ((z79 g B l err w hr h0).mono ?_);rintro e w1 ⟨rfl,rfl⟩;exact⟨rfl,hr,World.grownBy.refl _ _⟩
def z1u(l:List UInt8)(err:Nat):Nat:=if err=0∧0<l.length then 31 else err
theorem zFA(g B:Nat)(l:List UInt8)(err:Nat)(w:World)(hr:Rd w g B l err)(hl:l.length≤1099511627776):
 Calls Tryz.prog 80 #[.pointer (some ⟨g,0,none⟩)] w fun e w'=>e= .returned (.int .i64 (z1u l err:Int))∧w=w':=by
 obtain⟨A,k,c,hb,hown⟩:=hr;have d0:w.cell? ⟨g,0,none⟩=some (.slice A k c):=hb.cell 0;have d1:w.cell? ⟨g,1,none⟩=some (.int .i64 (err:Int)):=hb.cell 1;obtain rfl:=hown.len;clear hb hown;by_cases h0:err=0
 ·subst h0;by_cases hz:0<l.length
  ·have HE:Hid (z1u l 0=31):=by unfold z1u;rw [if_pos ⟨rfl,hz⟩];rfl
   go_enter Tryz.func80,Tryz.ntmps80
   go_wp2_with fail
   go_ret
   rw [HE.out];exact⟨rfl,rfl⟩
  ·have HE:Hid (z1u l 0=0):=by unfold z1u;rw [if_neg (fun h=>hz h.2)];rfl
   go_enter Tryz.func80,Tryz.ntmps80
   go_wp2_with fail
   go_ret
   rw [HE.out];exact⟨rfl,rfl⟩
 ·have HE:Hid (z1u l err=err):=by unfold z1u;rw [if_neg (fun h=>h0 h.1)];rfl
  have t0:((err:Int)==0)=false:=by rw [beq_eq_false_iff_ne];omega
  clear h0;go_enter Tryz.func80,Tryz.ntmps80
  go_wp2_with fail
  go_ret
  rw [HE.out];exact⟨rfl,rfl⟩
end
section
open Go
def zHu(e:Nat):Nat:=if e=10 then 30 else e
def z14(l:List UInt8)(err:Nat):Nat×List UInt8×Nat:=
 if err≠0 then(0,l,err)else match z0q l with
  | .error er=>(0,l,zHu er)
  | .ok (x,n)=>(x,l.drop n,0)
def z0O(l:List UInt8)(err:Nat):List UInt8×List UInt8×Nat:=
 if err≠0 then([],l,err)else match z0q l with
  | .error er=>([],l,zHu er)
  | .ok (x,n)=>if 65536<x then([],l,32)else if(l.drop n).length<x then([],l,30)else((l.drop n).take x,(l.drop n).drop x,0)
theorem zEQ{x:Nat}(hx:x<U64)(s:List UInt8):z14 (z0D x++s) 0=(x,s,0):=by
 unfold z14;rw [if_neg (by simp),z33 hx];simp
theorem z4X{t:List UInt8}(ht:t.length≤65536)(s:List UInt8):z0O (z0D t.length++(t++s)) 0=(t,s,0):=by
 unfold z0O;rw [if_neg (by simp),z33 (by unfold U64;omega)];simp only [List.drop_left];rw [if_neg (by omega),if_neg (by simp)];simp
def z8A(q:Nat)(t:List UInt8):List UInt8:=z0D q++(z0D t.length++t)
def z7t(q:Nat)(t:List UInt8):List UInt8:=z8A q t++beB (z4C (z8A q t)).toNat 4
def z1N(q:Nat)(t:List UInt8):List UInt8:=beB (z7t q t).length 4++z7t q t
def z0i(l:List UInt8):Option ((Nat×List UInt8)×Nat):=
 if l.length<4∨(l.drop 4).length<deB (l.take 4)then none
 else match z1i ((l.drop 4).take (deB (l.take 4)))with
  | .error _=>none
  | .ok f=>
    if(z0O (z14 f 0).2.1 (z14 f 0).2.2).2.2=0∧(z0O (z14 f 0).2.1 (z14 f 0).2.2).2.1= []∧(z0O (z14 f 0).2.1 (z14 f 0).2.2).1.length≤32768
    then some (((z14 f 0).1,(z0O (z14 f 0).2.1 (z14 f 0).2.2).1),4+deB (l.take 4))else none
theorem zCu{q:Nat}{t:List UInt8}(hq:q<U64)(ht:t.length≤32768):(z8A q t).length≤32800:=by
 unfold z8A;have h1:=z2j 9 q (Nat.lt_of_lt_of_le hq (by unfold U64;decide));have h2:=z2j 9 t.length (Nat.lt_of_le_of_lt ht (by decide));rw [List.length_append,List.length_append];omega
theorem z3v(q:Nat)(t:List UInt8):(z7t q t).length=(z8A q t).length+4:=by
 unfold z7t;rw [List.length_append,z1Z]
theorem z3r(q:Nat)(t:List UInt8):(z1N q t).length=4+((z8A q t).length+4):=by
 unfold z1N;rw [List.length_append,z1Z,z3v]
theorem zAw{q:Nat}{t:List UInt8}(hq:q<U64)(ht:t.length≤32768)(s:List UInt8):(z1N q t++s).take 4=beB (z7t q t).length 4∧(z1N q t++s).drop 4=z7t q t++s∧deB (beB (z7t q t).length 4)=(z7t q t).length:=by
 have h4:(beB (z7t q t).length 4).length=4:=z1Z _ _;refine⟨?_,?_,?_⟩
 ·unfold z1N;rw [List.append_assoc,List.take_append_of_le_length (by omega),List.take_of_length_le (by omega)]
 ·unfold z1N;rw [List.append_assoc,List.drop_append_of_le_length (by omega),List.drop_eq_nil_of_le (by omega),List.nil_append]
 ·apply zBZ;have:=zCu hq ht;rw [z3v];exact Nat.lt_of_le_of_lt (by omega:_≤32804) (by decide)
theorem zD7(q:Nat)(t:List UInt8):z1i (z7t q t)= .ok (z8A q t):=by
 have h4:(beB (z4C (z8A q t)).toNat 4).length=4:=z1Z _ _;have e:(z7t q t).take ((z7t q t).length-4)=z8A q t:=by
  rw [z3v,Nat.add_sub_cancel];unfold z7t;rw [List.take_left]
 unfold z1i;rw [if_neg (by rw [z3v];omega),e];exact if_pos rfl
theorem z8W{q:Nat}{t:List UInt8}(hq:q<U64)(ht:t.length≤32768)(s:List UInt8):z0i (z1N q t++s)=some ((q,t),(z1N q t).length):=by
 obtain⟨h1,h2,h3⟩:=zAw hq ht s;have hl:=z3r q t;have e1:z14 (z8A q t) 0=(q,z0D t.length++(t++ []),0):=by unfold z8A;rw [List.append_nil];exact zEQ hq _
 have e2:=z4X (t:=t) (by omega) [];unfold z0i;rw [h1,h2,h3,if_neg (by rw [List.length_append,List.length_append,hl];omega),List.take_append_of_le_length (Nat.le_refl _),List.take_of_length_le (Nat.le_refl _),zD7];simp only [e1,e2];rw [if_pos ⟨trivial,trivial,ht⟩,hl,z3v]
theorem z8F{q:Nat}{t:List UInt8}(hq:q<U64)(ht:t.length≤32768){k:Nat}(hk:k<(z1N q t).length):z0i ((z1N q t).take k)=none:=by
 obtain⟨h1,h2,h3⟩:=zAw hq ht [];rw [List.append_nil]at h1 h2;have hl:=z3r q t;unfold z0i;by_cases h4:k<4
 ·rw [if_pos (.inl (by rw [List.length_take];omega))]
 ·refine if_pos (.inr ?_);rw [List.take_take,Nat.min_eq_left (by omega),h1,h3,List.length_drop,List.length_take,z3v];omega
end
section
open Go Go.RowKit
theorem zHm(g B:Nat)(l:List UInt8)(err:Nat)(w:World)(hr:Rd w g B l err)(hB:B≤w.heap.size)(hl:l.length≤1099511627776):
 Calls Tryz.prog 77 #[.pointer (some ⟨g,0,none⟩)] w fun e w'=>e= .returned (.int .u64 ((z14 l err).1:Int))∧Rd w' g B (z14 l err).2.1 (z14 l err).2.2∧w.grownBy w' (some g):=by
 have no:∀err',z14 l err=(0,l,err')→(Calls Tryz.prog 121 #[.pointer (some ⟨g,0,none⟩)] w fun e w'=>e= .returned (.tuple #[.int .u64 0,.slice none 0 0,.bool false])∧Rd w' g B l err'∧w.grownBy w' (some g))→
  Calls Tryz.prog 77 #[.pointer (some ⟨g,0,none⟩)] w fun e w'=>e= .returned (.int .u64 ((z14 l err).1:Int))∧Rd w' g B (z14 l err).2.1 (z14 l err).2.2∧w.grownBy w' (some g):=by
  intro err' hrc hb;have HRC:=zz hrc;have HBL:=zz hb;clear hrc hb;go_enter Tryz.func77,Tryz.ntmps77
  go_wp2_with fail
  refine HBL.out.mono ?_;rintro e w1 ⟨rfl,hr1,hg1⟩;go_wp2_with fail
  go_ret
  rw [HRC.out];exact⟨rfl,hr1,hg1⟩
 by_cases h0:err=0
 ·subst h0;cases hgv:z0q l with
  |error er=>
   exact no (zBr er) (by unfold z14;rw [if_neg (by simp),hgv];rfl) (z75 g B l er w hr hl hgv)
  |ok xn=>
   obtain⟨x,n⟩:=xn;have HRC:Hid (z14 l 0=(x,l.drop n,0)):=by unfold z14;rw [if_neg (by simp),hgv];rfl
   have HBL:=zz (z9A g B l x n w hr hl hgv);have HR:=zz hr;clear no hr;go_enter Tryz.func77,Tryz.ntmps77
   go_wp2_with fail
   refine HBL.out.mono ?_;rintro e w1 ⟨A1,k1,c1,rfl,hown1,hbl1⟩;obtain⟨A,k,c,hb1,_⟩:=HR.out.later hbl1;have d0:w1.cell? ⟨g,0,none⟩=some (.slice A k c):=hb1.cell 0;have f0:=hb1.free 0;go_wp2_with fail
   go_ret
   rw [HRC.out];exact⟨rfl,⟨A1,k1,c1,hb1.put 0 _,(Ub.of_own (hown1.lower hB)).beside hb1 (by decide) (z0o _ _ _ _)⟩,(z0T hbl1 _).trans (z0o _ _ _ _)⟩
 ·refine no err (by unfold z14;rw [if_pos h0]) ((z79 g B l err w hr h0).mono ?_);rintro e w1 ⟨rfl,rfl⟩;exact⟨rfl,hr,World.grownBy.refl _ _⟩
theorem z9G(g B:Nat)(l:List UInt8)(w:World)(err':Nat)
 (hb:Calls Tryz.prog 122 #[.pointer (some ⟨g,0,none⟩),z64 g,.int .i64 65536] w fun e w'=>e= .returned (.tuple #[.int .i64 0,.slice none 0 0,.bool false])∧Rd w' g B l err'∧w.grownBy w' (some g)):
 Calls Tryz.prog 91 #[.pointer (some ⟨g,0,none⟩)] w fun e w'=>e= .returned (.string (st []))∧Rd w' g B l err'∧w.grownBy w' (some g):=by
 have hmf:=z0R Tryz.prog;have HBL:=zz hb;clear hb;go_enter Tryz.func91,Tryz.ntmps91
 go_wp2_with fail
 refine HBL.out.mono ?_;rintro e w1 ⟨rfl,hr1,hg1⟩;go_wp2_with fail
 go_ret
 exact⟨rfl,hr1,hg1⟩
theorem zBq(g B:Nat)(l:List UInt8)(x n:Nat)(w:World)(hr:Rd w g B l 0)(hl:l.length≤1099511627776)(hg:z0q l= .ok (x,n))(hx:x≤65536)(hs:(l.drop n).length<x):
 Calls Tryz.prog 91 #[.pointer (some ⟨g,0,none⟩)] w fun e w'=>e= .returned (.string (st []))∧Rd w' g B l 30∧w.grownBy w' (some g):=by
 have hmf:=z0R Tryz.prog;have HBL:=zz (z9m g B l x n 65536 w hr hl hg (by omega) (by omega));have HR:=zz hr;clear hr;generalize l.drop n=m at*;go_enter Tryz.func91,Tryz.ntmps91
 go_wp2_with fail
 refine HBL.out.mono ?_;rintro e w1 ⟨A1,k1,c1,rfl,hown1,hbl1⟩;obtain rfl:=hown1.len;have HR1:=zz (HR.out.later hbl1);have t0:decide (m.length<x)=true:=by rw [decide_eq_true_eq];exact hs
 go_wp2_with fail
 refine(z4P g B l 0 30 w1 HR1.out (by omega) (by omega)).mono ?_;rintro e w2 ⟨rfl,hr2,hg2⟩;go_wp2_with fail
 go_ret
 exact⟨rfl,hr2,(z0T hbl1 _).trans hg2⟩
theorem zHP(g B:Nat)(l:List UInt8)(x n:Nat)(w:World)(hr:Rd w g B l 0)(hB:B≤w.heap.size)(hl:l.length≤1099511627776)(hg:z0q l= .ok (x,n))(hx:x≤65536)(hs:¬ (l.drop n).length<x):
 Calls Tryz.prog 91 #[.pointer (some ⟨g,0,none⟩)] w fun e w'=>e= .returned (.string (st ((l.drop n).take x)))∧Rd w' g B ((l.drop n).drop x) 0∧w.grownBy w' (some g):=by
 have hmf:=z0R Tryz.prog;have HBL:=zz (z9m g B l x n 65536 w hr hl hg (by omega) (by omega));have HR:=zz hr;have hll:(l.drop n).length≤1099511627776:=by rw [List.length_drop];omega
 clear hr;generalize l.drop n=m at*;go_enter Tryz.func91,Tryz.ntmps91
 go_wp2_with fail
 refine HBL.out.mono ?_;rintro e w1 ⟨A1,k1,c1,rfl,hown1,hbl1⟩;obtain rfl:=hown1.len;obtain⟨A,k,c,hb1,_⟩:=HR.out.later hbl1;have d0:w1.cell? ⟨g,0,none⟩=some (.slice A k c):=hb1.cell 0;have f0:=hb1.free 0;have HB1:=zz hb1;have t0:decide (m.length<x)=false:=by rw [decide_eq_false_iff_not];exact hs
 have hxm:x≤m.length:=by omega
 clear hs hb1;rcases hown1.2 with⟨hv,hn⟩|⟨g1,cap,cur,hv,_,_,hnc,hcm,_⟩
 ·injection hv with hA _ hc
  subst hA hc;obtain rfl:m= []:=List.eq_nil_of_length_eq_zero hn;obtain rfl:x=0:=by simpa using hxm
  have cv:=z2E (P:=Tryz.prog) (Bs.nilv (fun _=>True) (w1.setCell ⟨g,0,none⟩ (.slice none 0 0))) tB tU tS;clear hown1;go_wp2_with fail
  go_ret
  exact⟨rfl,⟨none,0,0,HB1.out.put 0 _,Bs.nilv _ _⟩,(z0T hbl1 _).trans (z0o _ _ _ _)⟩
 ·injection hv with hA _ hc
  subst hA hc;have hu:=(Ub.of_own (hown1.lower hB)).beside HB1.out (by decide) (z0o w1 g 0 (.slice (if c1=x then some ⟨g1,0,none⟩else some ⟨g1,0+x,none⟩) (m.length-x) (c1-x)));have cv:=z2E (P:=Tryz.prog) (Bs.pre hu.bs hxm) tB tU tS;have hcut:Hid (Ub (w1.setCell ⟨g,0,none⟩ (.slice (if c1=x then some ⟨g1,0,none⟩else some ⟨g1,0+x,none⟩) (m.length-x) (c1-x))) B _ _):=Bs.cut hu hxm;clear hown1 hu;by_cases hcx:c1=x
  ·rw [if_pos hcx]at cv hcut;subst hcx;rw [Nat.sub_self,show m.length-c1=0 by omega]at cv hcut;go_wp2_with fail
   go_ret
   exact⟨rfl,⟨_,_,_,HB1.out.put 0 _,hcut⟩,(z0T hbl1 _).trans (z0o _ _ _ _)⟩
  ·rw [if_neg hcx,Nat.zero_add]at cv hcut;go_wp2_with fail
   go_ret
   exact⟨rfl,⟨_,_,_,HB1.out.put 0 _,hcut⟩,(z0T hbl1 _).trans (z0o _ _ _ _)⟩
theorem z48(g B:Nat)(l:List UInt8)(err:Nat)(w:World)(hr:Rd w g B l err)(hB:B≤w.heap.size)(hl:l.length≤1099511627776):
 Calls Tryz.prog 91 #[.pointer (some ⟨g,0,none⟩)] w fun e w'=>e= .returned (.string (st (z0O l err).1))∧Rd w' g B (z0O l err).2.1 (z0O l err).2.2∧w.grownBy w' (some g):=by
 by_cases h0:err=0
 ·subst h0;cases hgv:z0q l with
  |error er=>
   have e:z0O l 0=([],l,zBr er):=by unfold z0O;rw [if_neg (by simp),hgv];rfl
   rw [e];exact z9G g B l w _ (z6S g B l 65536 w 0 _ (z75 g B l er w hr hl hgv))
  |ok xn=>
   obtain⟨x,n⟩:=xn;by_cases hx:65536<x
   ·have e:z0O l 0=([],l,32):=by unfold z0O;rw [if_neg (by simp),hgv];simp only;rw [if_pos hx]
    rw [e];exact z9G g B l w _ (zA0 g B l x n 65536 w hr hl hgv (by omega) (by omega) (by omega))
   ·by_cases hs:(l.drop n).length<x
    ·have e:z0O l 0=([],l,30):=by unfold z0O;rw [if_neg (by simp),hgv];simp only;rw [if_neg hx,if_pos hs]
     rw [e];exact zBq g B l x n w hr hl hgv (by omega) hs
    ·have e:z0O l 0=((l.drop n).take x,(l.drop n).drop x,0):=by unfold z0O;rw [if_neg (by simp),hgv];simp only;rw [if_neg hx,if_neg hs]
     rw [e];exact zHP g B l x n w hr hB hl hgv (by omega) hs
 ·have e:z0O l err=([],l,err):=by unfold z0O;rw [if_pos h0]
  rw [e];refine z9G g B l w _ (z6S g B l 65536 w err err ((z79 g B l err w hr h0).mono ?_));rintro e w1 ⟨rfl,rfl⟩;exact⟨rfl,hr,World.grownBy.refl _ _⟩
def z1g(l:List UInt8)(err:Nat):Bool×List UInt8×Nat:=
 if err≠0 then(false,l,err)else match l with
  | []=>(false,[],30)
  |b::r=>if 1<b.toNat then(false,b::r,33)else(b.toNat==1,r,0)
theorem zCH(g B gb:Nat)(l:List UInt8)(e0:Nat)(w:World)(hr:Rd w g B l 0)(he:e0≤1000)(hb:Blk w gb 154 #[.pointer (some ⟨g,0,none⟩)]):
 Calls Tryz.prog 131 #[.int .i64 e0,.pointer (some ⟨gb,0,none⟩)] w fun e w'=>e= .returned (.bool false)∧Rd w' g B l e0∧w.grownBy w' (some g):=by
 have c0:w.cell? ⟨gb,0,none⟩=some (.pointer (some ⟨g,0,none⟩)):=hb.cell 0;have HC:=zz (z4P g B l 0 e0 w hr he (by omega));clear hb hr;go_enter Tryz.func131,Tryz.ntmps131
 go_wp2_with fail
 refine HC.out.mono ?_;rintro e w1 ⟨rfl,hr1,hg1⟩;go_wp2_with fail
 go_ret
 exact⟨rfl,hr1,hg1⟩
theorem zBo(n:Nat):(((n:Int))==1)=(n==1):=by
 rw [Bool.eq_iff_iff,beq_iff_eq,beq_iff_eq];omega
theorem z8J{w w':World}{row:Option Nat}(h:w.grownBy w' row):w.grownBy w'.drew row:=⟨h.os,h.tape,h.output,h.size,h.block⟩
theorem z9u(g B:Nat)(l:List UInt8)(err:Nat)(w:World)(hr:Rd w g B l err)(hB:B≤w.heap.size)(hl:l.length≤1099511627776):
 Calls Tryz.prog 92 #[.pointer (some ⟨g,0,none⟩)] w fun e w'=>e= .returned (.bool (z1g l err).1)∧Rd w' g B (z1g l err).2.1 (z1g l err).2.2∧w.grownBy w' (some g):=by
 have hmf:=z0R Tryz.prog;have hnb:=Blk.new w 154 #[.pointer (some ⟨g,0,none⟩)];have hgl:=hr.lt;have hrl:=hr.later ((Below.refl _ _).alloc (Nat.le_refl _) (.cells #[.pointer (some ⟨g,0,none⟩)] 154));have hgr:w.grownBy (w.alloc (.cells #[.pointer (some ⟨g,0,none⟩)] 154)) (some g):=z0T ((Below.refl _ _).alloc (Nat.le_refl _) _) _;have p0:(w.alloc (.cells #[.pointer (some ⟨g,0,none⟩)] 154)).cell? ⟨w.heap.size,0,none⟩=some (.pointer (some ⟨g,0,none⟩)):=hnb.cell 0;obtain⟨A,k,c,hb,hub⟩:=id hrl;have d0:(w.alloc (.cells #[.pointer (some ⟨g,0,none⟩)] 154)).cell? ⟨g,0,none⟩=some (.slice A k c):=hb.cell 0;have d1:(w.alloc (.cells #[.pointer (some ⟨g,0,none⟩)] 154)).cell? ⟨g,1,none⟩=some (.int .i64 (err:Int)):=hb.cell 1;have f0:=hb.free 0;have f1:=hb.free 1;obtain rfl:=hub.len;have HU:=zz hub;have HBK:=zz hb;have HRL:=zz hrl;clear hr hub hb hrl;by_cases h0:err=0
 ·subst h0;rcases l with _|⟨x,l⟩
  ·have HV:Hid (z1g [] 0=(false,[],30)):=by unfold z1g;rw [Hid,if_neg (by simp)]
   have HC:=zz (zCH g B w.heap.size [] 30 _ HRL.out (by omega) hnb);go_enter Tryz.func92,Tryz.ntmps92
   go_wp2_with fail
   refine HC.out.mono ?_;rintro e w1 ⟨rfl,hr1,hg1⟩;go_wp2_with fail
   go_ret
   rw [HV.out];exact⟨rfl,hr1,hgr.trans hg1⟩
  ·obtain⟨A',c',hv,hlc,hcm,_,hcell⟩:=Bs.at HU.out;injection hv with hA _ hc
   subst hA hc;obtain⟨b,o,rfl,hS,hcc⟩:=hcell (by simp);have cx:(w.alloc (.cells #[.pointer (some ⟨g,0,none⟩)] 154)).cell? ⟨b,o,none⟩=some (.int .u8 (x.toNat:Int)):=by
    have:=hcc 0 (by simp);simpa using this
   have hlen:(x::l).length=l.length+1:=rfl;have hxb:=x.toNat_lt;have HCUT:Hid (Ub (w.alloc (.cells #[.pointer (some ⟨g,0,none⟩)] 154)) B _ _):=Bs.cut HU.out (show 1≤(x::l).length by simp);rw [hlen]at d0 hlc;have HLEN:=zz hlen;clear hcell hcc hlen;by_cases hx:1<x.toNat
   ·have HV:Hid (z1g (x::l) 0=(false,x::l,33)):=by unfold z1g;rw [Hid,if_neg (by simp)];simp only;rw [if_pos hx]
    have HC:=zz (zCH g B w.heap.size (x::l) 33 _ HRL.out (by omega) hnb);go_enter Tryz.func92,Tryz.ntmps92
    go_wp2_with fail
    refine HC.out.mono ?_;rintro e w1 ⟨rfl,hr1,hg1⟩;go_wp2_with fail
    go_ret
    rw [HV.out];exact⟨rfl,hr1,hgr.trans hg1⟩
   ·have HV:Hid (z1g (x::l) 0=(x.toNat==1,l,0)):=by unfold z1g;rw [Hid,if_neg (by simp)];simp only;rw [if_neg hx]
    rw [HLEN.out,Nat.add_sub_cancel,List.drop_succ_cons,List.drop_zero]at HCUT;by_cases hc1:c=1
    case' pos=>
     rw [if_pos hc1]at HCUT;subst hc1;have hl0:l.length=0:=by omega
     rw [hl0]at HCUT
    case' neg=>
     rw [if_neg hc1]at HCUT
    all_goals
     go_enter Tryz.func92,Tryz.ntmps92
     go_wp2_with fail
     generalize w.alloc (.cells #[.pointer (some ⟨g,0,none⟩)] 154)=W at*;go_region
     all_goals
      go_wp2_with fail
      go_ret
      rw [HV.out];exact⟨by simp only [zBo];rfl,⟨_,_,_,Blk.drew (HBK.out.put 0 _),(Ub.beside HCUT HBK.out (by decide) (z8J (z0o _ _ _ _)))⟩,hgr.trans (z8J (z0o _ _ _ _))⟩
 ·have HV:Hid (z1g l err=(false,l,err)):=by unfold z1g;rw [Hid,if_pos h0]
  have t0:((err:Int) != 0)=true:=by rw [bne_iff_ne];omega
  clear h0;go_enter Tryz.func92,Tryz.ntmps92
  go_wp2_with fail
  go_ret
  rw [HV.out];exact⟨rfl,HRL.out,hgr⟩
def z2D:Nat→List UInt8×Nat→List Cel→List Cel×(List UInt8×Nat)
 |0,s,acc=>(acc,s)
 |n+1,s,acc=>z2D n (z0O (z0O s.1 s.2).2.1 (z0O s.1 s.2).2.2).2 (acc++ [((z0O s.1 s.2).1,(z0O (z0O s.1 s.2).2.1 (z0O s.1 s.2).2.2).1)])
def zJO(f:List UInt8):Option (Bool×Nat×List Cel):=
 match z1g f 0 with
 |(b,s1,e1)=>match z0U s1 e1 256 with
  |(n,s2,e2)=>match z0U s2 e2 2048 with
   |(c,s3,e3)=>match z2D c (s3,e3) []with
    |(cs,s4,e4)=>if z1u s4 e4=0∧z1M (n:Int) cs=0 then some (b,n,cs)else none
def z3J(l:List UInt8):Option (Bool×Nat×List Cel):=match z1i l with
 | .error _=>none
 | .ok f=>zJO f
theorem zDm{l:List UInt8}{er:Nat}(h:z1i l= .error er):er=20∨er=21:=by
 unfold z1i at h
 split at h
 ·cases h;exact .inl rfl
 ·split at h
  ·cases h
  ·cases h;exact .inr rfl
theorem zDv{l f:List UInt8}(h:z1i l= .ok f){m:Nat}(hm:l.length≤m):f.length≤m:=by
 unfold z1i at h
 split at h
 ·cases h
 ·split at h
  ·cases h;rw [List.length_take];omega
  ·cases h
theorem z8q{w w':World}{B:Nat}{e:TypeId}{size n:Nat}{v:Value}{xs:List Value}(h:w.ownsRow B e size v n xs){g:Nat}{t:TypeId}{cs:Array Value}(hb:Blk w g t cs)(hne:e≠t)(hg:w.grownBy w' (some g)):w'.ownsRow B e size v n xs:=by
 have hn:=z8c h hb hne;obtain⟨h1,h2⟩:=h;refine⟨h1,?_⟩;rcases h2 with h2|⟨g',cap,cur,hv,hB,hh,r⟩
 ·exact .inl h2
 ·refine .inr ⟨g',cap,cur,hv,hB,?_,r⟩;exact(hg.block g' (lt_of_block hh) (fun e=>hn (by rw [hv];simp [Value.ownBlock];injection e))).trans hh
theorem Rd.blk{w:World}{g B:Nat}{l:List UInt8}{err:Nat}(h:Rd w g B l err):∃cs,Blk w g 210 cs:=by
 obtain⟨A,k,c,h1,_⟩:=h;exact⟨_,h1⟩
theorem Co.beside{w w':World}{B:Nat}{v:Value}{cs:List Cel}(h:Co w B v cs){g B':Nat}{l:List UInt8}{err:Nat}(hr:Rd w g B' l err)(hg:w.grownBy w' (some g)):Co w' B v cs:=by
 obtain⟨_,hb⟩:=hr.blk;exact z8q h hb (by decide) hg
theorem z5Z(l:List UInt8)(err m:Nat)(he:err≤1000):(z0U l err (m:Int)).1≤m∧(z0U l err (m:Int)).2.1.length≤l.length∧(z0U l err (m:Int)).2.2≤1000:=by
 unfold z0U
 split
 ·exact⟨Nat.zero_le _,Nat.le_refl _,he⟩
 ·split
  ·rename_i er hg;exact⟨Nat.zero_le _,Nat.le_refl _,(z6I hg).1⟩
  ·rename_i x n hg
   split
   ·exact⟨Nat.zero_le _,Nat.le_refl _,(show 32≤1000 by decide)⟩
   ·rename_i hx;exact⟨by simp only;omega,by simp only [List.length_drop];omega,Nat.zero_le _⟩
theorem zA3(l:List UInt8)(err:Nat)(he:err≤1000):(z1g l err).2.1.length≤l.length∧(z1g l err).2.2≤1000:=by
 unfold z1g
 split
 ·exact⟨Nat.le_refl _,he⟩
 ·rcases l with _|⟨b,l⟩
  ·exact⟨Nat.le_refl _,(show 30≤1000 by decide)⟩
  ·simp only
   split
   ·exact⟨Nat.le_refl _,(show 33≤1000 by decide)⟩
   ·exact⟨by simp,Nat.zero_le _⟩
theorem z5L(l:List UInt8){e:Nat}(he:e≤1000):(z0O l e).1.length≤65536∧(z0O l e).2.1.length≤l.length∧(z0O l e).2.2≤1000:=by
 unfold z0O
 split
 ·exact⟨by simp,Nat.le_refl _,he⟩
 ·split
  ·rename_i er hg;exact⟨by simp,Nat.le_refl _,(z6I hg).1⟩
  ·rename_i x n hg
   split
   ·exact⟨by simp,Nat.le_refl _,(show 32≤1000 by decide)⟩
   ·split
    ·exact⟨by simp,Nat.le_refl _,(show 30≤1000 by decide)⟩
    ·exact⟨by simp only [List.length_take];omega,by simp only [List.length_drop];omega,Nat.zero_le _⟩
theorem Sl.newcel{S:Nat→Prop}(w:World)(c:Cel){g:Nat}(hg:g=w.heap.size)(hS:S g):
 Sl S (w.alloc (.cells #[.string (st c.1),.string (st c.2)] 81)) 2 (.slice (some ⟨g,0,none⟩) 1 1) 1 (ccs [c]):=by
 subst hg;refine⟨by simp [ccs],_,1,rfl,by simp,by simp [maxLen],(fun h=>by cases h),fun _=>⟨_,0,rfl,hS,fun j v hu=> ?_⟩⟩;rw [World.cell?_alloc_new,Nat.zero_add];simpa [ccs]using hu
theorem z87{P:Program}{w:World}{ops:Array Oper}{o:Oper}{a:Act}{K:Act→World→Prop}{Q:Exit→Act→World→Prop}{F:Prop}(w0:World)(hd:zHg w0 w)(hgd:o.guard=none)(s x:Operand){t e:TypeId}{z:Value}{size bytes:Nat}
 (E:Elem P t e z size bytes) (ho:o.op= .call {callee:= .builtin .append,args:= #[s,x],argTypes:= #[t,t]})
 {base:Nat} {v:Value} {n:Nat} {xs:List Value} (hown:w0.ownsRow base e size v n xs)
 {S:Nat→Prop} {u:Value} {m:Nat} {news:List Value} (hr:Sl S w0 size u m news) (hs:a.eval s=v) (hx:a.eval x=u) (h1:∀y∈news,y.oneCell'=true)
 (hlen:n+m≤maxLen) (hbytes:(n+m)*bytes≤140737488355328) (hbase:base≤w0.heap.size)
 (h:∀A k c w',w'.ownsRow base e size (.slice A k c) (n+m) (xs++news)→w0.grownBy w' v.ownBlock→K (a.put o.dst (.slice A k c)) w'):
 if Region.wanted o (yielded ops a.tmps)=true then Oper.wp P o a w K Q else F:=by
 have hw:Region.wanted o (yielded ops a.tmps)=true:=by simp [Region.wanted,hgd]
 rw [if_pos hw];obtain⟨d,rfl⟩:=hd;obtain⟨v',w',hrun,h2,h3,h4⟩:=z1k (P:=P) (w0.drewN d) E o.type hown (Sl.drewN hr d) h1 hlen hbytes hbase;obtain⟨A,k,c,rfl⟩:=z0u h2;unfold Oper.wp execOp;simp only [ho,resolve,invoke,builtin,Sem.run_bind,Sem.run_pure,Result.andThen_ok,List.map_toArray,List.map_cons,List.map_nil,hs,hx,hrun];exact h A k c w' h2 ⟨h3.os,h3.tape,h3.output,h3.size,h3.block⟩
theorem zAv{c i:Nat}(h:i<c)(s:List UInt8×Nat)(acc:List Cel):z2D (c-i) s acc=z2D (c-(i+1)) (z0O (z0O s.1 s.2).2.1 (z0O s.1 s.2).2.2).2 (acc++ [((z0O s.1 s.2).1,(z0O (z0O s.1 s.2).2.1 (z0O s.1 s.2).2.2).1)]):=by
 rw [show c-i=c-(i+1)+1 by omega,z2D]
theorem Rd.keptCo{w w':World}{g B B':Nat}{l:List UInt8}{err:Nat}(h:Rd w g B l err){size n:Nat}{v:Value}{xs:List Value}(ho:w.ownsRow B' 81 size v n xs)(hg:w.grownBy w' v.ownBlock):Rd w' g B l err:=by
 obtain⟨A,k,c,h1,h2⟩:=h;refine⟨A,k,c,h1.kept ho hg (by decide),h2.keep fun b hb=> ?_⟩;obtain⟨_,cs,fz,hh⟩:=hb;refine hg.block b (lt_of_block hh) fun e=> ?_
 rcases ho.2 with⟨rfl,_⟩|⟨g',cap,cur,rfl,_,hh',_⟩
 ·cases e
 ·simp only [Value.ownBlock,Option.some.injEq]at e;subst e;rw [hh]at hh';injection hh' with hh'
  injection hh' with _ he
  exact absurd he (by decide)
structure OfSt(w wr:World)(gp g B:Nat)(b:Bool)(n:Nat)(sl:Value)(cs:List Cel)(l:List UInt8)(er:Nat):Prop where
 page:Blk wr gp 36 #[.bool b,.int .i64 (n:Int),sl]
 own:Co wr w.heap.size sl cs
 rd:Rd wr g B l er
 below:Below w.heap.size w wr
 room:B≤wr.heap.size
 few:cs.length≤2048∧∀c∈cs,c.1.length≤65536∧c.2.length≤65536
 lens:l.length≤1099511627776∧er≤1000
theorem zHQ(S:Nat→Prop)(v0:Value)(l:List UInt8)(w:World)(hl:l.length≤1099511627776)(hr:Bs S w v0 l):
 Calls Tryz.prog 47 #[v0] w fun e w'=>(∀b n cs,z3J l=some (b,n,cs)→∃v,e= .returned (.tuple #[v,.int .i64 0])∧PgIs w.heap.size w' v b (n:Int) cs)∧
  (z3J l=none→e= .returned (.tuple #[.agg #[.bool false,.int .i64 0,.slice none 0 0],.int .i64 101]))∧Below w.heap.size w w':=by
 have HR:Hid (Bs (fun b=>b<w.heap.size) w v0 l):=(Sl.lt hr (by omega)).more (fun _ h=>h.2);have hb0:=Blk.new w 36 #[.bool false,.int .i64 0,.slice none 0 0];have q0:Below w.heap.size w (w.alloc (.cells #[.bool false,.int .i64 0,.slice none 0 0] 36)):=(Below.refl _ _).alloc (Nat.le_refl _) _;have hr0:=zz (Sl.alloc HR.out (fun _ h=>h) (.cells #[.bool false,.int .i64 0,.slice none 0 0] 36));have HO0:Hid (z3J l=match z1i l with| .error _=>none| .ok f=>zJO f):=rfl;clear hr;go_enter Tryz.func47,Tryz.ntmps47
 go_wp2_with fail
 generalize hW:w.alloc (.cells #[.bool false,.int .i64 0,.slice none 0 0] 36)=W at*;clear hW;refine(z9W (fun b=>b<w.heap.size) v0 l W hl hr0.out).mono ?_;rintro e w1 ⟨hok,her,hbl1⟩;have HB0:=zz hb0;have hWs:=hb0.lt;have hb1:=hb0.later hbl1;have q1:=q0.trans (hbl1.mono q0.size);cases ho:z1i l with
 |error er=>
  obtain rfl:=her _ ho;have HN:Hid (z3J l=none):=by rw [Hid,HO0.out,ho]
  have t1:((er:Int) != 0)=true:=by
   rw [bne_iff_ne];have:er=20∨er=21:=zDm ho;rcases this with rfl|rfl<;>decide
  have d0:w1.cell? ⟨w.heap.size,0,none⟩=some (.bool false):=hb1.cell 0;have d1:w1.cell? ⟨w.heap.size,1,none⟩=some (.int .i64 0):=hb1.cell 1;have d2:w1.cell? ⟨w.heap.size,2,none⟩=some (.slice none 0 0):=hb1.cell 2;have f0:=hb1.free 0;have f1:=hb1.free 1;have f2:=hb1.free 2;clear ho hok her HO0;go_wp2_with fail
  exact bodyPost_ret (z0L rfl _ _ w.heap.size rfl (hb1.put3 _ _ _) z1I) rfl ⟨fun b n cs h=>(by rw [HN.out]at h;cases h),fun _=>rfl,z0Y q1 (Nat.le_refl _) _ _ _⟩
 |ok f=>
  obtain⟨A1,k1,c1,rfl,hown1⟩:=hok _ ho;have hfl:f.length≤1099511627776:=zDv ho hl;have HO1:Hid (z3J l=zJO f):=by rw [Hid,HO0.out,ho]
  have HF:=zz hown1;have hmf:=z0R Tryz.prog;clear ho hok her HO0 hown1;go_wp2_with fail
  refine(z9Q _ _ f w1 hfl HF.out.bs).mono ?_;rintro e w2 ⟨g,rfl,hg2,hr2,hbl2⟩;have q2:Below W.heap.size W w2:=hbl1.trans (hbl2.mono hbl1.size);have HR2:=zz hr2;have hB1:=hbl1.size;have hB2:=hbl2.size;clear hr2 hbl2;go_wp2_with fail
  refine(z9u g w1.heap.size f 0 w2 HR2.out hB2 hfl).mono ?_;rintro e w3 ⟨rfl,hr3,hg3⟩;have hbd1:=zA3 f 0 (Nat.zero_le _);obtain⟨X1,hX1⟩:∃X,z1g f 0=X:=⟨_,rfl⟩;rw [hX1]at hr3 hbd1;rw [hX1];have HX1:=zz hX1;obtain⟨b,s1,e1⟩:=X1;simp only at hr3 hbd1 ⊢;have q3:Below W.heap.size W w3:=q2.trans (z0M hg3 (by omega) q2.size);have hB3:=hg3.size;have HR3:=zz hr3;clear hr3 hg3 hX1;go_wp2_with fail
  refine(z7I g w1.heap.size s1 e1 256 w3 HR3.out (by omega) (by omega) (by omega) (by omega)).mono ?_;rintro e w4 ⟨rfl,hr4,hg4⟩;have hbd2:=z5Z s1 e1 256 hbd1.2;rw [show(((256:Nat)):Int)=256 from rfl]at hbd2;obtain⟨X2,hX2⟩:∃X,z0U s1 e1 256=X:=⟨_,rfl⟩;rw [hX2]at hr4 hbd2;rw [hX2];have HX2:=zz hX2;obtain⟨n,s2,e2⟩:=X2;simp only at hr4 hbd2 ⊢;have q4:Below W.heap.size W w4:=q3.trans (z0M hg4 (by omega) q3.size);have hB4:=hg4.size;have hgl4:g<w4.heap.size:=by obtain⟨_,h⟩:=hr4.blk;exact h.lt
  have hbp:=Blk.new w4 36 #[.bool b,.int .i64 (n:Int),.slice none 0 0];have hr5:=hr4.later ((Below.refl _ _).alloc (Nat.le_refl _) (.cells #[.bool b,.int .i64 (n:Int),.slice none 0 0] 36));have q5:=q4.alloc q4.size (.cells #[.bool b,.int .i64 (n:Int),.slice none 0 0] 36);have HR5:=zz hr5;have hsz5:w1.heap.size≤(w4.alloc (.cells #[.bool b,.int .i64 (n:Int),.slice none 0 0] 36)).heap.size:=by simp;omega
  clear hr4 hr5 hg4 hX2 HR3;go_wp2_with fail
  refine(z7I g w1.heap.size s2 e2 2048 _ HR5.out hsz5 (by omega) (by omega) (by omega)).mono ?_;rintro e w6 ⟨rfl,hr6,hg6⟩;have hbd3:=z5Z s2 e2 2048 hbd2.2.2;rw [show(((2048:Nat)):Int)=2048 from rfl]at hbd3;obtain⟨X3,hX3⟩:∃X,z0U s2 e2 2048=X:=⟨_,rfl⟩;rw [hX3]at hr6 hbd3;rw [hX3];have HX3:=zz hX3;obtain⟨c,s3,e3⟩:=X3;simp only at hr6 hbd3 ⊢;have hgp:g≠w4.heap.size:=by omega
  have hbp6:=hbp.grown hg6 (by simpa using hgp);have q6:Below W.heap.size W w6:=q5.trans (z0M hg6 (by omega) q5.size);have R0:OfSt W w6 w4.heap.size g w1.heap.size b n (.slice none 0 0) [] s3 e3:=
   ⟨hbp6,Co.nil _ _,hr6,q6,Nat.le_trans hsz5 hg6.size,⟨Nat.zero_le _,fun c hc=>by cases hc⟩,by omega,hbd3.2.2⟩
  have HPG:Hid (z3J l=match z2D c (s3,e3) []with|(cs,s4,e4)=>if z1u s4 e4=0∧z1M (n:Int) cs=0 then some (b,n,cs)else none):=by
   rw [Hid,HO1.out];unfold zJO;rw [HX1.out];simp only;rw [HX2.out];simp only;rw [HX3.out]
  have hgp4:W.heap.size≤w4.heap.size:=q4.size;have hgW:W.heap.size≤g:=by omega
  have hc2048:=hbd3.1;have hn256:=hbd2.1;clear hr6 hg6 hX3 HR5 hbp hbp6 HX1 HX2 HX3 HO1 hbd1 hbd2 hbd3 q5;go_wp2_with fail
  go_loopw [28] (fun iv wr=>∃ (i:Nat) (sl:Value) (cs:List Cel) (lr:List UInt8) (er:Nat),iv= .int .i64 (i:Int)∧i≤c∧cs.length=i∧OfSt W wr w4.heap.size g w1.heap.size b n sl cs lr er∧Hid (z2D c (s3,e3) []=z2D (c-i) (lr,er) cs)) (fun iv _=>c-(intOf iv).toNat)
  case atStart=>exact⟨0,_,[],s3,e3,rfl,by omega,rfl,R0,rfl⟩
  case round=>
   obtain⟨i,sl,cs,lr,er,rfl,hi,hlen,hst,hrc⟩:=hrel;clear R0;by_cases hic:i<c
   ·subst hlen;have hlo:=hst.lens;have hT1:=fun(w':World) (h1:Rd w' g w1.heap.size lr er) (h2:w1.heap.size≤w'.heap.size)=>z48 g w1.heap.size lr er w' h1 h2 hlo.1
    have hk1:=z5L lr hlo.2;have hst2:=hrc.out.trans (zAv hic (lr,er) cs);simp only at hst2;obtain⟨X1,hX1⟩:∃X,z0O lr er=X:=⟨_,rfl⟩;rw [hX1]at hT1 hk1 hst2;obtain⟨k,l1,er1⟩:=X1;simp only at hT1 hk1 hst2;have hT2:=fun(w':World) (h1:Rd w' g w1.heap.size l1 er1) (h2:w1.heap.size≤w'.heap.size)=>z48 g w1.heap.size l1 er1 w' h1 h2 (by omega)
    have hk2:=z5L l1 hk1.2.2;obtain⟨X2,hX2⟩:∃X,z0O l1 er1=X:=⟨_,rfl⟩;rw [hX2]at hT2 hk2 hst2;obtain⟨v,l2,er2⟩:=X2;simp only at hT2 hk2 hst2;have HT1:=zz hT1;have HT2:=zz hT2;have HRC:=zz hst2;have HST:=zz hst;obtain⟨A0,k0,c0,rfl⟩:=z0u hst.own;obtain rfl:=z0Q hst.own;have HF:=zz hst.few;have HLB:Hid (w1.heap.size≤wr.heap.size):=hst.room;have p2:wr.cell? ⟨w4.heap.size,2,none⟩=some (.slice A0 cs.length c0):=hst.page.cell 2;have hgne:¬g=w4.heap.size:=hgp;have hgne2:(some g:Option Nat)≠some w4.heap.size:=by simpa using hgp
    clear hT1 hT2 hst2 hst hrc hX1 hX2;go_wp2_with fail
    go_region_law (first
     |(go_simp;go_at_call 91;refine(HT2.out _ (by exact hr1) (by exact hBa)).mono ?_;rintro e wb ⟨rfl,hr2,hg2⟩;have hg2':wa.grownBy wb (some g):=⟨hg2.os,hg2.tape,hg2.output,hg2.size,hg2.block⟩;have hpb:=hpa.grown hg2' hgne2;have pb2:wb.cell? ⟨w4.heap.size,2,none⟩=some (.slice A0 cs.length c0):=hpb.cell 2;have hpx:=hpb.alloc (.cells #[.string (st k),.string (st v)] 81);have px2:(wb.alloc (.cells #[.string (st k),.string (st v)] 81)).cell? ⟨w4.heap.size,2,none⟩=some (.slice A0 cs.length c0):=hpx.cell 2;have hob:=hoa.beside hr1 hg2')
     |(go_simp;go_at_call 91;refine(HT1.out _ (by exact HST.out.rd) (by exact HLB.out)).mono ?_;rintro e wa ⟨rfl,hr1,hg1⟩;have hg1':wr.grownBy wa (some g):=⟨hg1.os,hg1.tape,hg1.output,hg1.size,hg1.block⟩;have hpa:=HST.out.page.grown hg1' hgne2;have pa2:wa.cell? ⟨w4.heap.size,2,none⟩=some (.slice A0 cs.length c0):=hpa.cell 2;have hoa:=HST.out.own.beside HST.out.rd hg1';have hBa:w1.heap.size≤wa.heap.size:=Nat.le_trans HLB.out hg1'.size)
     |(refine z87 (wb.alloc (.cells #[.string (st k),.string (st v)] 81)) (by first|exact⟨0,rfl⟩|exact⟨1,rfl⟩|exact⟨2,rfl⟩|exact⟨3,rfl⟩|exact⟨4,rfl⟩) rfl (.tmp 31) (.tmp 37) elemCel rfl (World.ownsRow.alloc hob _) (Sl.newcel (S:=fun _=>True) _ (k,v) rfl trivial) rfl rfl (z3A _) (by simp only [maxLen];omega) (by omega) ((Nat.le_trans HST.out.below.size (Nat.le_trans hg1'.size (Nat.le_trans hg2'.size (by simp))))) ?_;intro A5 k5 c5 w5 hown5 hg5;have hp5:=hpx.kept (World.ownsRow.alloc hob _) hg5 (by decide);have p5:w5.cell? ⟨w4.heap.size,2,none⟩=some (.slice A0 cs.length c0):=hp5.cell 2;have f5:=hp5.free 2;have hr5:=(hr2.later ((Below.refl _ _).alloc (Nat.le_refl _) (.cells #[.string (st k),.string (st v)] 81))).keptCo (World.ownsRow.alloc hob _) hg5))
    all_goals
     go_wp2_with fail
     go_roundw
     case rel=>
      obtain rfl:k5=cs.length+1:=z0Q hown5;have hown6:Co w5 W.heap.size (.slice A5 (cs.length+1) c5) (cs++ [(k,v)]):=by
       unfold Co;rw [z0f,show(cs++ [(k,v)]).length=cs.length+1 by simp];exact hown5
      have hq5:Below W.heap.size W w5:=z01 ((((HST.out.below).trans (z0M hg1' hgW HST.out.below.size)).trans (z0M hg2' hgW (Nat.le_trans HST.out.below.size hg1'.size))).alloc (Nat.le_trans HST.out.below.size (Nat.le_trans hg1'.size hg2'.size)) (.cells #[.string (st k),.string (st v)] 81)) (World.ownsRow.alloc hob _) hg5 (Nat.le_trans HST.out.below.size (Nat.le_trans hg1'.size (Nat.le_trans hg2'.size (by simp))));refine⟨cs.length+1,_,cs++ [(k,v)],l2,er2,by go_num,by omega,by simp,⟨hp5.put 2 _,z2c hown6 hp5 (by decide) 2 _,hr5.far hp5 (by decide) (by decide) 2 _,hq5.setCell hgp4 _,by have h1:=hg2'.size;have h2:=hg5.size;simp at h2 ⊢;omega,⟨by simp;omega,fun x hx=> ?_⟩,⟨by omega,hk2.2.2⟩⟩,HRC.out⟩;rcases List.mem_append.1 hx with h|h
      ·exact HF.out.2 x h
      ·simp at h;subst h;exact⟨hk1.1,hk2.1⟩
     case measure=>simp [intOf];omega
   ·obtain rfl:i=c:=by omega
    have HE0:Hid (z3J l=if z1u lr er=0∧z1M (n:Int) cs=0 then some (b,n,cs)else none):=by
     have h:=hrc.out;rw [Nat.sub_self,z2D]at h;rw [Hid,HPG.out,h]
    have HST:=zz hst;obtain⟨A0,k0,c0,rfl⟩:=z0u hst.own;obtain rfl:=z0Q hst.own;have qr:=q0.trans (hst.below.mono q0.size);have hbr:=HB0.out.later hst.below;have g0:wr.cell? ⟨w4.heap.size,0,none⟩=some (.bool b):=hst.page.cell 0;have g1:wr.cell? ⟨w4.heap.size,1,none⟩=some (.int .i64 (n:Int)):=hst.page.cell 1;have g2:wr.cell? ⟨w4.heap.size,2,none⟩=some (.slice A0 cs.length c0):=hst.page.cell 2;have hlo:=hst.lens;clear hst hrc HPG hlen;go_wp2_with fail
    refine(zFA g w1.heap.size lr er wr HST.out.rd hlo.1).mono ?_;rintro e w7 ⟨rfl,rfl⟩;by_cases hE:z1u lr er=0
    ·rw [hE];have HE:=zz hE;clear hE;go_wp2_with fail
     refine(z8x _ b (n:Int) _ cs wr (by omega) ⟨by have:=HST.out.few.1;omega,HST.out.few.2⟩ HST.out.own.cs).mono ?_;rintro e w8 ⟨rfl,hbl8⟩;have q8:=qr.trans (hbl8.mono qr.size);have hb8:=hbr.later hbl8;have r0:w8.cell? ⟨w.heap.size,0,none⟩=some (.bool false):=hb8.cell 0;have r1:w8.cell? ⟨w.heap.size,1,none⟩=some (.int .i64 0):=hb8.cell 1;have r2:w8.cell? ⟨w.heap.size,2,none⟩=some (.slice none 0 0):=hb8.cell 2;have rf0:=hb8.free 0;have rf1:=hb8.free 1;have rf2:=hb8.free 2;have h0:=cell_later hbl8 g0;have h1:=cell_later hbl8 g1;have h2:=cell_later hbl8 g2;by_cases hC:z1M (n:Int) cs=0
     ·rw [hC];have HY:Hid (z3J l=some (b,n,cs)):=by rw [Hid,HE0.out,if_pos ⟨HE.out,hC⟩]
      clear hC HE0;go_wp2_with fail
      refine bodyPost_ret (z0L rfl _ _ w.heap.size rfl (hb8.put3 _ _ _) z1I) rfl ⟨fun b' n' cs' h=> ?_,fun h=>(by rw [HY.out]at h;cases h),z0Y q8 (Nat.le_refl _) _ _ _⟩;rw [HY.out]at h;injection h with h
      injection h with h1 h
      injection h with h2 h3
      subst h1 h2 h3;exact⟨_,rfl,A0,c0,rfl,Cs.put3 (L:=W.heap.size) (Sl.below HST.out.own.cs hbl8 (fun _ h=>h.2)) (fun x h=>⟨h.1,Nat.lt_of_lt_of_le h.2 hbl8.size⟩) hWs q0.size _ _ _⟩
     ·have HN:Hid (z3J l=none):=by rw [Hid,HE0.out,if_neg (fun h=>hC h.2)]
      have t1:((z1M (n:Int) cs:Int) != 0)=true:=by rw [bne_iff_ne];omega
      generalize z1M (n:Int) cs=P at*;clear hC HE0;go_wp2_with fail
      exact bodyPost_ret (z0L rfl _ _ w.heap.size rfl (hb8.put3 _ _ _) z1I) rfl ⟨fun b n cs h=>(by rw [HN.out]at h;cases h),fun _=>rfl,z0Y q8 (Nat.le_refl _) _ _ _⟩
    ·have HN:Hid (z3J l=none):=by rw [Hid,HE0.out,if_neg (fun h=>hE h.1)]
     have t1:((z1u lr er:Int) != 0)=true:=by rw [bne_iff_ne];omega
     have r0:wr.cell? ⟨w.heap.size,0,none⟩=some (.bool false):=hbr.cell 0;have r1:wr.cell? ⟨w.heap.size,1,none⟩=some (.int .i64 0):=hbr.cell 1;have r2:wr.cell? ⟨w.heap.size,2,none⟩=some (.slice none 0 0):=hbr.cell 2;have rf0:=hbr.free 0;have rf1:=hbr.free 1;have rf2:=hbr.free 2;generalize z1u lr er=P at*;clear hE HE0;go_wp2_with fail
     exact bodyPost_ret (z0L rfl _ _ w.heap.size rfl (hbr.put3 _ _ _) z1I) rfl ⟨fun b n cs h=>(by rw [HN.out]at h;cases h),fun _=>rfl,z0Y qr (Nat.le_refl _) _ _ _⟩
theorem z8b(b:Bool)(s:List UInt8):z1g (z3s b++s) 0=(b,s,0):=by
 unfold z1g z3s;rw [if_neg (by simp)];cases b<;>rfl
theorem z4j{x:Nat}(hx:x<U64){m:Nat}(hm:x≤m)(s:List UInt8):z0U (z0D x++s) 0 (m:Int)=(x,s,0):=by
 unfold z0U;rw [if_neg (by simp),z33 hx];simp only [List.drop_left];rw [if_neg (by omega)]
theorem z70:∀ (cs:List Cel) (s:List UInt8) (acc:List Cel),(∀c∈cs,c.1.length≤65536∧c.2.length≤65536)→z2D cs.length (cs.flatMap z3D++s,0) acc=(acc++cs,(s,0))
 | [],s,acc,_=>by simp [z2D]
 |c::cs,s,acc,h=>by
  have hc:=h c (by simp);have e:(c::cs).flatMap z3D++s=z0D c.1.length++(c.1++(z0D c.2.length++(c.2++(cs.flatMap z3D++s)))):=by
   simp [z3D,z11]
  rw [List.length_cons,z2D,e];simp only;rw [z4X hc.1];simp only;rw [z4X hc.2];simp only;rw [z70 cs s _ (fun x hx=>h x (by simp [hx]))];simp
theorem zC5(f:List UInt8):z1i (z7O f)= .ok f:=by
 have e:(z7O f).take ((z7O f).length-4)=f:=by
  rw [z6z,Nat.add_sub_cancel];unfold z7O;rw [List.take_left]
 unfold z1i;rw [if_neg (by rw [z6z];omega),e];exact if_pos rfl
theorem z18:∀ (p:Option (List UInt8)) (cs:List Cel),chk p cs=0→∀c∈cs,c.1.length+c.2.length≤480
 |p,[],_,c,hc=>by cases hc
 |p,x::xs,h,c,hc=>by
  rw [chk]at h
  split at h
  ·cases h
  ·split at h
   ·cases h
   ·rcases List.mem_cons.1 hc with rfl|hc
    ·omega
    ·exact z18 _ xs h c hc
theorem z4o{n:Int}{cs:List Cel}(h:z1M n cs=0):chk none cs=0:=by
 unfold z1M at h
 split at h
 ·cases h
 ·split at h
  ·rename_i h2;exact absurd h h2
  ·rename_i h2;simpa using h2
theorem zBm{b:Bool}{n:Nat}{cs:List Cel}(h:z1M (n:Int) cs=0):z3J (z7O (pgF b (n:Int) cs))=some (b,n,cs):=by
 have hsm:=z18 none cs (z4o h);obtain⟨_,h256,hsz⟩:=z6G h;have hn:n≤256:=by omega
 have hlen:cs.length≤2048:=by
  have h2:cs.length≤z08 cs:=by
   clear h hsz hsm
   induction cs with
   |nil=>simp [z08]
   |cons c cs ih=>
    have e:z08 (c::cs)=(z3D c).length+z08 cs:=by simp [z08]
    have h1:1≤(z3D c).length:=by
     unfold z3D z11;have:=z1q c.1.length;simp only [List.length_append];omega
    rw [e,List.length_cons];omega
  unfold z2z at hsz;omega
 unfold z3J;rw [zC5];simp only;unfold zJO;have e:pgF b (n:Int) cs=z3s b++(z0D n++(z0D cs.length++(cs.flatMap z3D++ []))):=by
  unfold pgF z3s;rw [List.append_nil];rfl
 rw [e,z8b];simp only;rw [show(256:Int)=((256:Nat):Int)from rfl,z4j (by unfold U64;omega) hn];simp only;rw [show(2048:Int)=((2048:Nat):Int)from rfl,z4j (by unfold U64;omega) hlen];simp only;rw [z70 cs [] [] (fun c hc=>by have:=hsm c hc;omega)];simp only [List.nil_append];rw [if_pos ⟨by simp [z1u],h⟩]
theorem z9e:∀ (p:Option (List UInt8)) (cs:List Cel) (k:Nat),chk p cs=0→chk p (cs.take k)=0
 |p,cs,0,_=>by simp [chk]
 |p,[],k+1,_=>by simp [chk]
 |p,c::cs,k+1,h=>by
  rw [chk]at h;rw [List.take_succ_cons,chk]
  split at h
  ·cases h
  ·rename_i h1;rw [if_neg h1]
   split at h
   ·cases h
   ·rename_i h2;rw [if_neg h2];exact z9e _ cs k h
theorem zH7{p:Option (List UInt8)}:∀ {cs:List Cel},chk p cs=0→chk none cs=0
 | [],_=>by simp [chk]
 |c::cs,h=>by
  rw [chk]at h ⊢
  split at h
  ·cases h
  ·rename_i h1;rw [if_neg h1,if_neg (by simp [zGc])]
   split at h
   ·cases h
   ·exact h
theorem z7V:∀ (p:Option (List UInt8)) (cs:List Cel) (k:Nat),chk p cs=0→chk none (cs.drop k)=0
 |p,cs,0,h=>by rw [List.drop_zero];exact zH7 h
 |p,[],k+1,_=>by simp [chk]
 |p,c::cs,k+1,h=>by
  rw [chk]at h;rw [List.drop_succ_cons]
  split at h
  ·cases h
  ·split at h
   ·cases h
   ·exact z7V _ cs k h
theorem zAk:∀ (p:Option (List UInt8)) (cs:List Cel),chk p cs=0→RisesP cs
 |p,[],_=>by intro i hi;simp at hi
 |p,c::cs,h=>by
  rw [chk]at h
  split at h
  ·cases h
  ·split at h
   ·cases h
   ·intro i hi;rcases i with _|i
    ·rcases cs with _|⟨d,ds⟩
     ·simp at hi
     ·rw [chk]at h
      split at h
      ·cases h
      ·split at h
       ·cases h
       ·rename_i h2;simpa [zGc]using h2
    ·have ih:=zAk _ cs h i (by simpa using hi);simpa using ih
theorem z21{x:Nat}(h:x<16384):(z0D x).length≤2:=z2j 1 x h
theorem z2P{c:Cel}(h:c.1.length+c.2.length≤480):(z3D c).length≤484:=by
 unfold z3D z11;have h1:=z21 (x:=c.1.length) (by omega);have h2:=z21 (x:=c.2.length) (by omega);simp only [List.length_append];omega
theorem z6N{x:Nat}(h:x<128):(z0D x).length=1:=by rw [z2g h];rfl
theorem z5B{next:Int}{cs:List Cel}(hn:next≤256)(hf:cs.length≤100):z2z next cs≤z08 cs+8∧z08 cs+7≤z2z next cs:=by
 unfold z2z;have h1:=z21 (x:=next.toNat) (by omega);have h2:=z1q next.toNat;have h3:=z6N (x:=cs.length) (by omega);omega
theorem z91{next:Int}{cs:List Cel}(h0:0≤next)(h1:next≤256)(hc:chk none cs=0)(hs:z2z next cs≤2048):z1M next cs=0:=by
 unfold z1M;rw [if_neg (by omega),hc,if_neg (by simp),if_neg (by omega)]
theorem halves{next:Int}{cs:List Cel}{k:Nat}(hf:cs.length≤100)(hc:z1M next cs=0)(hk:HalfAt cs k):
 z1M next (cs.take k)=0∧z1M next (cs.drop k)=0∧z2z next (cs.take k)+490≤2048∧z2z next (cs.drop k)+490≤2048:=by
 obtain⟨h0,h1,hs⟩:=z6G hc;have hch:=z4o hc;have hsm:=z18 none cs hch;have z0:=z5B (next:=next) (cs:=cs) h1 hf;have za:=z5B (next:=next) (cs:=cs.take k) h1 (by rw [List.length_take];omega);have zb:=z5B (next:=next) (cs:=cs.drop k) h1 (by rw [List.length_drop];omega);have hsum:z08 cs=z08 (cs.take k)+z08 (cs.drop k):=by rw [←z0X,List.take_append_drop]
 have hlo:=hk.lo;have hhi:=hk.hi;obtain⟨j,rfl⟩:∃j,k=j+1:=⟨k-1,by omega⟩;have hj:j<cs.length:=by omega
 have hstep:=z2b (cs:=cs) hj;have hcj:=z2P (hsm _ (List.getElem_mem hj));have ha:z08 (cs.take (j+1))≤1504:=by
  rcases Nat.eq_zero_or_pos j with h|h
  ·subst h;rw [hstep];have:z08 (cs.take 0)=0:=rfl;omega
  ·have:=hk.less j h (by omega);omega
 have hb:z08 (cs.drop (j+1))≤1021:=by
  rcases hk.stop with h|h
  ·have e:cs.drop (j+1)= [cs[j+1]'(by omega)]∨cs.drop (j+1)= []:=by
    rcases Nat.lt_or_ge (j+1) cs.length with h2|h2
    ·left;rw [List.drop_eq_getElem_cons h2,List.drop_eq_nil_of_le (by omega)]
    ·right;exact List.drop_eq_nil_of_le (by omega)
   rcases e with e|e
   ·rw [e,z57];have:=z2P (hsm _ (List.getElem_mem (show j+1<cs.length by omega)));omega
   ·rw [e];simp [z08]
  ·omega
 exact⟨z91 h0 h1 (z9e _ _ _ hch) (by omega),z91 h0 h1 (z7V _ _ _ hch) (by omega),by omega,by omega⟩
end
section
open Go
def Lt(a b:List UInt8):Prop:=z40 a b<0
theorem Lt.trans{a b c:List UInt8}(h:Lt a b)(h':Lt b c):Lt a c:=z4W a b c h h'
theorem Lt.irrefl{a:List UInt8}(h:Lt a a):False:=by unfold Lt at h;rw [zAQ]at h;omega
theorem z2I{a b:List UInt8}:Op.bytesLess a b=true↔Lt a b:=by rw [z3I,decide_eq_true_eq];rfl
theorem z92{a b:List UInt8}:Op.bytesLess a b=false↔¬Lt a b:=by rw [z3I,decide_eq_false_iff_not];rfl
theorem zFS{a b:List UInt8}:Lt a b∨a=b∨Lt b a:=by
 have h1:=zCq a b;have h2:=zAb a b;rcases h1 with h|h|h
 ·exact .inl (by unfold Lt;omega)
 ·exact .inr (.inl (zF2 _ _ h))
 ·exact .inr (.inr (by unfold Lt;omega))
theorem Lt.not{a b:List UInt8}(h:Lt a b):¬Lt b a:=fun h'=>(h.trans h').irrefl
theorem Lt.ne{a b:List UInt8}(h:Lt a b):a≠b:=fun e=>by subst e;exact h.irrefl
def Asc(cs:List Cel):Prop:=cs.Pairwise fun a b=>Lt a.1 b.1
theorem RisesP.asc{cs:List Cel}(h:RisesP cs):Asc cs:=by
 unfold Asc;rw [List.pairwise_iff_getElem];intro i j hi hj hij;exact zAN h hij hj
theorem Asc.rises{cs:List Cel}(h:Asc cs):RisesP cs:=fun i hi=>by
 unfold Asc at h;rw [List.pairwise_iff_getElem]at h;exact z2I.2 (h i (i+1) (by omega) hi (by omega))
theorem z7d:∀ {l m:List Cel} {k:List UInt8},(∀c∈l,Lt c.1 k)→(∀c∈m,¬Lt c.1 k)→z03 (l++m) k=l.length
 | [],[],k,_,_=>rfl
 | [],c::m,k,_,hm=>by
   unfold z03;rw [List.nil_append,List.takeWhile_cons,if_neg (by rw [z2I];exact hm c (by simp))]
 |a::l,m,k,hl,hm=>by
  have ih:=z7d (l:=l) (m:=m) (k:=k) (fun c hc=>hl c (by simp [hc])) hm;unfold z03 at ih ⊢;rw [List.cons_append,List.takeWhile_cons,if_pos (z2I.2 (hl a (by simp))),List.length_cons,ih,List.length_cons]
section
variable {cs:List Cel} {k:List UInt8}
theorem z7Q{c:Cel}(h:c∈cs.take (z03 cs k)):Lt c.1 k:=by
 obtain⟨i,hi,rfl⟩:=List.mem_iff_getElem.1 h;rw [List.length_take]at hi;rw [List.getElem_take];exact z2I.1 (z6Q (by omega))
theorem z9V(ha:Asc cs){c:Cel}(h:c∈cs.drop (z03 cs k)):¬Lt c.1 k:=by
 obtain⟨i,hi,rfl⟩:=List.mem_iff_getElem.1 h;rw [List.length_drop]at hi;rw [List.getElem_drop];have:=zA6 ha.rises k (i:=z03 cs k+i) (by omega);rw [decide_eq_true (by omega)]at this;rw [←z92];simpa using this
theorem zFG(h:isK cs k=true):∃v,cs[z03 cs k]? =some (k,v):=by
 unfold isK at h;cases hx:cs[z03 cs k]? with
 |none=>rw [hx]at h;cases h
 |some x=>
  rw [hx]at h;exact⟨x.2,by rw [←eq_of_beq h]⟩
theorem zCo(h:isK cs k=false){x:Cel}(hx:cs[z03 cs k]? =some x):x.1≠k:=by
 unfold isK at h;rw [hx]at h;intro e;simp [e]at h
theorem z7o(h:isK cs k=true):z03 cs k<cs.length:=by
 obtain⟨v,hv⟩:=zFG h;exact(List.getElem?_eq_some_iff.1 hv).1
theorem zG2(h:isK cs k=true):∃v,cs.drop (z03 cs k)=(k,v)::cs.drop (z03 cs k+1):=by
 obtain⟨v,hv⟩:=zFG h;obtain⟨h1,h2⟩:=List.getElem?_eq_some_iff.1 hv;exact⟨v,by rw [List.drop_eq_getElem_cons h1,h2]⟩
def z2O(cs:List Cel)(k:List UInt8):Nat:=if isK cs k then 1 else 0
theorem zBt(ha:Asc cs){c:Cel}(h:c∈cs.drop (z03 cs k+z2O cs k)):Lt k c.1:=by
 unfold z2O at h;cases hi:isK cs k with
 |true=>
  rw [hi,if_pos rfl]at h;obtain⟨v,hv⟩:=zG2 hi;have h2:Asc (cs.drop (z03 cs k)):=List.Pairwise.drop ha;rw [hv]at h2;exact(List.pairwise_cons.1 h2).1 c h
 |false=>
  rw [hi]at h;simp only [Bool.false_eq_true,if_false,Nat.add_zero]at h;rcases zFS (a:=k) (b:=c.1)with h1|h1|h1
  ·exact h1
  ·exfalso;obtain⟨i,hi2,hc⟩:=List.mem_iff_getElem.1 h;rw [List.length_drop]at hi2;rw [List.getElem_drop]at hc;rcases Nat.eq_zero_or_pos i with h0|h0
   ·subst h0;exact zCo hi (x:=c) (by rw [←hc];exact List.getElem?_eq_getElem _) h1.symm
   ·have h4:Lt cs[z03 cs k].1 cs[z03 cs k+i].1:=by
     unfold Asc at ha;rw [List.pairwise_iff_getElem]at ha;exact ha _ _ (by omega) (by omega) (by omega)
    rw [hc,←h1]at h4;refine z9V (k:=k) ha (c:=cs[z03 cs k]'(by omega)) ?_ h4;rw [List.mem_iff_getElem];exact⟨0,by rw [List.length_drop];omega,by rw [List.getElem_drop];rfl⟩
  ·exact absurd h1 (z9V ha (List.mem_of_mem_drop (i:=0) (by simpa using h)))
end
def putC(cs:List Cel)(c:Cel):List Cel:=cs.take (z03 cs c.1)++c::cs.drop (z03 cs c.1+z2O cs c.1)
def delC(cs:List Cel)(k:List UInt8):List Cel:=cs.take (z03 cs k)++cs.drop (z03 cs k+z2O cs k)
section
variable {cs:List Cel} {k:List UInt8} {c:Cel}
theorem z98(cs:List Cel)(k:List UInt8):z03 cs k+z2O cs k≤cs.length:=by
 unfold z2O;have h1:=z1W cs k;cases h:isK cs k with
 |true=>have:=z7o h;simp;omega
 |false=>simp;omega
theorem z3w(cs:List Cel)(c:Cel):(putC cs c).length+z2O cs c.1=cs.length+1:=by
 have:=z98 cs c.1;unfold putC;rw [List.length_append,List.length_cons,List.length_take,List.length_drop];omega
theorem z6F(cs:List Cel)(k:List UInt8):(delC cs k).length+z2O cs k=cs.length:=by
 have:=z98 cs k;unfold delC;rw [List.length_append,List.length_take,List.length_drop];omega
theorem Asc.putC(ha:Asc cs)(c:Cel):Asc (putC cs c):=by
 unfold Proofs.YthbhkdhljlganaaGreatDoor.putC;refine List.pairwise_append.2 ⟨List.Pairwise.take ha,List.pairwise_cons.2 ⟨fun x hx=>zBt ha hx,List.Pairwise.drop ha⟩,fun x hx y hy=> ?_⟩;rcases List.mem_cons.1 hy with rfl|hy
 ·exact z7Q hx
 ·exact(z7Q hx).trans (zBt ha hy)
theorem Asc.delC(ha:Asc cs)(k:List UInt8):Asc (delC cs k):=by
 unfold Proofs.YthbhkdhljlganaaGreatDoor.delC;exact List.pairwise_append.2 ⟨List.Pairwise.take ha,List.Pairwise.drop ha,fun x hx y hy=>(z7Q hx).trans (zBt ha hy)⟩
theorem zGG(h:isK cs k=false):delC cs k=cs:=by
 unfold delC z2O;rw [h];simp only [Bool.false_eq_true,if_false,Nat.add_zero];exact List.take_append_drop _ _
end
theorem zGT{cs:List Cel}{c:Cel}(h:isK cs c.1=true):putC cs c=cs.set (z03 cs c.1) c:=by
 rw [List.set_eq_take_append_cons_drop,if_pos (z7o h)];unfold putC z2O;rw [h];rfl
theorem zEu{cs:List Cel}{c:Cel}(h:isK cs c.1=false):putC cs c=cs.take (z03 cs c.1)++c::cs.drop (z03 cs c.1):=by
 unfold putC z2O;rw [h];rfl
theorem zCc{cs:List Cel}{k:List UInt8}(h:isK cs k=true):delC cs k=cs.take (z03 cs k)++cs.drop (z03 cs k+1):=by
 unfold delC z2O;rw [h];rfl
def z2u(cs:List Cel)(c:Cel)(i:Nat):List Cel:=if i≤z03 cs c.1 then cs.take i else cs.take (z03 cs c.1)++c::(cs.take i).drop (z03 cs c.1+z2O cs c.1)
section
variable {cs:List Cel} {c:Cel} {i:Nat}
theorem zIT(h:i<z03 cs c.1)(hi:i<cs.length):z2u cs c (i+1)=z2u cs c i++ [cs[i]]:=by
 unfold z2u;rw [if_pos (by omega),if_pos (by omega),List.take_succ_eq_append_getElem hi]
theorem zJ0(hi:z03 cs c.1<cs.length):z2u cs c (z03 cs c.1+1)=if isK cs c.1 then z2u cs c (z03 cs c.1)++ [c]else z2u cs c (z03 cs c.1)++ [c]++ [cs[z03 cs c.1]]:=by
 unfold z2u z2O;rw [if_neg (by omega),if_pos (Nat.le_refl _)];cases h:isK cs c.1 with
 |true=>
  simp only [if_true];rw [List.drop_of_length_le (by rw [List.length_take];omega)]
 |false=>
  simp only [Bool.false_eq_true,if_false,Nat.add_zero];rw [List.take_succ_eq_append_getElem hi,List.drop_left' (by rw [List.length_take];omega),List.append_assoc];rfl
theorem zIR(h:z03 cs c.1<i)(hi:i<cs.length):z2u cs c (i+1)=z2u cs c i++ [cs[i]]:=by
 have hN:z2O cs c.1≤1:=by unfold z2O;split<;>omega
 unfold z2u;rw [if_neg (by omega),if_neg (by omega),List.take_succ_eq_append_getElem hi,List.drop_append_of_le_length (by rw [List.length_take];omega),List.append_assoc];rfl
theorem zGr:(if z03 cs c.1<cs.length then z2u cs c cs.length else z2u cs c cs.length++ [c])=putC cs c:=by
 have h:=z1W cs c.1;unfold z2u putC
 split
 ·rw [if_neg (by omega),List.take_length]
 ·have e:z03 cs c.1=cs.length:=by omega
  rw [if_pos (by omega),e];have hN:z2O cs c.1=0:=by
   unfold z2O;cases hi:isK cs c.1 with
   |true=>have:=z7o hi;omega
   |false=>rfl
  rw [hN,Nat.add_zero,List.drop_length]
theorem zHb(hi:i≤cs.length):(z2u cs c i).length≤i+1:=by
 unfold z2u
 split
 ·rw [List.length_take];omega
 ·rw [List.length_append,List.length_cons,List.length_take,List.length_drop,List.length_take];omega
end
end
section
open Go Go.RowKit Go.WideShapes
open Go.Maps (Keyed)
set_option linter.unusedSectionVars false
def z72(v:Value):Option (DataW Value×List MemPlace):=some (.held v,[])
def InI(a:Int):Prop:= -9223372036854775808≤a∧a≤9223372036854775807
theorem InI.wf{a:Int}(h:InI a):(Lit.int .i64 a).wf=true:=by
 unfold InI at h;simp only [Lit.wf,Bool.and_eq_true,decide_eq_true_eq];exact h
theorem InI.of{a:Int}(h:(Lit.int .i64 a).wf=true):InI a:=by
 simp only [Lit.wf,Bool.and_eq_true,decide_eq_true_eq]at h;exact h
def nPut(f:Int→Option Value)(n:Nat)(a:Int):Nat:=if(f a).isSome then n else n+1
def nDel(f:Int→Option Value)(n:Nat)(a:Int):Nat:=if(f a).isSome then n-1 else n
section
variable {P:Program} {k:TypeId} {w w':World} {b n:Nat} {f:Int→Option Value}
def MpV(P:Program)(k:TypeId)(w:World)(b:Nat)(f:Int→Option Value)(n:Nat):Prop:=
 ∃D:DataW Value,w.ownsMap P k z72 b n D∧Maps.size D=n∧∀a,InI a→Maps.has D (.int .i64 a)=(f a).isSome∧∀v,f a=some v→∀z,D.atKey (.int .i64 a) z= .held v
theorem zAD{m:Nat}{D:DataW Value}(h:w.ownsMap P k z72 b m D):w.ownsMap P k z72 b (Maps.size D) D:=by
 obtain⟨es,clock,hb,F,hs,hD⟩:=h;have e1:Maps.size D=es.size:=by rw [hD];simp [Maps.size,length_sorted]
 exact⟨es,clock,hb,F,by rw [e1];exact Nat.le_refl _,hD⟩
theorem MpV.lt(h:MpV P k w b f n):b<w.heap.size:=by obtain⟨D,h1,_⟩:=h;exact h1.lt
theorem MpV.isMap(h:MpV P k w b f n):∃es clock,w.heap[b]? =some (.map es clock):=by
 obtain⟨D,⟨es,clock,hb,_⟩,_⟩:=h;exact⟨es,clock,hb⟩
theorem MpV.at(h:MpV P k w b f n)(hb:w'.heap[b]? =w.heap[b]?):MpV P k w' b f n:=by
 obtain⟨D,⟨es,clock,hb0,F,hs,hD⟩,h2,h3⟩:=h;exact⟨D,⟨es,clock,hb.trans hb0,F,hs,hD⟩,h2,h3⟩
theorem MpV.later(h:MpV P k w b f n)(hb:Below w.heap.size w w'):MpV P k w' b f n:=h.at (hb.block b h.lt)
theorem MpV.alloc(h:MpV P k w b f n)(o:Obj):MpV P k (w.alloc o) b f n:=h.at (Below.heap_alloc w o b h.lt)
theorem MpV.drew(h:MpV P k w b f n):MpV P k w.drew b f n:=h
theorem MpV.made(P:Program)(k:TypeId)(w:World):MpV P k (w.alloc (.map #[] 0)) w.heap.size (fun _=>none) 0:=
 ⟨.map [],World.ownsMap_made w P k z72,rfl,fun a _=>⟨rfl,fun v h=>by cases h⟩⟩
variable (hk:P.underlying k=some (.int .i64))
include hk
theorem zAd{a:Int}(ha:InI a):keyOf P k (.int .i64 a)=some (.int .i64 a):=Maps.keyOf_int_mk hk ha.wf
theorem MpV.atv(h:MpV P k w b f n){D:DataW Value}{a:Int}(ha:InI a){v z:Value}(h3:Maps.has D (.int .i64 a)=(f a).isSome∧∀v,f a=some v→∀z,D.atKey (.int .i64 a) z= .held v)
 (hv:DataW.held v=D.atKey (.int .i64 a) (.held z)):v=(f a).getD z:=by
 cases hf:f a with
 |some u=>
  rw [h3.2 u hf]at hv;injection hv
 |none=>
  have h0:Maps.has D (.int .i64 a)=false:=by rw [h3.1,hf];rfl
  rw [Maps.atKey_of_not_has h0]at hv;injection hv
theorem MpV.look{t e:TypeId}(h:MpV P k w b f n)(ht:P.underlying t=some (.map k e)){z:Value}(hz:(zeroValue e).run P w= .ok z w){a:Int}(ha:InI a):
 (Instr.lookup t (.map (some b)) (.int .i64 a) true).run P w= .ok (.tuple #[(f a).getD z,.bool (f a).isSome]) w:=by
 have h0:=h;obtain⟨D,h1,h2,h3⟩:=h;obtain⟨v,ps,hrun,hv⟩:=h1.look_ok (Maps.int_keyed hk) ht hz (zd:= .held z) (zp:= []) rfl (zAd hk ha);simp only [z72,Option.some.injEq,Prod.mk.injEq]at hv;rw [hrun,h0.atv hk ha (h3 a ha) hv.1,(h3 a ha).1]
theorem MpV.look1{t e:TypeId}(h:MpV P k w b f n)(ht:P.underlying t=some (.map k e)){z:Value}(hz:(zeroValue e).run P w= .ok z w){a:Int}(ha:InI a):
 (Instr.lookup t (.map (some b)) (.int .i64 a) false).run P w= .ok ((f a).getD z) w:=by
 have h0:=h;obtain⟨D,h1,h2,h3⟩:=h;obtain⟨v,ps,hrun,hv⟩:=h1.lookup (Maps.int_keyed hk) ht hz (zd:= .held z) (zp:= []) rfl (zAd hk ha);simp only [z72,Option.some.injEq,Prod.mk.injEq]at hv;rw [hrun,h0.atv hk ha (h3 a ha) hv.1]
theorem MpV.len{t e:TypeId}(h:MpV P k w b f n)(ht:P.underlying t=some (.map k e))(ty:TypeId):(Builtin.len_ #[t] ty #[.map (some b)]).run P w= .ok (.int .i64 (n:Int)) w:=by
 obtain⟨D,h1,h2,h3⟩:=h;rw [h1.len ht ty,h2]
theorem MpV.put{t e:TypeId}(h:MpV P k w b f n)(ht:P.underlying t=some (.map k e))(hn:n<maxLen){a:Int}(ha:InI a)(v:Value):
 ∃w',(Instr.mapUpdate t (.map (some b)) (.int .i64 a) v).run P w= .ok () w'∧MpV P k w' b (fun x=>if x=a then some v else f x) (nPut f n a)∧w.mapTurned w' b:=by
 obtain⟨D,h1,h2,h3⟩:=h;have K:=Maps.int_keyed hk;have ht':=h1.tidy K;have hkl:WideAt.IsKeyLit (.int .i64 a):=K.key (zAd hk ha);obtain⟨w',hrun,h1',hturn⟩:=h1.store K ht hn (zAd hk ha) (d:= .held v) (ps:= []) rfl;have hsz:Maps.size (D.put (.int .i64 a) (.held v))=nPut f n a:=by
  rw [Maps.size_put ht',(h3 a ha).1,h2];unfold nPut;cases f a<;>rfl
 refine⟨w',hrun,⟨_,by rw [←hsz];exact zAD h1',hsz,fun x hx=> ?_⟩,hturn⟩;by_cases hxa:x=a
 ·subst hxa;refine⟨by rw [Maps.has_put_same ht'.isMap hkl];simp,fun u hu z=> ?_⟩;simp only [if_true,Option.some.injEq]at hu;subst hu;exact Maps.atKey_put_same ht'.isMap hkl _ _
 ·have hne:Lit.int .i64 x≠ .int .i64 a:=fun e=>hxa (by injection e)
  refine⟨by rw [Maps.has_put_other hne,(h3 x hx).1];simp only [hxa,if_false],fun u hu z=> ?_⟩;simp only [hxa,if_false]at hu;rw [Maps.atKey_put_other hne];exact(h3 x hx).2 u hu z
theorem MpV.del{t e:TypeId}(h:MpV P k w b f n)(ht:P.underlying t=some (.map k e)){a:Int}(ha:InI a)(ty:TypeId):
 ∃w',(Builtin.delete_ #[t,k] ty #[.map (some b),.int .i64 a]).run P w= .ok (.tuple #[]) w'∧MpV P k w' b (fun x=>if x=a then none else f x) (nDel f n a)∧w.mapTurned w' b:=by
 obtain⟨D,h1,h2,h3⟩:=h;have K:=Maps.int_keyed hk;have ht':=h1.tidy K;obtain⟨w',hrun,h1',hturn⟩:=h1.drop K ht (zAd hk ha) ty;have hsz:Maps.size (D.del (.int .i64 a))=nDel f n a:=by
  have:=Maps.size_del (k:= .int .i64 a) ht';rw [(h3 a ha).1,h2]at this;unfold nDel;cases hf:f a with
  |none=>rw [hf]at this;simpa using this
  |some u=>
   rw [hf]at this;simp only [Option.isSome_some,if_true]at this ⊢;omega
 refine⟨w',hrun,⟨_,by rw [←hsz];exact zAD h1',hsz,fun x hx=> ?_⟩,hturn⟩;by_cases hxa:x=a
 ·subst hxa;exact⟨by rw [Maps.has_del_same];simp,fun u hu z=>by simp at hu⟩
 ·have hne:Lit.int .i64 x≠ .int .i64 a:=fun e=>hxa (by injection e)
  refine⟨by rw [Maps.has_del_other hne,(h3 x hx).1];simp only [hxa,if_false],fun u hu z=> ?_⟩;simp only [hxa,if_false]at hu;rw [Maps.atKey_del_other hne];exact(h3 x hx).2 u hu z
omit hk
theorem z74{α:Type} [BEq α] [LawfulBEq α]:∀ {l l':List α},l.Nodup→(∀x∈l,x∈l')→l.length≤l'.length
 | [],l',_,_=>Nat.zero_le _
 |x::r,l',hn,h=>by
  rw [List.nodup_cons]at hn;have hx:=h x (by simp);have ih:=z74 (l:=r) (l':=l'.erase x) hn.2 fun y hy=>(List.mem_erase_of_ne (by rintro rfl;exact hn.1 hy)).2 (h y (by simp [hy]))
  rw [List.length_erase_of_mem hx]at ih;have:0<l'.length:=List.length_pos_of_mem hx;rw [List.length_cons];omega
theorem MpV.ge(h:MpV P k w b f n)(hk:P.underlying k=some (.int .i64)){l:List Int}(hn:l.Nodup)(hl:∀x∈l,InI x∧(f x).isSome=true):l.length≤n:=by
 obtain⟨D,h1,h2,h3⟩:=h;obtain⟨es,rfl⟩:=(h1.tidy (Maps.int_keyed hk)).isMap;have h4:=z74 (α:=Int) (l:=l) (l':=es.filterMap fun p=>match p.1 with| .int _ x=>some x|_=>none) hn fun x hx=>by
  have h5:=(h3 x (hl x hx).1).1;rw [(hl x hx).2,Maps.has_eq,List.any_eq_true]at h5;obtain⟨p,hp,hs⟩:=h5;have h6:=WideAt.sameKey_eq hs;exact List.mem_filterMap.2 ⟨p,hp,by rw [h6]⟩
 have h5:=List.length_filterMap_le (fun p:Lit×DataW Value=>match p.1 with| .int _ x=>some x|_=>none) es;rw [Maps.size_eq]at h2;omega
def RgV(P:Program)(k:TypeId)(w:World)(b r:Nat)(f:Int→Option Value)(n:Nat)(left:Int→Bool)(cnt:Nat):Prop:=
 ∃ (D:DataW Value) (lf:Lit→Bool),w.ranges P k z72 b r n D lf cnt∧Maps.size D=n∧(∀a,InI a→Maps.has D (.int .i64 a)=(f a).isSome∧∀v,f a=some v→∀z,D.atKey (.int .i64 a) z= .held v)∧∀a,left a=true↔InI a∧lf (.int .i64 a)=true
variable {r cnt:Nat} {left:Int→Bool}
theorem RgV.left_eq(h:RgV P k w b r f n left cnt):w.rangeLeft b r=cnt:=by
 obtain⟨D,lf,h1,_⟩:=h;exact h1.left_eq
theorem RgV.kept{row:Option Nat}(h:RgV P k w b r f n left cnt)(hg:w.grownBy w' row)(hb:some b≠row)(hr:some r≠row):RgV P k w' b r f n left cnt:=by
 obtain⟨D,lf,h1,h2,h3,h4⟩:=h;exact⟨D,lf,h1.kept hg hb hr,h2,h3,h4⟩
variable {ops:Array Oper} {rest:List Oper} {o:Oper} {a:Act} {Q:Exit→Act→World→Prop}
theorem z7a(w:World)(hg:o.guard=none)(m:Operand)(t:TypeId)(hop:o.op=Op.range t m)(hk:P.underlying k=some (.int .i64)){e:TypeId}(ht:P.underlying t=some (.map k e))
 (hm:a.eval m= .map (some b)) (h:MpV P k w b f n) (left:Int→Bool) (hl:∀a,left a=true↔InI a∧(f a).isSome=true)
 (hK:∀w',RgV P k w' b w.heap.size f n left n→w.grownBy w' none→w'.heap.size=w.heap.size+1→wpList P ops Q rest (a.put o.dst (.pointer (some ⟨w.heap.size,0,none⟩))) w'):wpList P ops Q (o::rest) a w:=by
 obtain⟨D,h1,h2,h3⟩:=h;refine wpList_range_own w hg m t hop k e (Maps.int_keyed hk) ht z72 b n D hm h1 fun w' hr hgr hsz=>hK w' ⟨D,_,by rw [h2]at hr;exact hr,h2,h3,fun a=> ?_⟩ hgr hsz
 rw [hl];exact⟨fun⟨ha,hf⟩=>⟨ha,by rw [(h3 a ha).1];exact hf⟩,fun⟨ha,hf⟩=>⟨ha,by rw [(h3 a ha).1]at hf;exact hf⟩⟩
theorem z80(w:World)(hg:o.guard=none)(it:Operand)(hop:o.op=Op.next it false)(hk:P.underlying k=some (.int .i64))
 (hit:a.eval it= .pointer (some ⟨r,0,none⟩)) (h:RgV P k w b r f n left cnt)
 (hDone:cnt=0→(∀x,left x=false)→wpList P ops Q rest (a.put o.dst (.tuple #[.bool false])) w)
 (hMore:∀ (x:Int) (c:Value) (w':World) (cnt':Nat),InI x→left x=true→f x=some c→RgV P k w' b r f n (fun z=>left z&& !(z==x)) cnt'→cnt'<cnt→
   w.grownBy w' (some r)→w'.heap.size=w.heap.size→(Instr.entry (.pointer (some ⟨r,0,none⟩))).run P w'= .ok (.tuple #[.int .i64 x,c]) w'→wpList P ops Q rest (a.put o.dst (.tuple #[.bool true,.int .i64 x,c])) w'):wpList P ops Q (o::rest) a w:=by
 obtain⟨D,lf,h1,h2,h3,h4⟩:=h;refine wpList_next_ranges w hg it hop k (Maps.int_keyed hk) z72 (Value.int .i64) id (fun key kl hkey=>by obtain⟨x,rfl,_⟩:=Maps.keyOf_int_inv hk hkey;exact⟨x,rfl⟩) (fun v y _=>⟨v,rfl⟩) b r n D lf cnt hit h1
  (fun h0 hl=>hDone h0 fun x=> ?_) (fun x c kl y w' cnt' hkey hlk hv hat hrg hlt hgr hsz hen=> ?_)
 ·cases hx:left x with
  |false=>rfl
  |true=>have:=((h4 x).1 hx).2;rw [hl]at this;cases this
 ·obtain⟨x',ex,rfl,hwx⟩:=Maps.keyOf_int_inv hk hkey;cases ex
  have hx:=InI.of hwx;simp only [z72,Option.some.injEq]at hv;subst hv;have hfx:f x=some c:=by
   cases hf:f x with
   |some u=>
    have e1:=(h3 x hx).2 u hf (.held c);rw [hat]at e1;simp only [id]at e1;injection e1 with e1
    rw [e1]
   |none=>
    have h0:Maps.has D (.int .i64 x)=false:=by rw [(h3 x hx).1,hf];rfl
    have e1:=Maps.atKey_of_not_has h0 (z:=DataW.nil);rw [hat]at e1;cases e1
  refine hMore x c w' cnt' hx ((h4 x).2 ⟨hx,hlk⟩) hfx ⟨D,_,hrg,h2,h3,fun z=> ?_⟩ hlt hgr hsz hen;simp only [Bool.and_eq_true,Bool.not_eq_true',h4 z];constructor
  ·rintro⟨⟨hz,hlf⟩,hne⟩;exact⟨hz,hlf,Maps.sameKey_ne (fun e=>by injection e with _ e;simp [e]at hne)⟩
  ·rintro⟨hz,hlf,hne⟩;refine⟨⟨hz,hlf⟩,?_⟩;rw [beq_eq_false_iff_ne];rintro rfl;simp [Lit.sameKey]at hne
end
end
section
open Go
abbrev SF:=Int→Option (List UInt8)
inductive Pnd where
 |wr (at_:Int) (b:List UInt8)
 |fr (at_:Int)
structure Dsk where
 size:Int
 limit:Int
 view:SF
 nv:Nat
 ground:SF
 ng:Nat
 pend:List Pnd
def SF.put(f:SF)(a:Int)(b:List UInt8):SF:=fun x=>if x=a then some b else f x
def SF.del(f:SF)(a:Int):SF:=fun x=>if x=a then none else f x
def SF.nPut(f:SF)(n:Nat)(a:Int):Nat:=if(f a).isSome then n else n+1
def SF.nDel(f:SF)(n:Nat)(a:Int):Nat:=if(f a).isSome then n-1 else n
def z2C(b old:List UInt8)(n:Int):List UInt8:=
 if n.toNat<b.length then b.take n.toNat++old.drop n.toNat else b
def doP(s:SF×Nat)(p:Pnd)(n:Int):SF×Nat:=match p with
 | .wr a b=>(s.1.put a (z2C b ((s.1 a).getD []) n),s.1.nPut s.2 a)
 | .fr a=>(s.1.del a,s.1.nDel s.2 a)
def zE6(l:List (Int×Int))(k:Nat):Option Int:=(l.find? fun x=>x.1==(k:Int)).map (·.2)
def z0h(l:List (Int×Int)):Nat→List Pnd→SF×Nat→SF×Nat
 |_,[],s=>s
 |k,p::ps,s=>z0h l (k+1) ps (match zE6 l k with|some n=>doP s p n|none=>s)
def Dsk.new(n:Int):Dsk:=⟨n,n,fun _=>none,0,fun _=>none,0,[]⟩
def Dsk.put(D:Dsk)(p:Pnd)(n:Int):Dsk:={D with view:=(doP (D.view,D.nv) p n).1,nv:=(doP (D.view,D.nv) p n).2,pend:=D.pend++ [p]}
def Dsk.why(D:Dsk)(a:Int)(b:List UInt8):Nat:=
 if a<0∨D.size≤a then 61 else if 512<b.length then 62 else if(D.view a).isNone∧D.limit≤(D.nv:Int)then 63 else 0
def Dsk.write(D:Dsk)(a:Int)(b:List UInt8):Dsk:=if D.why a b=0 then D.put (.wr a b) b.length else D
def Dsk.free(D:Dsk)(a:Int):Dsk:=if(D.view a).isSome then D.put (.fr a) 0 else D
def Dsk.sync(D:Dsk):Dsk:={D with ground:=D.view,ng:=D.nv,pend:= []}
def Dsk.crash(D:Dsk)(l:List (Int×Int)):Dsk:=
 {D with ground:=(z0h l 0 D.pend (D.ground,D.ng)).1,ng:=(z0h l 0 D.pend (D.ground,D.ng)).2,view:=(z0h l 0 D.pend (D.ground,D.ng)).1,nv:=(z0h l 0 D.pend (D.ground,D.ng)).2,pend:= []}
theorem zF1(b old:List UInt8):z2C b old b.length=b:=by unfold z2C;rw [if_neg (by simp)]
structure FinL(f:SF)(n:Nat)(l:List (Int×List UInt8)):Prop where
 nodup:(l.map (·.1)).Nodup
 len:l.length=n
 look:∀a,(l.find? fun x=>x.1==a).map (·.2)=f a
theorem FinL.nil:FinL (fun _=>none) 0 []:=⟨by simp,rfl,fun _=>rfl⟩
theorem FinL.has{f:SF}{n:Nat}{l:List (Int×List UInt8)}(h:FinL f n l)(a:Int):(f a).isSome=true↔a∈l.map (·.1):=by
 rw [←h.look a];constructor
 ·intro hs;cases hf:l.find? (fun x=>x.1==a)with
  |none=>rw [hf]at hs;cases hs
  |some x=>
   have h1:=List.mem_of_find?_eq_some hf;have h2:=List.find?_some hf;simp only [beq_iff_eq]at h2;exact List.mem_map.2 ⟨x,h1,h2⟩
 ·intro hm;obtain⟨x,hx,rfl⟩:=List.mem_map.1 hm;cases hf:l.find? (fun y=>y.1==x.1)with
  |some y=>rfl
  |none=>have:=List.find?_eq_none.1 hf x hx;simp at this
theorem z4e{l:List (Int×List UInt8)}{a x:Int}(hne:x≠a):(l.filter fun y=>y.1 != a).find? (fun y=>y.1==x)=l.find? fun y=>y.1==x:=by
 induction l with
 |nil=>rfl
 |cons y r ih=>
  by_cases hy:y.1=a
  ·rw [List.filter_cons_of_neg (by simp [hy]),ih,List.find?_cons_of_neg (by simp [hy];exact fun e=>hne e.symm)]
  ·rw [List.filter_cons_of_pos (by simpa using hy)];by_cases hx:y.1=x
   ·rw [List.find?_cons_of_pos (by simpa using hx),List.find?_cons_of_pos (by simpa using hx)]
   ·rw [List.find?_cons_of_neg (by simpa using hx),List.find?_cons_of_neg (by simpa using hx),ih]
theorem z4f{l:List (Int×List UInt8)}{a:Int}:(l.filter fun y=>y.1 != a).find? (fun y=>y.1==a)=none:=by
 rw [List.find?_eq_none];intro y hy;have:=(List.mem_filter.1 hy).2;simpa using this
theorem zDi{l:List (Int×List UInt8)}{a:Int}(h:(l.map (·.1)).Nodup):(l.filter fun y=>y.1 != a).length=if a∈l.map (·.1)then l.length-1 else l.length:=by
 induction l with
 |nil=>simp
 |cons y r ih=>
  simp only [List.map_cons,List.nodup_cons]at h;have ih:=ih h.2;by_cases hy:y.1=a
  ·rw [List.filter_cons_of_neg (by simp [hy]),ih,if_neg (by rw [←hy];exact h.1),if_pos (by simp [hy])];simp
  ·rw [List.filter_cons_of_pos (by simpa using hy),List.length_cons,ih];have e:(a∈List.map (·.1) (y::r))↔a∈List.map (·.1) r:=by
    simp only [List.map_cons,List.mem_cons];exact⟨fun h=>h.resolve_left (fun e=>hy e.symm),.inr⟩
   by_cases hm:a∈List.map (·.1) r
   ·rw [if_pos hm,if_pos (e.2 hm),List.length_cons];have:0<r.length:=by
     cases r with
     |nil=>simp at hm
     |cons _ _=>simp
    omega
   ·rw [if_neg hm,if_neg (fun h=>hm (e.1 h)),List.length_cons]
theorem zAT{l:List (Int×List UInt8)}{a:Int}(h:(l.map (·.1)).Nodup):((l.filter fun y=>y.1 != a).map (·.1)).Nodup:=h.sublist (List.Sublist.map _ List.filter_sublist)
theorem FinL.del{f:SF}{n:Nat}{l:List (Int×List UInt8)}(h:FinL f n l)(a:Int):FinL (f.del a) (f.nDel n a) (l.filter fun y=>y.1 != a):=by
 refine⟨zAT h.nodup,?_,fun x=> ?_⟩
 ·rw [zDi h.nodup,h.len];unfold SF.nDel;by_cases hm:a∈l.map (·.1)
  ·rw [if_pos hm,if_pos ((h.has a).2 hm)]
  ·rw [if_neg hm,if_neg (fun e=>hm ((h.has a).1 e))]
 ·unfold SF.del;by_cases hx:x=a
  ·subst hx;rw [z4f,if_pos rfl];rfl
  ·rw [z4e hx,if_neg hx,h.look]
theorem FinL.put{f:SF}{n:Nat}{l:List (Int×List UInt8)}(h:FinL f n l)(a:Int)(b:List UInt8):FinL (f.put a b) (f.nPut n a) ((l.filter fun y=>y.1 != a)++ [(a,b)]):=by
 have hd:=h.del a;refine⟨?_,?_,fun x=> ?_⟩
 ·rw [List.map_append,List.nodup_append];refine⟨hd.nodup,by simp,fun x hx y hy=> ?_⟩;simp only [List.map_cons,List.map_nil,List.mem_singleton]at hy;subst hy;rintro rfl;obtain⟨z,hz,rfl⟩:=List.mem_map.1 hx;have:=(List.mem_filter.1 hz).2;simp at this
 ·rw [List.length_append,hd.len];unfold SF.nDel SF.nPut;by_cases hs:(f a).isSome=true
  ·rw [if_pos hs,if_pos hs];have hm:=(h.has a).1 hs;have:0<l.length:=by
    cases l with
    |nil=>simp at hm
    |cons _ _=>simp
   have:=h.len;simp;omega
  ·rw [if_neg hs,if_neg hs];simp
 ·rw [List.find?_append];unfold SF.put;by_cases hx:x=a
  ·subst hx;rw [z4f,if_pos rfl];simp
  ·rw [z4e hx,if_neg hx,←h.look x];cases l.find? (fun y=>y.1==x)with
   |some y=>rfl
   |none=>simp;exact fun e=>hx e.symm
end
end Go.Proofs.YthbhkdhljlganaaGreatDoor
