/- Part 19. -/
import Derived.Test.YthbhkdhljlganaaGreatDoorStoreWholeJ12
import Derived.Test.YthbhkdhljlganaaGreatDoorStoreWholeJ18
namespace Go.Proofs.YthbhkdhljlganaaGreatDoor
set_option linter.unusedVariables false
set_option maxHeartbeats 16000000
set_option maxRecDepth 100000
section
open Go Go.RowKit
section
variable {P:Pgr} {c:Int→List UInt8}
end
section
variable {w W W':World} {Z Z':Pz} {P P':Pgr} {c c':Int→List UInt8}
end
set_option linter.unusedSimpArgs false
theorem zB1{p:Pt}{w w':World}(h:zEM p w w'):Turn (fun b=>b=p.g) w w':=by
 obtain⟨cs,cs',h1,_,_,rfl⟩:=h;exact⟨rfl,rfl,rfl,by rw [z3k];exact Nat.le_refl _,fun b hb hn=>z2m w p.g cs' b hn⟩
section
variable {P:Program} {ops:Array Oper} {F:Nat→Prop} {pt:Pt} {ic:Nat} {w0:World}
section
variable {Q:Act→World→Prop} {a:Act} {o:Oper} {rest:List Oper} {Vs:List VP} {env:List (Value×VP)}
end
end
end
section
open Go Go.RowKit
set_option linter.unusedSimpArgs false
def coS(F:Nat→Prop)(ic i:Nat):World→World→Prop:=if i=ic then Turn F else fun w w'=>Below w.heap.size w w'
def coR(F:Nat→Prop)(ic:Nat)(w0:World):RegFr:=⟨coS F ic,fun j=>if j=ic then Below w0.heap.size w0 else Turn F w0,Turn F w0⟩
def VCo(F:Nat→Prop)(ic j:Nat)(V:VP):Prop:=Stays V∧(j≠ic→∀v w w',Turn F w w'→V v w→V v w')
def CoOk(F:Nat→Prop)(ic:Nat):Nat→List VP→Prop
 |_,[]=>True
 |j,V::Vs=>VCo F ic j V∧CoOk F ic (j+1) Vs
theorem coOk{F:Nat→Prop}{ic:Nat}:∀ {Vs:List VP} {n:Nat},CoOk F ic n Vs→∀j,j<Vs.length→VCo F ic (n+j) (vAt Vs j)
 |V::Vs,n,h,0,_=>h.1
 |V::Vs,n,h,j+1,hj=>by
  have:=coOk h.2 j (by simp only [List.length_cons]at hj;omega);rw [show n+1+j=n+(j+1)from by omega]at this;exact this
theorem VCo.is(F:Nat→Prop)(ic j:Nat)(c:Value):VCo F ic j (Is c):=⟨Stays.is c,fun _ _ _ _ _ h=>h⟩
section
variable {P:Program} {ops:Array Oper} {F:Nat→Prop} {ic:Nat} {w0:World}
theorem zCP:coS F ic ic=Turn F:=by unfold coS;rw [if_pos rfl]
theorem z9M{i:Nat}(h:i≠ic):coS F ic i=fun w w'=>Below w.heap.size w w':=by unfold coS;rw [if_neg h]
theorem zFM{i:Nat}{w w':World}(hS:coS F ic i w w')(hE:Turn F w0 w):Turn F w0 w':=by
 unfold coS at hS
 split at hS
 ·exact hE.trans hS fun b hb=> .inl hb
 ·exact hE.trans (Turn.of_below (F:=F) hS) fun b hb=> .inl hb
theorem coR_ok{Vs:List VP}(hlen:Vs.length=ops.size)(h:CoOk F ic 0 Vs):(coR F ic w0).Ok ops Vs:=by
 refine⟨fun i j hi hj hne hwt x w w' hS hv=> ?_,fun i j hi hj hne hwt w w' hS hC=> ?_,fun i hi w w' hS hE=>zFM hS hE⟩
 ·have h1:=coOk h j (by omega);rw [Nat.zero_add]at h1;have hS:coS F ic i w w':=hS;by_cases h2:i=ic
  ·subst h2;rw [zCP]at hS;exact h1.2 (Ne.symm hne) x w w' hS hv
  ·rw [z9M h2]at hS;exact h1.1 x w w' hS hv
 ·have hS:coS F ic i w w':=hS;simp only [coR]at hC ⊢;by_cases hj2:j=ic
  ·subst hj2;rw [if_pos rfl]at hC ⊢;rw [z9M hne]at hS;exact hC.trans (Below.mono hS hC.size)
  ·rw [if_neg hj2]at hC ⊢;exact zFM hS hC
theorem z63{id:Nat}{Q':Exit→Act→World→Prop}{l:List Oper}{a0:Act}(F:Nat→Prop)(ic:Nat)(hm:P.follows .mixedOrders=true)(hg:z3C l.toArray=true)
 (h:∃Vs,z1d P l.toArray (coR F ic w0) (fun a w=>Q' .normal a w) l Vs [] a0∧CoOk F ic 0 Vs∧Vs.length=l.length):(Code.region id l.toArray true).wp P Q' a0 w0:=by
 obtain⟨Vs,h0,hS,hlen⟩:=h;refine z3m l hm hg (coR_ok (by simpa using hlen) hS) hlen ((Turn.refl _ _).drew) (fun j _=> ?_) h0;simp only [coR]
 split
 ·exact(Below.refl _ _).drew
 ·exact(Turn.refl _ _).drew
section
variable {Q:Act→World→Prop} {a:Act} {o:Oper} {rest:List Oper} {Vs:List VP} {env:List (Value×VP)}
theorem z6h{V:VP}(hw:Region.wanted o (yielded ops a.tmps)=true)(hn:(env.length==ic)=false)
 (h1:∀w,Turn F w0 w→(∀e∈o.after,Region.binds .any e=true→∀ (x:Value) (W:VP),env[e.on]? =some (x,W)→W x w)→z06 P o a w V)
 (h2:∀x,(∃w,Turn F w0 w∧V x w)→∀K:Act→Prop,(∀a',z1d P ops (coR F ic w0) Q rest Vs (env++ [(x,V)]) a'→K a')→K (a.put o.dst x)):z1d P ops (coR F ic w0) Q (o::rest) (V::Vs) env a:=by
 have hn':env.length≠ic:=by simpa using hn
 refine⟨?_,fun x hx=>h2 x hx _ fun _ h=>h⟩;rw [if_pos hw];intro w hC hf;have hC:Turn F w0 w:=by
  simp only [coR]at hC;rw [if_neg hn']at hC;exact hC
 have h3:=h1 w hC hf;have eS:(coR F ic w0).S env.length=fun w w'=>Below w.heap.size w w':=z9M hn'
 rw [eS];unfold z06 at h3;unfold steps
 revert h3
 cases (execOp a.eval o).run P w with
 |ok n w'=>
  cases n<;>simp only [z0J,z0l]<;>first|exact fun h=>h|exact fun h=>h.2.mono fun e w'' ⟨v,he,hb,hv⟩=>⟨v,he,z1O h.1 hb,hv⟩
 |halt x w'=>simp only [z0J,z0l];exact fun h=>h
theorem z2F{c:Value}(hw:Region.wanted o (yielded ops a.tmps)=true)(hn:(env.length==ic)=false)
 (h1:∀w,Turn F w0 w→(∀e∈o.after,Region.binds .any e=true→∀ (x:Value) (W:VP),env[e.on]? =some (x,W)→W x w)→z06 P o a w (Is c))
 (h2:∀K:Act→Prop,(∀a',z1d P ops (coR F ic w0) Q rest Vs (env++ [(c,Is c)]) a'→K a')→K (a.put o.dst c)):z1d P ops (coR F ic w0) Q (o::rest) (Is c::Vs) env a:=
 z6h hw hn h1 fun x ⟨_,_,hx⟩=>by
  obtain rfl:x=c:=hx;exact h2
theorem zCE{V:VP}(hw:Region.wanted o (yielded ops a.tmps)=true)(hic:(env.length==ic)=true)
 (h1:∀w,Below w0.heap.size w0 w→(∀e∈o.after,Region.binds .any e=true→∀ (x:Value) (W:VP),env[e.on]? =some (x,W)→W x w)→steps P o a w (Turn F) V)
 (h2:∀x,(∃w,Turn F w0 w∧V x w)→∀K:Act→Prop,(∀a',z1d P ops (coR F ic w0) Q rest Vs (env++ [(x,V)]) a'→K a')→K (a.put o.dst x)):z1d P ops (coR F ic w0) Q (o::rest) (V::Vs) env a:=by
 obtain rfl:env.length=ic:=by simpa using hic
 refine⟨?_,fun x hx=>h2 x hx _ fun _ h=>h⟩;rw [if_pos hw];intro w hC hf;have hC:Below w0.heap.size w0 w:=by
  simp only [coR]at hC;rw [if_pos trivial]at hC;exact hC
 have eS:(coR F env.length w0).S env.length=Turn F:=zCP;rw [eS];exact h1 w hC hf
theorem zFN(h:∀w,Turn F w0 w→(∀ (j:Nat) (x:Value) (W:VP),env[j]? =some (x,W)→W x w)→Q a w):z1d P ops (coR F ic w0) Q [] [] env a:=h
end
end
end
section
open Go Go.RowKit
def fdV(x:Fd×Value):Value:= .agg #[.int .i64 (x.1.at':Int),.int .u64 (x.1.base:Int),.int .u64 (x.1.recs.length:Int),x.2]
theorem zEh:∀ (l:List (Fd×Value)) (j:Nat) (hj:j<l.length),(fcs l)[j*4]? =some (.int .i64 (l[j].1.at':Int))∧(fcs l)[j*4+1]? =some (.int .u64 (l[j].1.base:Int))∧(fcs l)[j*4+2]? =some (.int .u64 (l[j].1.recs.length:Int))∧(fcs l)[j*4+3]? =some l[j].2
 |x::xs,0,_=>⟨rfl,rfl,rfl,rfl⟩
 |x::xs,j+1,hj=>by
  have h:=zEh xs j (by simpa using hj);have e:fcs (x::xs)=fdC x++fcs xs:=rfl;have g:∀k,(fcs (x::xs))[(j+1)*4+k]? =(fcs xs)[j*4+k]? :=fun k=>by
   rw [e,List.getElem?_append_right (by simp [fdC];omega)]
   congr 1
   simp [fdC];omega
  refine⟨?_,?_,?_,?_⟩
  ·rw [show(j+1)*4=(j+1)*4+0 by omega,g];exact h.1
  ·rw [g];exact h.2.1
  ·rw [g];exact h.2.2.1
  ·rw [g];exact h.2.2.2
theorem Fs.at{w:World}{B:Nat}{v:Value}{l:List (Fd×Value)}(h:Fs w B v l):∃A c,v= .slice A l.length c∧l.length≤c∧c≤maxLen∧
 (0<l.length→∃b o,A=some ⟨b,o,none⟩∧b<w.heap.size∧z0H w b=some (some 192)∧∀j (hj:j<l.length),w.cell? ⟨b,o+j*4,none⟩=some (.int .i64 (l[j].1.at':Int))∧w.cell? ⟨b,o+j*4+1,none⟩=some (.int .u64 (l[j].1.base:Int))∧
   w.cell? ⟨b,o+j*4+2,none⟩=some (.int .u64 (l[j].1.recs.length:Int))∧w.cell? ⟨b,o+j*4+3,none⟩=some l[j].2):=by
 obtain⟨_,A,c,h2,h3,h4,h5,h6⟩:=KSl.of_own (by omega) h.own;refine⟨A,c,h2,h3,h4,fun hn=> ?_⟩;obtain⟨b,o,ha,hs,hc⟩:=h6 hn;refine⟨b,o,ha,z3B hs,hs,fun j hj=> ?_⟩;have hg:=zEh l j hj;refine⟨hc _ _ hg.1,?_,?_,?_⟩
 ·rw [Nat.add_assoc];exact hc _ _ hg.2.1
 ·rw [Nat.add_assoc];exact hc _ _ hg.2.2.1
 ·rw [Nat.add_assoc];exact hc _ _ hg.2.2.2
def z3y(live:List Sg)(last:Nat)(x:Fd):Bool:=decide (x.base=(last+1)%U64)&& !z0v live x.at'
theorem zFy(x:Fd×Value)(gp gl hg:Nat)(a:Int)(n size:Nat)(lv sv:Value)(last synced:Nat)(live:List Sg)(w:World)(hp:Blk w gp 64 #[.pointer (some ⟨gl,0,none⟩)])(hl:Lb w gl hg a n size lv sv last synced)(hs:Rg3 w lv live):
 Calls Tryz.prog 106 #[fdV x,.pointer (some ⟨gp,0,none⟩)] w fun e w'=>e= .returned (.bool (z3y live last x.1))∧Below w.heap.size w w':=by
 obtain⟨x,rv⟩:=x;unfold fdV;simp only;have qa:=(Below.refl w.heap.size w).alloc (Nat.le_refl _) (.cells #[.int .i64 (x.at':Int),.int .u64 (x.base:Int),.int .u64 (x.recs.length:Int),rv] 192);have HB:=zz (Blk.new w 192 #[.int .i64 (x.at':Int),.int .u64 (x.base:Int),.int .u64 (x.recs.length:Int),rv]);have HP:=zz (hp.later qa);have HL:Hid (Lb (w.alloc (.cells #[.int .i64 (x.at':Int),.int .u64 (x.base:Int),.int .u64 (x.recs.length:Int),rv] 192)) gl hg a n size lv sv last synced):=hl.later qa;have HS:=zz (KSl.later hs qa);have HQ:=zz qa;have hwr:IntKind.u64.wrap ((last:Int)+1)=(((last+1)%U64:Nat):Int):=by have:=z4i last 1;simpa using this
 clear hp hl hs qa;obtain⟨m,hm⟩:∃m,(last+1)%U64=m:=⟨_,rfl⟩;rw [hm]at hwr;by_cases hx:x.base=m
 ·have hg:z3y live last x= !z0v live x.at':=by unfold z3y;rw [hm,decide_eq_true hx,Bool.true_and]
  rw [hg];clear hg hm;subst hx;go_enter Tryz.func106,Tryz.ntmps106
  go_wp2_with fail
  generalize w.alloc _=w1 at*;have HW:=zz HQ.out.size;have b0:w1.cell? ⟨w.heap.size,0,none⟩=some (.int .i64 (x.at':Int)):=HB.out.cell 0;have b1:w1.cell? ⟨w.heap.size,1,none⟩=some (.int .u64 (x.base:Int)):=HB.out.cell 1;have p0:w1.cell? ⟨gp,0,none⟩=some (.pointer (some ⟨gl,0,none⟩)):=HP.out.cell 0;have l6:w1.cell? ⟨gl,6,none⟩=some (.int .u64 (last:Int)):=HL.out.cell 6;refine z0A (by kernel_rfl) (by kernel_rfl) ?_;apply Exists.intro;apply And.intro
  ·repeat(first
    |(apply z0a rfl
      intro K hK;go_simp;refine hK _ ?_;clear hK K)
    |(apply z0P rfl
      ·intro wg hwg _;have c0:=cell_later hwg b0;have c1:=cell_later hwg b1;have c2:=cell_later hwg p0;have c3:=cell_later hwg l6;unfold z06;go_simp
       first
        |exact z00 _ _
        |(exact z0x (z1z gl hg a n size x.at' lv sv last synced live wg (HL.out.later hwg) (KSl.later HS.out hwg)))
      intro K hK;go_simp;refine hK _ ?_;clear hK K))
   refine z0r (fun wg hwg _=> ?_);have qq:=zz (HQ.out.trans (hwg.mono HW.out));clear b0 b1 p0 l6 hwr;go_wp2_with fail
   go_ret
   exact⟨rfl,qq.out⟩
  ·apply And.intro
   ·repeat(first|exact trivial|(refine⟨Stays.is _,?_⟩)|(refine⟨Stays.bs _,?_⟩)|(refine⟨Stays.pg _ _ _,?_⟩))
   ·rfl
 ·have hg:z3y live last x=false:=by unfold z3y;rw [hm,decide_eq_false hx,Bool.false_and]
  have hxe:((x.base:Int)==(m:Int))=false:=by rw [beq_eq_false_iff_ne];omega
  rw [hg];clear hg hm hx;go_enter Tryz.func106,Tryz.ntmps106
  go_wp2_with fail
  generalize w.alloc _=w1 at*;have HW:=zz HQ.out.size;have b0:w1.cell? ⟨w.heap.size,0,none⟩=some (.int .i64 (x.at':Int)):=HB.out.cell 0;have b1:w1.cell? ⟨w.heap.size,1,none⟩=some (.int .u64 (x.base:Int)):=HB.out.cell 1;have p0:w1.cell? ⟨gp,0,none⟩=some (.pointer (some ⟨gl,0,none⟩)):=HP.out.cell 0;have l6:w1.cell? ⟨gl,6,none⟩=some (.int .u64 (last:Int)):=HL.out.cell 6;refine z0A (by kernel_rfl) (by kernel_rfl) ?_;apply Exists.intro;apply And.intro
  ·repeat(first
    |(apply z0a rfl
      intro K hK;go_simp;refine hK _ ?_;clear hK K)
    |(apply z0P rfl
      ·intro wg hwg _;have c0:=cell_later hwg b0;have c1:=cell_later hwg b1;have c2:=cell_later hwg p0;have c3:=cell_later hwg l6;unfold z06;go_simp
       first
        |exact z00 _ _
        |(exact z0x (z1z gl hg a n size x.at' lv sv last synced live wg (HL.out.later hwg) (KSl.later HS.out hwg)))
      intro K hK;go_simp;refine hK _ ?_;clear hK K))
   refine z0r (fun wg hwg _=> ?_);have qq:=zz (HQ.out.trans (hwg.mono HW.out));clear b0 b1 p0 l6 hwr;go_wp2_with fail
   go_ret
   exact⟨rfl,qq.out⟩
  ·apply And.intro
   ·repeat(first|exact trivial|(refine⟨Stays.is _,?_⟩)|(refine⟨Stays.bs _,?_⟩)|(refine⟨Stays.pg _ _ _,?_⟩))
   ·rfl
theorem z9y{α:Type}{p:α→Bool}{l:List α}{k:Nat}(hk:k<l.length)(h:(l.take k).find? p=none):(l.take (k+1)).find? p=if p l[k]then some l[k]else none:=by
 rw [List.take_add_one,List.getElem?_eq_getElem hk,List.find?_append,h];simp [List.find?_cons]
 split<;>simp_all
theorem zHe{α:Type}{p:α→Bool}{l:List α}{k:Nat}(hk:k<l.length)(h:(l.take k).find? p=none)(hp:p l[k]=true):l.find? p=some l[k]:=by
 conv=>lhs;rw [←List.take_append_drop (k+1) l]
 rw [List.find?_append,z9y hk h,if_pos hp];rfl
def FdAt(L:List (Fd×Value))(live:List Sg)(last:Nat)(r:Int):Prop:=
 (r= -1∧z7W (L.map Prod.fst) live last=none)∨∃ (j:Nat) (hj:j<L.length),r=(j:Int)∧z7W (L.map Prod.fst) live last=some L[j].1
theorem zBw(B:Nat)(v:Value)(L:List (Fd×Value))(gp gl hg:Nat)(a:Int)(n size:Nat)(lv sv:Value)(last synced:Nat)(live:List Sg)(w:World)(hp:Blk w gp 64 #[.pointer (some ⟨gl,0,none⟩)])(hl:Lb w gl hg a n size lv sv last synced)(hs:Rg3 w lv live)(hv:Fs w B v L):
 Calls Tryz.prog 105 #[v,.func (Fn.func 106) #[] #[.pointer (some ⟨gp,0,none⟩)]] w fun e w'=>∃r:Int,e= .returned (.int .i64 r)∧FdAt L live last r∧Below w.heap.size w w':=by
 obtain⟨A,c,rfl,hlc,hcm,hA⟩:=hv.at;have HA:=zz hA;have HP:=zz hp;have HL:=zz hl;have HS:=zz hs;have hm:L.length≤9223372036854775807:=by unfold maxLen at hcm;omega
 clear hp hl hs hv hA;go_enter Tryz.func105,Tryz.ntmps105
 go_wp2_with fail
 go_loopw [8] (fun kv wr=>∃k:Nat,kv= .int .i64 (k:Int)∧k≤L.length∧Hid (((L.map Prod.fst).take k).find? (z3y live last)=none)∧Hid (Below w.heap.size w wr)) (fun kv _=>L.length-(intOf kv).toNat)
 case atStart=>exact⟨0,rfl,Nat.zero_le _,rfl,Below.refl _ _⟩
 case round=>
  obtain⟨k,rfl,hk,HU,BL⟩:=hrel;by_cases hlt:k<L.length
  ·obtain⟨b,o,rfl,hbl,hkb,hcell⟩:=HA.out (by omega);obtain⟨k0,k1,k2,k3⟩:=hcell k hlt;have x0:=(BL.out.cell (p:=⟨b,o+k*4,none⟩) hbl).trans k0;have x1:=(BL.out.cell (p:=⟨b,o+k*4+1,none⟩) hbl).trans k1;have x2:=(BL.out.cell (p:=⟨b,o+k*4+2,none⟩) hbl).trans k2;have x3:=(BL.out.cell (p:=⟨b,o+k*4+3,none⟩) hbl).trans k3;have hlm:k<(L.map Prod.fst).length:=by rw [List.length_map];exact hlt
   have hgm:(L.map Prod.fst)[k]=L[k].1:=by simp
   have HT:Hid (((L.map Prod.fst).take (k+1)).find? (z3y live last)=if z3y live last L[k].1 then some L[k].1 else none):=by
    have:=z9y hlm HU.out;rw [hgm]at this;exact this
   have HH:Hid (z3y live last L[k].1=true→z7W (L.map Prod.fst) live last=some L[k].1):=fun h=>by
    have:=zHe hlm HU.out (by rw [hgm];exact h);rw [hgm]at this;exact this
   have HF:Hid (∀r:Int,r=(k:Int)→z3y live last L[k].1=true→FdAt L live last r):=fun r hr h=> .inr ⟨k,hlt,hr,HH.out h⟩
   clear hcell k0 k1 k2 k3 hgm HH;generalize L[k]=x at*;obtain⟨x,rv⟩:=x;simp only at x0 x1 x2 x3;go_wp2_with fail
   refine(zFy (x,rv) gp gl hg a n size lv sv last synced live wr (HP.out.later BL.out) (HL.out.later BL.out) (KSl.later HS.out BL.out)).mono ?_;rintro e w4 ⟨rfl,hb4⟩;have B4:=zz (BL.out.trans (hb4.mono BL.out.size));simp only at HF HT ⊢;cases hgo:z3y live last x with
   |true=>
    have HR:=zz (HF.out _ rfl hgo);clear hgo HF HT x0 x1 x2 x3;go_wp2_with fail
    go_ret
    exact⟨_,rfl,HR.out,B4.out⟩
   |false=>
    have HU2:Hid (((L.map Prod.fst).take (k+1)).find? (z3y live last)=none):=by
     have:=HT.out;rw [hgo]at this;exact this
    clear hgo HF HT x0 x1 x2 x3;go_wp2_with fail
    go_roundw
    case rel=>exact⟨k+1,by go_num,by omega,HU2,B4⟩
    case measure=>simp [intOf];omega
  ·obtain rfl:k=L.length:=by omega
   have hu:=HU.out;rw [List.take_of_length_le (by simp)]at hu;go_wp2_with fail
   go_ret
   exact⟨_,rfl,.inl ⟨rfl,hu⟩,BL.out⟩
theorem z13{ks:List (Option TypeId)}{e:TypeId}{size n B:Nat}{w w':World}{v:Value}{xs:List Value}(h:w.ownsRow B e size v n xs)(hs:SameK ks w w')(ht:some e∈ks):w'.ownsRow B e size v n xs:=by
 have hk:=fun b=>z1V (b:=b) h
 obtain⟨h1,h2⟩:=h;refine⟨h1,?_⟩;rcases h2 with h2|⟨g,cap,cur,hv,hg,hh,r⟩
 ·exact .inl h2
 ·exact .inr ⟨g,cap,cur,hv,hg,(hs g _ ht (hk g (by rw [hv];rfl))).trans hh,r⟩
def opKs:List (Option TypeId):= [some 192,some 131,some 64]
theorem Fs.same{w w':World}{B:Nat}{v:Value}{L:List (Fd×Value)}(h:Fs w B v L)(hs:SameK opKs w w'):Fs w' B v L:=
 ⟨z13 h.own hs (by decide),fun x hx=>⟨KSl.same (h.recs x hx).1 hs (by decide),(h.recs x hx).2⟩⟩
theorem zHn{f:SF}{a:Int}{size i q:Nat}{rs:List Rcd}(h:z1Q f a size i=some (q,rs)):q<U64:=by
 unfold z1Q z4G at h
 split at h
 ·rename_i hg
  split at h
  ·injection h with h
   injection h with h
   subst h;exact z8u hg
  ·cases h
 ·cases h
structure OpSt(w w9 wr:World)(hg:Nat)(a:Int)(n size:Nat)(lv:Value)(live:List Sg)(last:Nat)(ov:Value)(out:List Rcd):Prop where
 lb:Lb wr w.heap.size hg a n size lv (.slice none 0 0) last 0
 gp:Blk wr (w.heap.size+1) 64 #[.pointer (some ⟨w.heap.size,0,none⟩)]
 lown:wr.ownsRow w.heap.size 184 3 lv live.length (z3z live)
 same:SameK opKs w9 wr
 oown:wr.ownsRow w9.heap.size 131 2 ov out.length (rcs out)
 size:w9.heap.size≤wr.heap.size
 base:w.heap.size≤w9.heap.size
 below:Below w.heap.size w wr
section
variable {w w9 wr w2 w3 w4:World} {hg:Nat} {a:Int} {n size:Nat} {lv lv':Value} {live:List Sg} {last:Nat} {ov v4:Value} {out tk:List Rcd}
theorem OpSt.later(s:OpSt w w9 wr hg a n size lv live last ov out)(hb:Below wr.heap.size wr w2):OpSt w w9 w2 hg a n size lv live last ov out:=
 ⟨s.lb.later hb,s.gp.later hb,z1T s.lown hb,s.same.trans (SameK.below hb),z1T s.oown hb,Nat.le_trans s.size hb.size,s.base,s.below.trans (hb.mono s.below.size)⟩
theorem OpSt.drew(s:OpSt w w9 wr hg a n size lv live last ov out):OpSt w w9 wr.drew hg a n size lv live last ov out:=s.later (below_drewN (Below.refl _ _) 1)
theorem OpSt.next{x:Fd}(s:OpSt w w9 w2 hg a n size lv live last ov out)(hl3:Lb w3 w.heap.size hg a n size lv' (.slice none 0 0) x.last 0)(hlo:w3.ownsRow w.heap.size 184 3 lv' (live.length+1) (z3z (live++ [x.sg])))
 (hb:Below w.heap.size w2 w3) (hk:SameK opKs w2 w3) (hown4:w4.ownsRow w9.heap.size 131 2 v4 (out.length+tk.length) (rcs out++rcs tk)) (hg4:w3.grownBy w4 ov.ownBlock):
 OpSt w w9 w4 hg a n size lv' (live++ [x.sg]) x.last v4 (out++tk):=by
 have oo3:w3.ownsRow w9.heap.size 131 2 ov out.length (rcs out):=z13 s.oown hk (by decide);have hnk:∀z t,ov.ownBlock=some z→z0H w3 z=some t→t=some 131:=fun z t hz ht=>by
  have:=z1V oo3 hz;rw [this]at ht;injection ht with ht
  exact ht.symm
 have q3:Below w.heap.size w w3:=s.below.trans hb;refine⟨hl3.kept oo3 hg4 (by decide),(s.gp.sameK hk (by decide)).kept oo3 hg4 (by decide),?_,fun b t ht hb9=> ?_,?_,?_,s.base,?_⟩
 ·rw [List.length_append,List.length_singleton];exact z13 (ks:= [some 184]) hlo (SameK.grown hg4 fun z t hz ht=>by rw [hnk z t hz ht];decide) (by decide)
 ·have h1:=s.same b t ht hb9;have h2:=hk b t ht (zA8 h1 hb9);have hlt:=z3B hb9;have hz:w9.heap.size≤w3.heap.size:=Nat.le_trans s.size hb.size;have h3:=hg4.block b (by omega) (fun e=>by
   have:=(oo3.lt b e.symm).1;omega)
  exact h3.trans (h2.trans h1)
 ·rw [List.length_append,z5f];exact hown4
 ·exact Nat.le_trans (Nat.le_trans s.size hb.size) hg4.size
 ·exact z01 q3 (z29 oo3 s.base) hg4 q3.size
structure OpE(h h':Zn)(w wr:World)(a:Int)(n size:Nat)(lv:Value)(live:List Sg)(last synced:Nat)(ov:Value)(out:List Rcd):Prop where
 lb:Lb wr w.heap.size h.g a n size lv (.slice none 0 0) last synced
 gp:Blk wr (w.heap.size+1) 64 #[.pointer (some ⟨w.heap.size,0,none⟩)]
 lown:wr.ownsRow w.heap.size 184 3 lv live.length (z3z live)
 oown:wr.ownsRow w.heap.size 131 2 ov out.length (rcs out)
 st:Stp h w h' wr
theorem OpSt.fin{h:Zn}(s:OpSt w w9 wr h.g a n size lv live last ov out):OpE h h w wr a n size lv live last 0 ov out:=
 ⟨s.lb,s.gp,s.lown,z29 s.oown s.base,Stp.below s.below⟩
theorem OpE.step{h h1 h2:Zn}{w1:World}{D1:Dsk}{synced:Nat}(s:OpE h h1 w w1 a n size lv live last synced ov out)(d:Dk w1 h1 D1)(st:Stp h1 w1 h2 w2):OpE h h2 w w2 a n size lv live last synced ov out:=
 have hs:SameK [some 184,some 131] w1 w2:=st.same d (by decide) (by decide) (by decide)
 ⟨st.lb d s.lb,st.blk d s.gp (by decide) (by decide),z13 s.lown hs (by decide),z13 s.oown hs (by decide),s.st.trans st⟩
theorem OpE.later{h h1:Zn}{w1:World}{synced:Nat}(s:OpE h h1 w w1 a n size lv live last synced ov out)(hb:Below w1.heap.size w1 w2):OpE h h1 w w2 a n size lv live last synced ov out:=
 ⟨s.lb.later hb,s.gp.later hb,z1T s.lown hb,z1T s.oown hb,s.st.trans (Stp.below hb)⟩
theorem OpE.put{h h1:Zn}{w1:World}{D1:Dsk}{synced m:Nat}(s:OpE h h1 w w1 a n size lv live last synced ov out)(d:Dk w1 h1 D1):
 OpE h h1 w (w1.setCell ⟨w.heap.size,6,none⟩ (.int .u64 (m:Int))) a n size lv live m synced ov out∧Dk (w1.setCell ⟨w.heap.size,6,none⟩ (.int .u64 (m:Int))) h1 D1:=
 have hs:SameK [some 184,some 131,some 64] w1 (w1.setCell ⟨w.heap.size,6,none⟩ (.int .u64 (m:Int))):=SameK.setCell (p:=⟨w.heap.size,6,none⟩) s.lb (by decide) _
 ⟨⟨s.lb.put 6 _,s.gp.sameK hs (by decide),z13 s.lown hs (by decide),z13 s.oown hs (by decide),⟨s.st.g,s.st.turn.setCell (p:=⟨w.heap.size,6,none⟩) (.inr (Nat.le_refl _)) _,s.st.has⟩⟩,
  d.same (SameK.setCell (p:=⟨w.heap.size,6,none⟩) s.lb (by decide) _)⟩
theorem OpE.sync{h h1 h2:Zn}{w1:World}{D1:Dsk}{synced:Nat}(s:OpE h h1 w w1 a n size lv live last synced ov out)(d:Dk w1 h1 D1)(hl:Lb w2 w.heap.size h.g a n size lv (.slice none 0 0) last last)(m:Mtp h1 w.heap.size w1 h2 w2):
 OpE h h2 w w2 a n size lv live last last ov out:=by
 have hs:SameK [some 184,some 131,some 64] w1 w2:=m.sameL d s.lb (by decide) (by decide) (by decide) (by decide);refine⟨hl,s.gp.sameK hs (by decide),z13 s.lown hs (by decide),z13 s.oown hs (by decide),m.g.trans s.st.g,s.st.turn.trans m.turn fun b hb=> ?_,fun b hb=> ?_⟩
 ·rcases hb with hb|rfl
  ·exact s.st.has b hb
  ·exact .inr (Nat.le_refl _)
 ·rcases m.has b hb with h3|h3
  ·exact s.st.has b h3
  ·exact .inr (Nat.le_trans s.st.turn.size h3)
end
end
end Go.Proofs.YthbhkdhljlganaaGreatDoor
