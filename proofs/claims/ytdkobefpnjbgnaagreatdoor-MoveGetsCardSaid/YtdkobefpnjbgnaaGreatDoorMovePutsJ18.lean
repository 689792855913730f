/- Part 18. -/
import Derived.Test.YtdkobefpnjbgnaaGreatDoorMovePutsJ17
namespace Go.Proofs.YtdkobefpnjbgnaaGreatDoor
set_option linter.unusedVariables false
set_option maxHeartbeats 16000000
set_option maxRecDepth 100000
section
open Go Go.RowKit
def fdV(x:Fd×Value):Value:= .agg #[.int .i64 (x.1.at':Int),.int .u64 (x.1.base:Int),.int .u64 (x.1.recs.length:Int),x.2]
theorem zGD:∀ (l:List (Fd×Value)) (j:Nat) (hj:j<l.length),(fcs l)[j*4]? =some (.int .i64 (l[j].1.at':Int))∧(fcs l)[j*4+1]? =some (.int .u64 (l[j].1.base:Int))∧(fcs l)[j*4+2]? =some (.int .u64 (l[j].1.recs.length:Int))∧(fcs l)[j*4+3]? =some l[j].2
 |x::xs,0,_=>⟨rfl,rfl,rfl,rfl⟩
 |x::xs,j+1,hj=>by
  have h:=zGD xs j (by simpa using hj);have e:fcs (x::xs)=fdC x++fcs xs:=rfl;have g:∀k,(fcs (x::xs))[(j+1)*4+k]? =(fcs xs)[j*4+k]? :=fun k=>by
   rw [e,List.getElem?_append_right (by simp [fdC];omega)]
   congr 1
   simp [fdC];omega
  refine⟨?_,?_,?_,?_⟩
  ·rw [show(j+1)*4=(j+1)*4+0 by omega,g];exact h.1
  ·rw [g];exact h.2.1
  ·rw [g];exact h.2.2.1
  ·rw [g];exact h.2.2.2
theorem Fs.at{w:World}{B:Nat}{v:Value}{l:List (Fd×Value)}(h:Fs w B v l):∃A c,v= .slice A l.length c∧l.length≤c∧c≤maxLen∧
 (0<l.length→∃b o,A=some ⟨b,o,none⟩∧b<w.heap.size∧z0E w b=some (some 225)∧∀j (hj:j<l.length),w.cell? ⟨b,o+j*4,none⟩=some (.int .i64 (l[j].1.at':Int))∧w.cell? ⟨b,o+j*4+1,none⟩=some (.int .u64 (l[j].1.base:Int))∧
   w.cell? ⟨b,o+j*4+2,none⟩=some (.int .u64 (l[j].1.recs.length:Int))∧w.cell? ⟨b,o+j*4+3,none⟩=some l[j].2):=by
 obtain⟨_,A,c,h2,h3,h4,h5,h6⟩:=KSl.of_own (by omega) h.own;refine⟨A,c,h2,h3,h4,fun hn=> ?_⟩;obtain⟨b,o,ha,hs,hc⟩:=h6 hn;refine⟨b,o,ha,z2Z hs,hs,fun j hj=> ?_⟩;have hg:=zGD l j hj;refine⟨hc _ _ hg.1,?_,?_,?_⟩
 ·rw [Nat.add_assoc];exact hc _ _ hg.2.1
 ·rw [Nat.add_assoc];exact hc _ _ hg.2.2.1
 ·rw [Nat.add_assoc];exact hc _ _ hg.2.2.2
def z3F(live:List Sg)(last:Nat)(x:Fd):Bool:=decide (x.base=(last+1)%U64)&& !z1O live x.at'
theorem zG8(x:Fd×Value)(gp gl hg:Nat)(a:Int)(n size:Nat)(lv sv:Value)(last synced:Nat)(live:List Sg)(w:World)(hp:Blk w gp 116 #[.pointer (some ⟨gl,0,none⟩)])(hl:Lb w gl hg a n size lv sv last synced)(hs:Rg3 w lv live):
 Calls Tryz.prog 123 #[fdV x,.pointer (some ⟨gp,0,none⟩)] w fun e w'=>e= .returned (.bool (z3F live last x.1))∧Below w.heap.size w w':=by
 obtain⟨x,rv⟩:=x;unfold fdV;simp only;have qa:=(Below.refl w.heap.size w).alloc (Nat.le_refl _) (.cells #[.int .i64 (x.at':Int),.int .u64 (x.base:Int),.int .u64 (x.recs.length:Int),rv] 225);have HB:=zz (Blk.new w 225 #[.int .i64 (x.at':Int),.int .u64 (x.base:Int),.int .u64 (x.recs.length:Int),rv]);have HP:=zz (hp.later qa);have HL:Hid (Lb (w.alloc (.cells #[.int .i64 (x.at':Int),.int .u64 (x.base:Int),.int .u64 (x.recs.length:Int),rv] 225)) gl hg a n size lv sv last synced):=hl.later qa;have HS:=zz (KSl.later hs qa);have HQ:=zz qa;have hwr:IntKind.u64.wrap ((last:Int)+1)=(((last+1)%U64:Nat):Int):=by have:=z4P last 1;simpa using this
 clear hp hl hs qa;obtain⟨m,hm⟩:∃m,(last+1)%U64=m:=⟨_,rfl⟩;rw [hm]at hwr;by_cases hx:x.base=m
 ·have hg:z3F live last x= !z1O live x.at':=by unfold z3F;rw [hm,decide_eq_true hx,Bool.true_and]
  rw [hg];clear hg hm;subst hx;go_enter Tryz.func123,Tryz.ntmps123
  go_wp2_with fail
  generalize w.alloc _=w1 at*;have HW:=zz HQ.out.size;have b0:w1.cell? ⟨w.heap.size,0,none⟩=some (.int .i64 (x.at':Int)):=HB.out.cell 0;have b1:w1.cell? ⟨w.heap.size,1,none⟩=some (.int .u64 (x.base:Int)):=HB.out.cell 1;have p0:w1.cell? ⟨gp,0,none⟩=some (.pointer (some ⟨gl,0,none⟩)):=HP.out.cell 0;have l6:w1.cell? ⟨gl,6,none⟩=some (.int .u64 (last:Int)):=HL.out.cell 6;refine z01 (by kernel_rfl) (by kernel_rfl) ?_;apply Exists.intro;apply And.intro
  ·repeat(first
    |(apply z04 rfl
      intro K hK;go_simp;refine hK _ ?_;clear hK K)
    |(apply z09 rfl
      ·intro wg hwg _;have c0:=cell_later hwg b0;have c1:=cell_later hwg b1;have c2:=cell_later hwg p0;have c3:=cell_later hwg l6;unfold z07;go_simp
       first
        |exact z00 _ _
        |(exact z0C (z1j gl hg a n size x.at' lv sv last synced live wg (HL.out.later hwg) (KSl.later HS.out hwg)))
      intro K hK;go_simp;refine hK _ ?_;clear hK K))
   refine z08 (fun wg hwg _=> ?_);have qq:=zz (HQ.out.trans (hwg.mono HW.out));clear b0 b1 p0 l6 hwr;go_wp2_with fail
   go_ret
   exact⟨rfl,qq.out⟩
  ·apply And.intro
   ·repeat(first|exact trivial|(refine⟨Stays.is _,?_⟩)|(refine⟨Stays.bs _,?_⟩)|(refine⟨Stays.pg _ _ _,?_⟩))
   ·rfl
 ·have hg:z3F live last x=false:=by unfold z3F;rw [hm,decide_eq_false hx,Bool.false_and]
  have hxe:((x.base:Int)==(m:Int))=false:=by rw [beq_eq_false_iff_ne];omega
  rw [hg];clear hg hm hx;go_enter Tryz.func123,Tryz.ntmps123
  go_wp2_with fail
  generalize w.alloc _=w1 at*;have HW:=zz HQ.out.size;have b0:w1.cell? ⟨w.heap.size,0,none⟩=some (.int .i64 (x.at':Int)):=HB.out.cell 0;have b1:w1.cell? ⟨w.heap.size,1,none⟩=some (.int .u64 (x.base:Int)):=HB.out.cell 1;have p0:w1.cell? ⟨gp,0,none⟩=some (.pointer (some ⟨gl,0,none⟩)):=HP.out.cell 0;have l6:w1.cell? ⟨gl,6,none⟩=some (.int .u64 (last:Int)):=HL.out.cell 6;refine z01 (by kernel_rfl) (by kernel_rfl) ?_;apply Exists.intro;apply And.intro
  ·repeat(first
    |(apply z04 rfl
      intro K hK;go_simp;refine hK _ ?_;clear hK K)
    |(apply z09 rfl
      ·intro wg hwg _;have c0:=cell_later hwg b0;have c1:=cell_later hwg b1;have c2:=cell_later hwg p0;have c3:=cell_later hwg l6;unfold z07;go_simp
       first
        |exact z00 _ _
        |(exact z0C (z1j gl hg a n size x.at' lv sv last synced live wg (HL.out.later hwg) (KSl.later HS.out hwg)))
      intro K hK;go_simp;refine hK _ ?_;clear hK K))
   refine z08 (fun wg hwg _=> ?_);have qq:=zz (HQ.out.trans (hwg.mono HW.out));clear b0 b1 p0 l6 hwr;go_wp2_with fail
   go_ret
   exact⟨rfl,qq.out⟩
  ·apply And.intro
   ·repeat(first|exact trivial|(refine⟨Stays.is _,?_⟩)|(refine⟨Stays.bs _,?_⟩)|(refine⟨Stays.pg _ _ _,?_⟩))
   ·rfl
theorem z9c{α:Type}{p:α→Bool}{l:List α}{k:Nat}(hk:k<l.length)(h:(l.take k).find? p=none):(l.take (k+1)).find? p=if p l[k]then some l[k]else none:=by
 rw [List.take_add_one,List.getElem?_eq_getElem hk,List.find?_append,h];simp [List.find?_cons]
 split<;>simp_all
theorem zH1{α:Type}{p:α→Bool}{l:List α}{k:Nat}(hk:k<l.length)(h:(l.take k).find? p=none)(hp:p l[k]=true):l.find? p=some l[k]:=by
 conv=>lhs;rw [←List.take_append_drop (k+1) l]
 rw [List.find?_append,z9c hk h,if_pos hp];rfl
def FdAt(L:List (Fd×Value))(live:List Sg)(last:Nat)(r:Int):Prop:=
 (r= -1∧zAG (L.map Prod.fst) live last=none)∨∃ (j:Nat) (hj:j<L.length),r=(j:Int)∧zAG (L.map Prod.fst) live last=some L[j].1
theorem zAg(B:Nat)(v:Value)(L:List (Fd×Value))(gp gl hg:Nat)(a:Int)(n size:Nat)(lv sv:Value)(last synced:Nat)(live:List Sg)(w:World)(hp:Blk w gp 116 #[.pointer (some ⟨gl,0,none⟩)])(hl:Lb w gl hg a n size lv sv last synced)(hs:Rg3 w lv live)(hv:Fs w B v L):
 Calls Tryz.prog 122 #[v,.func (Fn.func 123) #[] #[.pointer (some ⟨gp,0,none⟩)]] w fun e w'=>∃r:Int,e= .returned (.int .i64 r)∧FdAt L live last r∧Below w.heap.size w w':=by
 obtain⟨A,c,rfl,hlc,hcm,hA⟩:=hv.at;have HA:=zz hA;have HP:=zz hp;have HL:=zz hl;have HS:=zz hs;have hm:L.length≤9223372036854775807:=by unfold maxLen at hcm;omega
 clear hp hl hs hv hA;go_enter Tryz.func122,Tryz.ntmps122
 go_wp2_with fail
 go_loopw [8] (fun kv wr=>∃k:Nat,kv= .int .i64 (k:Int)∧k≤L.length∧Hid (((L.map Prod.fst).take k).find? (z3F live last)=none)∧Hid (Below w.heap.size w wr)) (fun kv _=>L.length-(intOf kv).toNat)
 case atStart=>exact⟨0,rfl,Nat.zero_le _,rfl,Below.refl _ _⟩
 case round=>
  obtain⟨k,rfl,hk,HU,BL⟩:=hrel;by_cases hlt:k<L.length
  ·obtain⟨b,o,rfl,hbl,hkb,hcell⟩:=HA.out (by omega);obtain⟨k0,k1,k2,k3⟩:=hcell k hlt;have x0:=(BL.out.cell (p:=⟨b,o+k*4,none⟩) hbl).trans k0;have x1:=(BL.out.cell (p:=⟨b,o+k*4+1,none⟩) hbl).trans k1;have x2:=(BL.out.cell (p:=⟨b,o+k*4+2,none⟩) hbl).trans k2;have x3:=(BL.out.cell (p:=⟨b,o+k*4+3,none⟩) hbl).trans k3;have hlm:k<(L.map Prod.fst).length:=by rw [List.length_map];exact hlt
   have hgm:(L.map Prod.fst)[k]=L[k].1:=by simp
   have HT:Hid (((L.map Prod.fst).take (k+1)).find? (z3F live last)=if z3F live last L[k].1 then some L[k].1 else none):=by
    have:=z9c hlm HU.out;rw [hgm]at this;exact this
   have HH:Hid (z3F live last L[k].1=true→zAG (L.map Prod.fst) live last=some L[k].1):=fun h=>by
    have:=zH1 hlm HU.out (by rw [hgm];exact h);rw [hgm]at this;exact this
   have HF:Hid (∀r:Int,r=(k:Int)→z3F live last L[k].1=true→FdAt L live last r):=fun r hr h=> .inr ⟨k,hlt,hr,HH.out h⟩
   clear hcell k0 k1 k2 k3 hgm HH;generalize L[k]=x at*;obtain⟨x,rv⟩:=x;simp only at x0 x1 x2 x3;go_wp2_with fail
   refine(zG8 (x,rv) gp gl hg a n size lv sv last synced live wr (HP.out.later BL.out) (HL.out.later BL.out) (KSl.later HS.out BL.out)).mono ?_;rintro e w4 ⟨rfl,hb4⟩;have B4:=zz (BL.out.trans (hb4.mono BL.out.size));simp only at HF HT ⊢;cases hgo:z3F live last x with
   |true=>
    have HR:=zz (HF.out _ rfl hgo);clear hgo HF HT x0 x1 x2 x3;go_wp2_with fail
    go_ret
    exact⟨_,rfl,HR.out,B4.out⟩
   |false=>
    have HU2:Hid (((L.map Prod.fst).take (k+1)).find? (z3F live last)=none):=by
     have:=HT.out;rw [hgo]at this;exact this
    clear hgo HF HT x0 x1 x2 x3;go_wp2_with fail
    go_roundw
    case rel=>exact⟨k+1,by go_num,by omega,HU2,B4⟩
    case measure=>simp [intOf];omega
  ·obtain rfl:k=L.length:=by omega
   have hu:=HU.out;rw [List.take_of_length_le (by simp)]at hu;go_wp2_with fail
   go_ret
   exact⟨_,rfl,.inl ⟨rfl,hu⟩,BL.out⟩
theorem z0q{ks:List (Option TypeId)}{e:TypeId}{size n B:Nat}{w w':World}{v:Value}{xs:List Value}(h:w.ownsRow B e size v n xs)(hs:SameK ks w w')(ht:some e∈ks):w'.ownsRow B e size v n xs:=by
 have hk:=fun b=>z1E (b:=b) h
 obtain⟨h1,h2⟩:=h;refine⟨h1,?_⟩;rcases h2 with h2|⟨g,cap,cur,hv,hg,hh,r⟩
 ·exact .inl h2
 ·exact .inr ⟨g,cap,cur,hv,hg,(hs g _ ht (hk g (by rw [hv];rfl))).trans hh,r⟩
def opKs:List (Option TypeId):= [some 225,some 173,some 116]
theorem Fs.same{w w':World}{B:Nat}{v:Value}{L:List (Fd×Value)}(h:Fs w B v L)(hs:SameK opKs w w'):Fs w' B v L:=
 ⟨z0q h.own hs (by decide),fun x hx=>⟨KSl.same (h.recs x hx).1 hs (by decide),(h.recs x hx).2⟩⟩
theorem zGV{f:SF}{a:Int}{size i q:Nat}{rs:List Rcd}(h:z3K f a size i=some (q,rs)):q<U64:=by
 unfold z3K z7V at h
 split at h
 ·rename_i hg
  split at h
  ·injection h with h
   injection h with h
   subst h;exact z7d hg
  ·cases h
 ·cases h
structure OpSt(w w9 wr:World)(hg:Nat)(a:Int)(n size:Nat)(lv:Value)(live:List Sg)(last:Nat)(ov:Value)(out:List Rcd):Prop where
 lb:Lb wr w.heap.size hg a n size lv (.slice none 0 0) last 0
 gp:Blk wr (w.heap.size+1) 116 #[.pointer (some ⟨w.heap.size,0,none⟩)]
 lown:wr.ownsRow w.heap.size 223 3 lv live.length (z3H live)
 same:SameK opKs w9 wr
 oown:wr.ownsRow w9.heap.size 173 2 ov out.length (rcs out)
 size:w9.heap.size≤wr.heap.size
 base:w.heap.size≤w9.heap.size
 below:Below w.heap.size w wr
section
variable {w w9 wr w2 w3 w4:World} {hg:Nat} {a:Int} {n size:Nat} {lv lv':Value} {live:List Sg} {last:Nat} {ov v4:Value} {out tk:List Rcd}
theorem OpSt.later(s:OpSt w w9 wr hg a n size lv live last ov out)(hb:Below wr.heap.size wr w2):OpSt w w9 w2 hg a n size lv live last ov out:=
 ⟨s.lb.later hb,s.gp.later hb,z19 s.lown hb,s.same.trans (SameK.below hb),z19 s.oown hb,Nat.le_trans s.size hb.size,s.base,s.below.trans (hb.mono s.below.size)⟩
theorem OpSt.drew(s:OpSt w w9 wr hg a n size lv live last ov out):OpSt w w9 wr.drew hg a n size lv live last ov out:=s.later (below_drewN (Below.refl _ _) 1)
theorem OpSt.next{x:Fd}(s:OpSt w w9 w2 hg a n size lv live last ov out)(hl3:Lb w3 w.heap.size hg a n size lv' (.slice none 0 0) x.last 0)(hlo:w3.ownsRow w.heap.size 223 3 lv' (live.length+1) (z3H (live++ [x.sg])))
 (hb:Below w.heap.size w2 w3) (hk:SameK opKs w2 w3) (hown4:w4.ownsRow w9.heap.size 173 2 v4 (out.length+tk.length) (rcs out++rcs tk)) (hg4:w3.grownBy w4 ov.ownBlock):
 OpSt w w9 w4 hg a n size lv' (live++ [x.sg]) x.last v4 (out++tk):=by
 have oo3:w3.ownsRow w9.heap.size 173 2 ov out.length (rcs out):=z0q s.oown hk (by decide);have hnk:∀z t,ov.ownBlock=some z→z0E w3 z=some t→t=some 173:=fun z t hz ht=>by
  have:=z1E oo3 hz;rw [this]at ht;injection ht with ht
  exact ht.symm
 have q3:Below w.heap.size w w3:=s.below.trans hb;refine⟨hl3.kept oo3 hg4 (by decide),(s.gp.sameK hk (by decide)).kept oo3 hg4 (by decide),?_,fun b t ht hb9=> ?_,?_,?_,s.base,?_⟩
 ·rw [List.length_append,List.length_singleton];exact z0q (ks:= [some 223]) hlo (SameK.grown hg4 fun z t hz ht=>by rw [hnk z t hz ht];decide) (by decide)
 ·have h1:=s.same b t ht hb9;have h2:=hk b t ht (z9u h1 hb9);have hlt:=z2Z hb9;have hz:w9.heap.size≤w3.heap.size:=Nat.le_trans s.size hb.size;have h3:=hg4.block b (by omega) (fun e=>by
   have:=(oo3.lt b e.symm).1;omega)
  exact h3.trans (h2.trans h1)
 ·rw [List.length_append,z5P];exact hown4
 ·exact Nat.le_trans (Nat.le_trans s.size hb.size) hg4.size
 ·exact z02 q3 (z2m oo3 s.base) hg4 q3.size
structure OpE(h h':Zn)(w wr:World)(a:Int)(n size:Nat)(lv:Value)(live:List Sg)(last synced:Nat)(ov:Value)(out:List Rcd):Prop where
 lb:Lb wr w.heap.size h.g a n size lv (.slice none 0 0) last synced
 gp:Blk wr (w.heap.size+1) 116 #[.pointer (some ⟨w.heap.size,0,none⟩)]
 lown:wr.ownsRow w.heap.size 223 3 lv live.length (z3H live)
 oown:wr.ownsRow w.heap.size 173 2 ov out.length (rcs out)
 st:Stp h w h' wr
theorem OpSt.fin{h:Zn}(s:OpSt w w9 wr h.g a n size lv live last ov out):OpE h h w wr a n size lv live last 0 ov out:=
 ⟨s.lb,s.gp,s.lown,z2m s.oown s.base,Stp.below s.below⟩
theorem OpE.step{h h1 h2:Zn}{w1:World}{D1:Dsk}{synced:Nat}(s:OpE h h1 w w1 a n size lv live last synced ov out)(d:Dk w1 h1 D1)(st:Stp h1 w1 h2 w2):OpE h h2 w w2 a n size lv live last synced ov out:=
 have hs:SameK [some 223,some 173] w1 w2:=st.same d (by decide) (by decide) (by decide)
 ⟨st.lb d s.lb,st.blk d s.gp (by decide) (by decide),z0q s.lown hs (by decide),z0q s.oown hs (by decide),s.st.trans st⟩
theorem OpE.later{h h1:Zn}{w1:World}{synced:Nat}(s:OpE h h1 w w1 a n size lv live last synced ov out)(hb:Below w1.heap.size w1 w2):OpE h h1 w w2 a n size lv live last synced ov out:=
 ⟨s.lb.later hb,s.gp.later hb,z19 s.lown hb,z19 s.oown hb,s.st.trans (Stp.below hb)⟩
theorem OpE.put{h h1:Zn}{w1:World}{D1:Dsk}{synced m:Nat}(s:OpE h h1 w w1 a n size lv live last synced ov out)(d:Dk w1 h1 D1):
 OpE h h1 w (w1.setCell ⟨w.heap.size,6,none⟩ (.int .u64 (m:Int))) a n size lv live m synced ov out∧Dk (w1.setCell ⟨w.heap.size,6,none⟩ (.int .u64 (m:Int))) h1 D1:=
 have hs:SameK [some 223,some 173,some 116] w1 (w1.setCell ⟨w.heap.size,6,none⟩ (.int .u64 (m:Int))):=SameK.setCell (p:=⟨w.heap.size,6,none⟩) s.lb (by decide) _
 ⟨⟨s.lb.put 6 _,s.gp.sameK hs (by decide),z0q s.lown hs (by decide),z0q s.oown hs (by decide),⟨s.st.g,s.st.turn.setCell (p:=⟨w.heap.size,6,none⟩) (.inr (Nat.le_refl _)) _,s.st.has⟩⟩,
  d.same (SameK.setCell (p:=⟨w.heap.size,6,none⟩) s.lb (by decide) _)⟩
theorem OpE.sync{h h1 h2:Zn}{w1:World}{D1:Dsk}{synced:Nat}(s:OpE h h1 w w1 a n size lv live last synced ov out)(d:Dk w1 h1 D1)(hl:Lb w2 w.heap.size h.g a n size lv (.slice none 0 0) last last)(m:Mtp h1 w.heap.size w1 h2 w2):
 OpE h h2 w w2 a n size lv live last last ov out:=by
 have hs:SameK [some 223,some 173,some 116] w1 w2:=m.sameL d s.lb (by decide) (by decide) (by decide) (by decide);refine⟨hl,s.gp.sameK hs (by decide),z0q s.lown hs (by decide),z0q s.oown hs (by decide),m.g.trans s.st.g,s.st.turn.trans m.turn fun b hb=> ?_,fun b hb=> ?_⟩
 ·rcases hb with hb|rfl
  ·exact s.st.has b hb
  ·exact .inr (Nat.le_refl _)
 ·rcases m.has b hb with h3|h3
  ·exact s.st.has b h3
  ·exact .inr (Nat.le_trans s.st.turn.size h3)
end
end
end Go.Proofs.YtdkobefpnjbgnaaGreatDoor
