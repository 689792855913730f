/- Part 5. -/
import Derived.Test.YthbhkdhljlganaaGreatDoorStoreWholeJ4
import Derived.BigRegion
import Derived.IntWalk
import Derived.Laws.EntriesVeiled
import Derived.Lib.TrailingZeros
namespace Go.Proofs.YthbhkdhljlganaaGreatDoor
set_option linter.unusedVariables false
set_option maxHeartbeats 16000000
set_option maxRecDepth 100000
section
open Go Go.RowKit
def z2d:Option (List UInt8)→Option (Nat×List UInt8)
 |some s=>z7G s
 |none=>none
def zEN(f:SF)(a:Int)(w:World)(e:Ending)(w':World):Prop:=
 ∃ (r:Nat×List UInt8) (ok:Bool),e= .returned (.tuple #[zCg r,.bool ok])∧z2d (f a)=(if ok then some r else none)∧Below w.heap.size w w'
theorem z9o{f:SF}{a:Int}(r:Nat×List UInt8){w w':World}(h:z2d (f a)=none)(hb:Below w.heap.size w w'):zEN f a w (.returned (.tuple #[zCg r,.bool false])) w':=⟨r,false,rfl,h,hb⟩
theorem zJC{f:SF}{a:Int}(r:Nat×List UInt8){w w':World}(h:z2d (f a)=some r)(hb:Below w.heap.size w w'):zEN f a w (.returned (.tuple #[zCg r,.bool true])) w':=⟨r,true,rfl,h,hb⟩
theorem zAF{W:World}{g:Nat}{t:TypeId}{a b:Value}(h:Blk W g t #[a,b])(x y:Value):Blk ((W.setCell ⟨g,0,none⟩ x).setCell ⟨g,1,none⟩ y).drew g t #[x,y]:=(h.put 0 x).put 1 y
theorem z5S{B:Nat}{w W:World}(h:Below B w W){g:Nat}(hg:B≤g)(x y:Value):Below B w ((W.setCell ⟨g,0,none⟩ x).setCell ⟨g,1,none⟩ y).drew:=((h.setCell (p:=⟨g,0,none⟩) hg x).setCell (p:=⟨g,1,none⟩) hg y).drew
theorem zEE{f:SF}{a:Int}{s:List UInt8}(hv:f a=some s):z2d (f a)=z7G s:=by rw [hv];rfl
theorem zDG(h:Zn)(D:Dsk)(a:Int)(w:World)(hd:Dk w h D)(hok:D.Ok)(ha:InI a):
 Calls Tryz.prog 75 #[.pointer (some ⟨h.g,0,none⟩),.int .i64 a] w (zEN D.view a w):=by
 have HD:=zz hd;have HOK:=zz hok;have b0:=Blk.new w 131 #[.int .u64 0,.string ⟨#[]⟩];have q0:=(Below.refl w.heap.size w).alloc (Nat.le_refl _) (.cells #[.int .u64 0,.string ⟨#[]⟩] 131);have HB0:=zz b0;have HQ0:=zz q0;have HL0:Hid (Below w.heap.size w (w.alloc (.cells #[.int .u64 0,.string ⟨#[]⟩] 131))):=q0;clear hd hok b0 q0;go_enter Tryz.func75,Tryz.ntmps75
 go_wp2_with fail
 refine(z4w h D a _ (HD.out.later HL0.out) HOK.out ha).mono ?_;rintro e w1 ⟨hs,hn,hb1⟩;have HB1:=zz hb1;cases hv:D.view a with
 |none=>
  obtain rfl:=hn hv;have HT:Hid (z2d (D.view a)=none):=by rw [Hid,hv];rfl
  clear hs hn hb1 hv;go_wp2_with fail
  refine(z4y (fun _=>True) _ [] _ (by simp) Sl.nil).mono ?_;rintro e w2 ⟨rfl,hb2⟩;have hr:z0i []=none:=rfl;rw [hr];unfold z7z zCg;have B0:=zz ((HB0.out.later HB1.out).later hb2);have Q2:=zz ((HQ0.out.trans (HB1.out.mono HQ0.out.size)).trans (hb2.mono (Nat.le_trans HQ0.out.size HB1.out.size)));have hlt:w.heap.size<w2.heap.size:=B0.out.lt;have B0a:=B0.out.alloc (.cells #[.int .u64 ((0:Nat):Int),.string (st [])] 131);have c0:(w2.alloc (.cells #[.int .u64 ((0:Nat):Int),.string (st [])] 131)).cell? ⟨w.heap.size,0,none⟩=some (.int .u64 0):=B0a.cell 0;have c1:(w2.alloc (.cells #[.int .u64 ((0:Nat):Int),.string (st [])] 131)).cell? ⟨w.heap.size,1,none⟩=some (.string ⟨#[]⟩):=B0a.cell 1;have cf0:(w2.alloc (.cells #[.int .u64 ((0:Nat):Int),.string (st [])] 131)).frozen? ⟨w.heap.size,0,none⟩=false:=B0a.free 0;have cf1:(w2.alloc (.cells #[.int .u64 ((0:Nat):Int),.string (st [])] 131)).frozen? ⟨w.heap.size,1,none⟩=false:=B0a.free 1;have B8:=Blk.new w2 131 #[.int .u64 ((0:Nat):Int),.string (st [])];have d0:(w2.alloc (.cells #[.int .u64 ((0:Nat):Int),.string (st [])] 131)).cell? ⟨w2.heap.size,0,none⟩=some (.int .u64 ((0:Nat):Int)):=B8.cell 0;have d1:(w2.alloc (.cells #[.int .u64 ((0:Nat):Int),.string (st [])] 131)).cell? ⟨w2.heap.size,1,none⟩=some (.string (st [])):=B8.cell 1;have df0:(w2.alloc (.cells #[.int .u64 ((0:Nat):Int),.string (st [])] 131)).frozen? ⟨w2.heap.size,0,none⟩=false:=B8.free 0;have df1:(w2.alloc (.cells #[.int .u64 ((0:Nat):Int),.string (st [])] 131)).frozen? ⟨w2.heap.size,1,none⟩=false:=B8.free 1;have BW:=zz B0a;have QW:=zz (Q2.out.alloc Q2.out.size (.cells #[.int .u64 ((0:Nat):Int),.string (st [])] 131));clear hb2 B0a B8;go_wp2_with fail
  generalize hW:w2.alloc _=W at*;have n8:¬w.heap.size=w2.heap.size:=by omega
  have n8':¬w2.heap.size=w.heap.size:=by omega
  go_region
  go_wp2_with fail
  refine bodyPost_ret (z0L rfl _ _ w.heap.size rfl (zAF BW.out _ _) z69) rfl ?_;exact z9o (0,[]) HT.out (z5S QW.out (Nat.le_refl _) _ _)
 |some s=>
  obtain⟨A,c,rfl,hob⟩:=hs s hv;have HOB:=zz hob;have hsl:s.length≤512:=(HOK.out.view.at hv).2.2;have HTV:=zz (zEE hv);clear hs hn hb1 hv hob;go_wp2_with fail
  refine(z4y _ _ s _ (by omega) HOB.out.bs).mono ?_;rintro e w2 ⟨rfl,hb2⟩;have B0:=zz ((HB0.out.later HB1.out).later hb2);have Q2:=zz ((HQ0.out.trans (HB1.out.mono HQ0.out.size)).trans (hb2.mono (Nat.le_trans HQ0.out.size HB1.out.size)));have hlt:w.heap.size<w2.heap.size:=B0.out.lt;have n8:¬w.heap.size=w2.heap.size:=by omega
  have n8':¬w2.heap.size=w.heap.size:=by omega
  clear hb2;cases hg:z0i s with
  |none=>
   have HT:Hid (z2d (D.view a)=none):=by rw [Hid,HTV.out];unfold z7G;rw [hg]
   unfold z7z zCg;have B0a:=B0.out.alloc (.cells #[.int .u64 ((0:Nat):Int),.string (st [])] 131);have c0:(w2.alloc (.cells #[.int .u64 ((0:Nat):Int),.string (st [])] 131)).cell? ⟨w.heap.size,0,none⟩=some (.int .u64 0):=B0a.cell 0;have c1:(w2.alloc (.cells #[.int .u64 ((0:Nat):Int),.string (st [])] 131)).cell? ⟨w.heap.size,1,none⟩=some (.string ⟨#[]⟩):=B0a.cell 1;have cf0:(w2.alloc (.cells #[.int .u64 ((0:Nat):Int),.string (st [])] 131)).frozen? ⟨w.heap.size,0,none⟩=false:=B0a.free 0;have cf1:(w2.alloc (.cells #[.int .u64 ((0:Nat):Int),.string (st [])] 131)).frozen? ⟨w.heap.size,1,none⟩=false:=B0a.free 1;have B8:=Blk.new w2 131 #[.int .u64 ((0:Nat):Int),.string (st [])];have d0:(w2.alloc (.cells #[.int .u64 ((0:Nat):Int),.string (st [])] 131)).cell? ⟨w2.heap.size,0,none⟩=some (.int .u64 ((0:Nat):Int)):=B8.cell 0;have d1:(w2.alloc (.cells #[.int .u64 ((0:Nat):Int),.string (st [])] 131)).cell? ⟨w2.heap.size,1,none⟩=some (.string (st [])):=B8.cell 1;have df0:(w2.alloc (.cells #[.int .u64 ((0:Nat):Int),.string (st [])] 131)).frozen? ⟨w2.heap.size,0,none⟩=false:=B8.free 0;have df1:(w2.alloc (.cells #[.int .u64 ((0:Nat):Int),.string (st [])] 131)).frozen? ⟨w2.heap.size,1,none⟩=false:=B8.free 1;have BW:=zz B0a;have QW:=zz (Q2.out.alloc Q2.out.size (.cells #[.int .u64 ((0:Nat):Int),.string (st [])] 131));clear B0a B8 hg;go_wp2_with fail
   generalize hW:w2.alloc _=W at*;go_region
   go_wp2_with fail
   refine bodyPost_ret (z0L rfl _ _ w.heap.size rfl (zAF BW.out _ _) z69) rfl ?_;exact z9o (0,[]) HT.out (z5S QW.out (Nat.le_refl _) _ _)
  |some x=>
   obtain⟨⟨q,t⟩,n⟩:=x;unfold z7z zCg;have HN:Hid (z2d (D.view a)=if n=s.length∧0<q then some (q,t)else none):=by rw [Hid,HTV.out];unfold z7G;rw [hg]
   have B0a:=B0.out.alloc (.cells #[.int .u64 (q:Int),.string (st t)] 131);have c0:(w2.alloc (.cells #[.int .u64 (q:Int),.string (st t)] 131)).cell? ⟨w.heap.size,0,none⟩=some (.int .u64 0):=B0a.cell 0;have c1:(w2.alloc (.cells #[.int .u64 (q:Int),.string (st t)] 131)).cell? ⟨w.heap.size,1,none⟩=some (.string ⟨#[]⟩):=B0a.cell 1;have cf0:(w2.alloc (.cells #[.int .u64 (q:Int),.string (st t)] 131)).frozen? ⟨w.heap.size,0,none⟩=false:=B0a.free 0;have cf1:(w2.alloc (.cells #[.int .u64 (q:Int),.string (st t)] 131)).frozen? ⟨w.heap.size,1,none⟩=false:=B0a.free 1;have B8:=Blk.new w2 131 #[.int .u64 (q:Int),.string (st t)];have d0:(w2.alloc (.cells #[.int .u64 (q:Int),.string (st t)] 131)).cell? ⟨w2.heap.size,0,none⟩=some (.int .u64 (q:Int)):=B8.cell 0;have d1:(w2.alloc (.cells #[.int .u64 (q:Int),.string (st t)] 131)).cell? ⟨w2.heap.size,1,none⟩=some (.string (st t)):=B8.cell 1;have df0:(w2.alloc (.cells #[.int .u64 (q:Int),.string (st t)] 131)).frozen? ⟨w2.heap.size,0,none⟩=false:=B8.free 0;have df1:(w2.alloc (.cells #[.int .u64 (q:Int),.string (st t)] 131)).frozen? ⟨w2.heap.size,1,none⟩=false:=B8.free 1;have BW:=zz B0a;have QW:=zz (Q2.out.alloc Q2.out.size (.cells #[.int .u64 (q:Int),.string (st t)] 131));clear B0a B8 hg;by_cases hns:n=s.length
   ·subst hns;by_cases hq:0<q
    ·have HT:Hid (z2d (D.view a)=some (q,t)):=by rw [Hid,HN.out,if_pos ⟨rfl,hq⟩]
     have hqi:(0:Int)<(q:Int):=by omega
     have hqd:decide (0<q)=true:=by simpa using hq
     clear hq;go_wp2_with fail
     generalize hW:w2.alloc _=W at*;go_region
     go_wp2_with fail
     refine bodyPost_ret (z0L rfl _ _ w.heap.size rfl (zAF BW.out _ _) z69) rfl ?_;exact zJC (q,t) HT.out (z5S QW.out (Nat.le_refl _) _ _)
    ·obtain rfl:q=0:=by omega
     have HT:Hid (z2d (D.view a)=none):=by rw [Hid,HN.out,if_neg (by omega)]
     clear hq;go_wp2_with fail
     generalize hW:w2.alloc _=W at*;go_region
     go_wp2_with fail
     refine bodyPost_ret (z0L rfl _ _ w.heap.size rfl (zAF BW.out _ _) z69) rfl ?_;exact z9o (0,t) HT.out (z5S QW.out (Nat.le_refl _) _ _)
   ·have HT:Hid (z2d (D.view a)=none):=by rw [Hid,HN.out,if_neg (fun h=>hns h.1)]
    have hnb:((n:Int)==(s.length:Int))=false:=by simp;omega
    clear hns;go_wp2_with fail
    generalize hW:w2.alloc _=W at*;go_region
    go_wp2_with fail
    refine bodyPost_ret (z0L rfl _ _ w.heap.size rfl (zAF BW.out _ _) z69) rfl ?_;exact z9o (q,t) HT.out (z5S QW.out (Nat.le_refl _) _ _)
def z9p(f:SF)(a:Int):Nat→Nat×Int×List UInt8
 |0=>(0,1,[])
 |i+1=>z60 f a (z9p f a i) (i:Int)
theorem z4I(f:SF)(a:Int)(x:Nat×Int×List UInt8)(i:Int):z60 f a x i=match z2d (f (a+i))with|some (q,t)=>if x.1<q then(q,i,t)else x|none=>x:=by
 unfold z60 z2d;cases f (a+i)with
 |none=>rfl
 |some s=>rfl
structure Mk(w:World)(g:Nat)(h:Zn)(a:Int)(num:Nat)(last:Int):Prop where
 blk:Blk w g 151 #[.pointer (some ⟨h.g,0,none⟩),.int .i64 a,.int .u64 (num:Int),.int .i64 last]
structure MbSt(w wr:World)(h:Zn)(a:Int)(x:Nat×Int×List UInt8):Prop where
 blk:Blk wr w.heap.size 151 #[.pointer (some ⟨h.g,0,none⟩),.int .i64 a,.int .u64 (x.1:Int),.int .i64 x.2.1]
 below:Below w.heap.size w wr
theorem MbSt.to{w wr w':World}{h:Zn}{a:Int}{x:Nat×Int×List UInt8}(s:MbSt w wr h a x)(hb:Below wr.heap.size wr w'):MbSt w w' h a x:=⟨s.blk.later hb,s.below.trans (hb.mono s.below.size)⟩
theorem mb_put{w W:World}{h:Zn}{a:Int}{x:Nat×Int×List UInt8}(s:MbSt w W h a x)(n:Nat){q:Nat}{i:Int}{t:List UInt8}:
 MbSt w (((W.drewN n).setCell ⟨w.heap.size,2,none⟩ (.int .u64 (q:Int))).setCell ⟨w.heap.size,3,none⟩ (.int .i64 i)).drew h a (q,i,t):=by
 have s2:=s.to (below_drewN (Below.refl _ _) n);exact⟨(s2.blk.put 2 (.int .u64 (q:Int))).put 3 (.int .i64 i),((s2.below.setCell (p:=⟨w.heap.size,2,none⟩) (Nat.le_refl _) _).setCell (p:=⟨w.heap.size,3,none⟩) (Nat.le_refl _) _).drew⟩
def zI1(h:Zn)(D:Dsk)(a:Int)(w:World)(e:Ending)(w':World):Prop:=
 ∃g,e= .returned (.tuple #[.pointer (some ⟨g,0,none⟩),.string (st (z1m D.view a).2.2),.int .i64 (zIS (z1m D.view a):Nat)])∧
  Mk w' g h a (z1m D.view a).1 (z1m D.view a).2.1∧w.heap.size≤g∧Below w.heap.size w w'
theorem z8f(f:SF)(a:Int):∀i,(z9p f a i).1=0→(z9p f a i).2.2= []
 |0,_=>rfl
 |i+1,h=>by
  have ih:=z8f f a i;rw [z9p,z4I]at h ⊢;cases ht:z2d (f (a+(i:Int)))with
  |none=>rw [ht]at h;exact ih h
  |some x=>
   obtain⟨q,t⟩:=x;rw [ht]at h;simp only at h ⊢;by_cases hq:(z9p f a i).1<q
   ·rw [if_pos hq]at h;simp only at h;omega
   ·rw [if_neg hq]at h ⊢;exact ih h
theorem zI7{h:Zn}{D:Dsk}{a:Int}{w wr:World}{b:List UInt8}{n:Nat}(s:MbSt w wr h a (z9p D.view a 2))(hb:(z9p D.view a 2).2.2=b)(hn:zIS (z9p D.view a 2)=n){ev:Int}(he:ev=(n:Int)):
 zI1 h D a w (.returned (.tuple #[.pointer (some ⟨w.heap.size,0,none⟩),.string (st b),.int .i64 ev])) wr:=by
 subst hb hn he;exact⟨w.heap.size,rfl,⟨s.blk⟩,Nat.le_refl _,s.below⟩
theorem mopen_bad(v:Value)(a:Int)(w:World)(h:a<0∨65534<a):
 Calls Tryz.prog 34 #[v,.int .i64 a] w fun e w'=>e= .returned (.tuple #[.pointer none,.string (st []),.int .i64 122])∧w=w':=by
 rcases Decidable.em (a<0)with h0|h0
 case' inl=>have hx:=h0
 case' inr=>have hx:65534<a:=h.resolve_left h0
 all_goals
  clear h;go_enter Tryz.func34,Tryz.ntmps34
  go_wp2_with fail
  go_ret3
  exact⟨rfl,rfl⟩
theorem zFU(h:Zn)(D:Dsk)(a:Int)(w:World)(hd:Dk w h D)(hok:D.Ok)(h0:0≤a)(h1:a≤65534):
 Calls Tryz.prog 34 #[.pointer (some ⟨h.g,0,none⟩),.int .i64 a] w (zI1 h D a w):=by
 have HD:=zz hd;have HOK:=zz hok;have n0:¬a<0:=by omega
 have n1:¬65534<a:=by omega
 have S0:Hid (MbSt w (w.alloc (.cells #[.pointer (some ⟨h.g,0,none⟩),.int .i64 a,.int .u64 0,.int .i64 1] 151)) h a (z9p D.view a 0)):=⟨Blk.new _ _ _,(Below.refl _ _).alloc (Nat.le_refl _) _⟩;clear hd hok;go_enter Tryz.func34,Tryz.ntmps34
 go_wp2_with fail
 go_loopw [8,22] (fun bv iv wr=>∃i:Nat,iv= .int .i64 (i:Int)∧i≤2∧bv= .string (st (z9p D.view a i).2.2)∧Hid (MbSt w wr h a (z9p D.view a i))) (fun _ iv _=>2-(intOf iv).toNat)
 case atStart=>exact⟨0,rfl,by omega,rfl,S0⟩
 case round=>
  clear S0;obtain⟨i,rfl,hi,rfl,HST⟩:=hrel;by_cases hil:i<2
  ·have hai:InI (a+(i:Int)):=by unfold InI;omega
   have HUP:Hid (z9p D.view a (i+1)=z60 D.view a (z9p D.view a i) (i:Int)):=rfl;obtain⟨x,hx⟩:∃x,z9p D.view a i=x:=⟨_,rfl⟩;rw [hx]at HUP HST;rw [hx];obtain⟨num,last,body⟩:=x;clear hx;go_wp2_with fail
   refine(zDG h D _ _ (HD.out.later HST.out.below) HOK.out hai).mono ?_;rintro e w1 ⟨⟨q,t⟩,ok,rfl,ht,hb1⟩;have s1:=HST.out.to hb1;have HS2:=zz (s1.to ((Below.refl _ _).alloc (Nat.le_refl _) (.cells #[.int .u64 (q:Int),.string (st t)] 131)));have B8:=Blk.new w1 131 #[.int .u64 (q:Int),.string (st t)];have d0:(w1.alloc (.cells #[.int .u64 (q:Int),.string (st t)] 131)).cell? ⟨w1.heap.size,0,none⟩=some (.int .u64 (q:Int)):=B8.cell 0;have d1:(w1.alloc (.cells #[.int .u64 (q:Int),.string (st t)] 131)).cell? ⟨w1.heap.size,1,none⟩=some (.string (st t)):=B8.cell 1;have df0:(w1.alloc (.cells #[.int .u64 (q:Int),.string (st t)] 131)).frozen? ⟨w1.heap.size,0,none⟩=false:=B8.free 0;have df1:(w1.alloc (.cells #[.int .u64 (q:Int),.string (st t)] 131)).frozen? ⟨w1.heap.size,1,none⟩=false:=B8.free 1;have m0:(w1.alloc (.cells #[.int .u64 (q:Int),.string (st t)] 131)).cell? ⟨w.heap.size,0,none⟩=some (.pointer (some ⟨h.g,0,none⟩)):=HS2.out.blk.cell 0;have m1:(w1.alloc (.cells #[.int .u64 (q:Int),.string (st t)] 131)).cell? ⟨w.heap.size,1,none⟩=some (.int .i64 a):=HS2.out.blk.cell 1;have m2:(w1.alloc (.cells #[.int .u64 (q:Int),.string (st t)] 131)).cell? ⟨w.heap.size,2,none⟩=some (.int .u64 (num:Int)):=HS2.out.blk.cell 2;have m3:(w1.alloc (.cells #[.int .u64 (q:Int),.string (st t)] 131)).cell? ⟨w.heap.size,3,none⟩=some (.int .i64 last):=HS2.out.blk.cell 3;have mf0:(w1.alloc (.cells #[.int .u64 (q:Int),.string (st t)] 131)).frozen? ⟨w.heap.size,0,none⟩=false:=HS2.out.blk.free 0;have mf1:(w1.alloc (.cells #[.int .u64 (q:Int),.string (st t)] 131)).frozen? ⟨w.heap.size,1,none⟩=false:=HS2.out.blk.free 1;have mf2:(w1.alloc (.cells #[.int .u64 (q:Int),.string (st t)] 131)).frozen? ⟨w.heap.size,2,none⟩=false:=HS2.out.blk.free 2;have mf3:(w1.alloc (.cells #[.int .u64 (q:Int),.string (st t)] 131)).frozen? ⟨w.heap.size,3,none⟩=false:=HS2.out.blk.free 3;have hlt:w.heap.size<w1.heap.size:=s1.blk.lt;have n8:¬w.heap.size=w1.heap.size:=by omega
   have n8':¬w1.heap.size=w.heap.size:=by omega
   have HT:=zz ht;clear B8 s1 hb1 ht;unfold zCg;cases ok with
   |false=>
    have HU:Hid (z9p D.view a (i+1)=(num,last,body)):=by rw [Hid,HUP.out,z4I,HT.out];rfl
    go_wp2_with fail
    generalize hW:w1.alloc _=W at*;go_quiet (fail)
    go_wp2_with fail
    go_roundw
    case rel=>exact⟨i+1,by go_num,by omega,by rw [HU.out],by rw [HU.out];exact HS2.out.to (below_drewN (Below.refl _ _) _)⟩
    case measure=>simp [intOf];omega
   |true=>
    by_cases hq:num<q
    ·have HU:Hid (z9p D.view a (i+1)=(q,(i:Int),t)):=by rw [Hid,HUP.out,z4I,HT.out];simp [hq]
     have hqd:decide (num<q)=true:=by simpa using hq
     clear hq;go_wp2_with fail
     generalize hW:w1.alloc _=W at*;go_quiet (fail)
     go_wp2_with fail
     go_region
     go_wp2_with fail
     go_roundw
     case rel=>exact⟨i+1,by go_num,by omega,by rw [HU.out],by rw [HU.out];exact mb_put HS2.out nq⟩
     case measure=>simp [intOf];omega
    ·have HU:Hid (z9p D.view a (i+1)=(num,last,body)):=by rw [Hid,HUP.out,z4I,HT.out];simp [hq]
     have hqd:decide (num<q)=false:=by simpa using hq
     clear hq;go_wp2_with fail
     generalize hW:w1.alloc _=W at*;go_quiet (fail)
     go_wp2_with fail
     go_roundw
     case rel=>exact⟨i+1,by go_num,by omega,by rw [HU.out],by rw [HU.out];exact HS2.out.to (below_drewN (Below.refl _ _) _)⟩
     case measure=>simp [intOf];omega
  ·obtain rfl:i=2:=by omega
   have HE:=z8f D.view a 2;obtain⟨x,hx⟩:∃x,z9p D.view a 2=x:=⟨_,rfl⟩;have HX:=zz hx;rw [hx]at HE HST ⊢;obtain⟨num,last,body⟩:=x;simp only at HE HST;have m0:(wr).cell? ⟨w.heap.size,0,none⟩=some (.pointer (some ⟨h.g,0,none⟩)):=HST.out.blk.cell 0;have m1:(wr).cell? ⟨w.heap.size,1,none⟩=some (.int .i64 a):=HST.out.blk.cell 1;have m2:(wr).cell? ⟨w.heap.size,2,none⟩=some (.int .u64 (num:Int)):=HST.out.blk.cell 2;have m3:(wr).cell? ⟨w.heap.size,3,none⟩=some (.int .i64 last):=HST.out.blk.cell 3;have mf0:(wr).frozen? ⟨w.heap.size,0,none⟩=false:=HST.out.blk.free 0;have mf1:(wr).frozen? ⟨w.heap.size,1,none⟩=false:=HST.out.blk.free 1;have mf2:(wr).frozen? ⟨w.heap.size,2,none⟩=false:=HST.out.blk.free 2;have mf3:(wr).frozen? ⟨w.heap.size,3,none⟩=false:=HST.out.blk.free 3;have HEE:=zz HE;clear HE hx;by_cases hn0:num=0
   ·subst hn0;go_wp2_with fail
    go_ret3
    exact zI7 (by rw [HX.out];exact HST.out) (by rw [HX.out];exact HEE.out (by trivial)) (by rw [HX.out];rfl) rfl
   ·have hnb:((num:Int)==0)=false:=by simp;omega
    go_wp2_with fail
    go_ret3
    exact zI7 (by rw [HX.out];exact HST.out) (by rw [HX.out]) (by rw [HX.out];exact if_neg hn0) rfl
section
variable {D:Dsk} {a:Int} {num:Nat} {last:Int} {body:List UInt8} {k:Int}
end
theorem Dk.other{w w':World}{h:Zn}{D:Dsk}(d:Dk w h D){z:Nat}{t:TypeId}(hz:z0H w z=some (some t))(ht:t∉ [76,124,3,31,5])(hg:w.grownBy w' (some z)):Dk w' h D:=by
 simp only [List.mem_cons,List.not_mem_nil,or_false,not_or]at ht;obtain⟨t1,t2,t3,t4,t5⟩:=ht;obtain⟨vs,h1,h2⟩:=d.pend;have ne:∀ {b:Nat} {k:Option TypeId},z0H w b=some k→k≠some t→b≠z:=fun hb hk e=>by subst e;rw [hz]at hb;injection hb with hb;exact hk hb.symm
 refine⟨d.blk.grown hg (fun e=> ?_),d.view.other (ne d.view.kind (by simp)) (by rw [hz];simpa using t5) hg,d.ground.other (ne d.ground.kind (by simp)) (by rw [hz];simpa using t5) hg,d.ne,vs,h1.other (fun e=> ?_) hg,h2.keep fun v p hp=>hp.other (fun s hs=> ?_) hg⟩
 ·injection e with e
  subst e;have:=z0K d.blk;rw [hz]at this;injection this with this
  injection this with this
  exact t1 this
 ·have:=z1V h1 e;rw [hz]at this;injection this with this
  injection this with this
  exact t2 this
 ·rw [hz];intro e;injection e with e
  injection e with e
  subst e;simp only [z2l,List.mem_cons,List.not_mem_nil,or_false]at hs;rcases hs with h|h|h
  ·exact t3 h
  ·exact t4 h
  ·exact t5 h
structure Mtp(h:Zn)(gm:Nat)(w:World)(h':Zn)(w':World):Prop where
 g:h'.g=h.g
 turn:Turn (fun b=>h.has b∨b=gm) w w'
 has:∀b,h'.has b→h.has b∨w.heap.size≤b
theorem Mtp.of_stp{h h':Zn}{g:Nat}{w w':World}(s:Stp h w h' w'):Mtp h g w h' w':=⟨s.g,s.turn.mono fun b hb _=> .inl hb,s.has⟩
theorem Mk.later{w w':World}{g:Nat}{h:Zn}{a:Int}{num:Nat}{last:Int}(m:Mk w g h a num last)(hb:Below w.heap.size w w'):Mk w' g h a num last:=⟨m.blk.later hb⟩
end
section
open Go
section
variable {f:SF} {a:Int} {num:Nat} {last:Int} {body:List UInt8}
end
section
variable {D:Dsk} {a:Int} {num:Nat} {last:Int} {body t:List UInt8}
end
theorem c15:∀b,b<256→∀t,t<5→b / 16≤4→b%16≤4→((b / 16+16*t+b)&&& 15=(b / 16+b)&&& 15):=by decide+kernel
end
section
open Go Go.RowKit
def flipAt(l:List Bool)(k:Nat):List Bool:=l.set k (!(l.getD k false))
def hasB(l:List Bool)(p:Int):Bool:=decide (0≤p)&&decide (p<l.length)&&l.getD p.toNat false
def zI3(l:List Bool)(p:Int):List Bool×Nat:=if p<0∨(l.length:Int)≤p∨hasB l p=true then(l,92)else(flipAt l p.toNat,0)
end
section
open Go
abbrev TF:=Int→Option (Nat×Nat)
def TF.put(t:TF)(a:Int)(x:Nat×Nat):TF:=fun y=>if y=a then some x else t y
def z3c{α:Type}(f:Int→Option α):List Nat:=(List.range 90).filter fun i=>(f (i:Int)).isSome
def zDC{α:Type}(f:Int→Option α):Prop:=∀x,(f x).isSome=true→0≤x∧x<90
structure Pgr where
 D:Dsk
 a:Int
 n:Nat
 num:Nat
 last:Int
 tag:Nat
 tb:TF
 wr:SF
 gn:Int→Bool
def Pgr.has(P:Pgr)(x:Int):Bool:=(P.wr x).isSome||((P.tb x).isSome&& !P.gn x)
def Pgr.pages(P:Pgr):List Nat:=(List.range 90).filter fun i=>P.has (i:Int)
def z6B(x:Int)(b:List UInt8):Nat:=if x<0∨90≤x then 131 else if 2048<b.length then 132 else 0
def z2y(g:Int→Bool)(x:Int)(v:Bool):Int→Bool:=fun y=>if y=x then v else g y
def Pgr.put(P:Pgr)(x:Int)(b:List UInt8):Pgr:={P with wr:=P.wr.put x b,gn:=z2y P.gn x false}
def Pgr.write(P:Pgr)(x:Int)(b:List UInt8):Pgr:=if z6B x b=0 then P.put x b else P
def Pgr.free(P:Pgr)(x:Int):Pgr:=if P.has x then {P with wr:=P.wr.del x,gn:=z2y P.gn x true}else P
def Pgr.least(P:Pgr):Option Nat:=(List.range 90).find? fun i=> !P.has (i:Int)
def Pgr.alloc(P:Pgr)(b:List UInt8):Pgr×Nat×Nat:=if 2048<b.length then(P,0,132)else match P.least with
 |some i=>(P.put (i:Int) b,i,0)
 |none=>(P,0,133)
def zFo(b:List UInt8)(k:Nat):List UInt8:=(b.drop (512*k)).take 512
def z81(a:Int)(p:Nat):Int:=a+2+4*(p:Int)
structure PcSt where
 rest:List UInt8
 err:Nat
 last:Int
 used:List Bool
 t:TF
def pcOne(n:Nat)(s:PcSt):Option PcSt:=
 let x:=z0U s.rest s.err 89
 let y:=z0U x.2.1 x.2.2 ((n:Int)-1)
 let z:=z0U y.2.1 y.2.2 2048
 if(z1u z.2.1 z.2.2≠0∧z1u z.2.1 z.2.2≠31)∨(x.1:Int)≤s.last∨(zI3 s.used (y.1:Int)).2≠0 then none
 else some ⟨z.2.1,z.2.2,(x.1:Int),(zI3 s.used (y.1:Int)).1,s.t.put (x.1:Int) (y.1,z.1)⟩
def zHr(n:Nat):Nat→PcSt→Option PcSt
 |0,s=>some s
 |k+1,s=>match pcOne n s with
  |some s'=>zHr n k s'
  |none=>none
def pcInit(n:Nat)(body:List UInt8):PcSt:=
 ⟨(z0U (z14 body 0).2.1 (z14 body 0).2.2 90).2.1,(z0U (z14 body 0).2.1 (z14 body 0).2.2 90).2.2,-1,List.replicate n false,fun _=>none⟩
def zFE(n:Nat)(body:List UInt8):Option (Nat×TF):=match zHr n (z0U (z14 body 0).2.1 (z14 body 0).2.2 90).1 (pcInit n body)with
 |some s=>if z1u s.rest s.err=0 then some ((z14 body 0).1,s.t)else none
 |none=>none
def z1s(D:Dsk)(a:Int)(n:Nat)(num:Nat)(last:Int)(x:Nat×TF):Pgr:=⟨D,a,n,num,last,x.1,x.2,fun _=>none,fun _=>false⟩
def z5x(D:Dsk)(a:Int)(n:Nat):Option Pgr:=
 if(z1m D.view a).1=0 then some (z1s D a n 0 (z1m D.view a).2.1 (0,fun _=>none))
 else(zFE n (z1m D.view a).2.2).map (z1s D a n (z1m D.view a).1 (z1m D.view a).2.1)
def pgPl(a n:Int):Prop:=2≤n∧n≤256∧0≤a∧a≤65534-4*n
section
variable {D D':Dsk} {x:Int} {b:List UInt8}
variable {D0:Dsk} {S:Int→Prop}
theorem z6t(l:List (Int×Int)):∀ (ps:List Pnd) (k:Nat) (s:SF×Nat),(∀p∈ps,∃x b,p= .wr x b∧S x)→∀y,¬S y→(z0h l k ps s).1 y=s.1 y
 | [],_,_,_,_,_=>rfl
 |p::ps,k,s,hp,y,hy=>by
  obtain⟨x,b,rfl,hx⟩:=hp p (by simp);show(z0h l (k+1) ps _).1 y=_;rw [z6t l ps (k+1) _ (fun q hq=>hp q (by simp [hq])) y hy];cases zE6 l k with
  |none=>rfl
  |some n=>exact if_neg (fun e=>hy (by rw [e];exact hx))
end
section
variable {D:Dsk} {a:Int} {num:Nat} {last:Int} {body t:List UInt8}
end
theorem zBS{α:Type}{f:Int→Option α}{i:Nat}:i∈z3c f↔i<90∧(f (i:Int)).isSome=true:=by
 unfold z3c;rw [List.mem_filter,List.mem_range]
theorem ids_lt{α:Type}(f:Int→Option α):(z3c f).Pairwise (· < ·):=List.Pairwise.sublist List.filter_sublist List.pairwise_lt_range
theorem ids_le{α:Type}(f:Int→Option α):(z3c f).length≤90:=by
 have:=List.length_filter_le (fun i:Nat=>(f (i:Int)).isSome) (List.range 90);rw [List.length_range]at this;exact this
section
variable {D D':Dsk} {a:Int} {n num:Nat} {last:Int} {tag:Nat} {tb:TF} {c:Int→List UInt8}
end
section
variable {P:Pgr} {c:Int→List UInt8} {t:TF} {tag:Nat}
end
end
section
open Go Go.RowKit
end
end Go.Proofs.YthbhkdhljlganaaGreatDoor
